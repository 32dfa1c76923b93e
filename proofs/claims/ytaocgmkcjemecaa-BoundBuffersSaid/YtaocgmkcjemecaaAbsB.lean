/- How the interpreter's values stand for the program's. Parts of the proofs of the laws. Conditions: none. -/
import Derived.Test.YtaocgmkcjemecaaAbsA
import Derived.Test.YtaocgmkcjemecaaRep
namespace Go.Proofs.Ytaocgmkcjemecaa
open Go.RowKit
set_option linter.unusedVariables false
set_option linter.unusedSimpArgs false

/-- Where an object lies: its block, or the slice that has its row. -/
inductive Pl where
  | blk (b : Nat)
  | sv (v : Value)

abbrev Ones (vs : List Value) : Prop := ∀ v ∈ vs, v.oneCell' = true

/-- Elements that lie one behind the other, in cells that stay. -/
def Laid (S : Nat → Nat → Prop) (w : World) (a : Option Addr) (size : Nat) (vss : List (List Value)) : Prop :=
  (∀ vs ∈ vss, vs.length = size) ∧ ∀ j vs t u, vss[j]? = some vs → vs[t]? = some u → ∃ b o, a = some ⟨b, o, none⟩ ∧ S b (o + j * size + t) ∧ w.cell? ⟨b, o + j * size + t, none⟩ = some u

def Cap (a : Option Addr) (n cap : Nat) : Prop := n ≤ cap ∧ cap ≤ maxLen ∧ (a = none → cap = 0)

mutual
inductive Rep (S : Nat → Nat → Prop) (w : World) : Hp → List Pl → AV → Value → Prop
  | junk (hp φ v) : Rep S w hp φ .junk v
  | bool (hp φ b) : Rep S w hp φ (.bool b) (.bool b)
  | int (hp φ k n) (h : (Lit.int k n).wf = true) : Rep S w hp φ (.int k n) (.int k n)
  | str (hp φ s) (h : s.length ≤ maxLen) : Rep S w hp φ (.str s) (.string (bs s))
  | nilp (hp φ) : Rep S w hp φ .nilp (.pointer none)
  | ptr (hp φ id off b) (h : φ[id]? = some (.blk b)) : Rep S w hp φ (.ptr id off) (.pointer (some ⟨b, off, none⟩))
  | pte (hp φ id i off b size els) (h : φ[id]? = some (.blk b)) (ho : nth? hp id = some (.arr size els)) : Rep S w hp φ (.pte id i off) (.pointer (some ⟨b, i * size + off, none⟩))
  | rptr (hp φ el off vs b o) (hr : Reps S w [] [] el vs) (h1 : Ones vs) (hl : ∀ j u, vs[j]? = some u → S b (o + j) ∧ w.cell? ⟨b, o + j, none⟩ = some u) : Rep S w hp φ (.rptr el off) (.pointer (some ⟨b, o + off, none⟩))
  | nils (hp φ) : Rep S w hp φ .nils (.slice none 0 0)
  | sl (hp φ size els vss a cap) (hr : Repss S w els vss) (hl : Laid S w a size vss) (hc : Cap a els.length cap) : Rep S w hp φ (.sl size els) (.slice a els.length cap)
  | row (hp φ id n v e size els) (ho : nth? hp id = some (.row e size els)) (hn : n ≤ els.length) (hs : Rep S w [] [] (.sl size (els.take n)) v) (hcur : n = els.length → φ[id]? = some (.sv v)) : Rep S w hp φ (.row id n) v
  | own (hp φ id off n b size els cap) (h : φ[id]? = some (.blk b)) (ho : nth? hp id = some (.arr size els)) (hn : off + n ≤ els.length) (ad : Option Addr) (had : 0 < n → ad = some ⟨b, off * size, none⟩) (hc : Cap ad n cap) : Rep S w hp φ (.own id off n) (.slice ad n cap)
  | agg (hp φ cs vs) (hr : Reps S w hp φ cs vs) (h1 : Ones vs) : Rep S w hp φ (.agg cs) (.agg vs.toArray)
  | tup (hp φ cs vs) (hr : Reps S w hp φ cs vs) : Rep S w hp φ (.tup cs) (.tuple vs.toArray)
  | func (hp φ f x y a b) (hx : Reps S w hp φ x a) (hy : Reps S w hp φ y b) : Rep S w hp φ (.func f x y) (.func (.func f) a.toArray b.toArray)
  | nilf (hp φ) : Rep S w hp φ .nilf .nilFunc
inductive Reps (S : Nat → Nat → Prop) (w : World) : Hp → List Pl → List AV → List Value → Prop
  | nil (hp φ) : Reps S w hp φ [] []
  | cons (hp φ a v l vs) (h : Rep S w hp φ a v) (t : Reps S w hp φ l vs) : Reps S w hp φ (a :: l) (v :: vs)
inductive Repss (S : Nat → Nat → Prop) (w : World) : List (List AV) → List (List Value) → Prop
  | nil : Repss S w [] []
  | cons (el vs l vss) (h : Reps S w [] [] el vs) (h1 : Ones vs) (t : Repss S w l vss) : Repss S w (el :: l) (vs :: vss)
end

/-- The cells that stay go on staying. -/
def SExt (S : Nat → Nat → Prop) (w : World) (S' : Nat → Nat → Prop) (w' : World) : Prop := ∀ b o, S b o → S' b o ∧ w'.cell? ⟨b, o, none⟩ = w.cell? ⟨b, o, none⟩
theorem SExt.refl (S : Nat → Nat → Prop) (w : World) : SExt S w S w := fun _ _ h => ⟨h, rfl⟩
theorem SExt.trans {S1 S2 S3 : Nat → Nat → Prop} {w1 w2 w3 : World} (h : SExt S1 w1 S2 w2) (k : SExt S2 w2 S3 w3) : SExt S1 w1 S3 w3 := fun b o hb => ⟨(k b o (h b o hb).1).1, (k b o (h b o hb).1).2.trans (h b o hb).2⟩

/-- What is known of objects goes on holding. -/
structure HpExt (hp : Hp) (φ : List Pl) (hp' : Hp) (φ' : List Pl) : Prop where
  blk : ∀ (id b : Nat), φ[id]? = some (Pl.blk b) → φ'[id]? = some (Pl.blk b)
  arr : ∀ (id size : Nat) (els : List (List AV)), nth? hp id = some (.arr size els) → ∃ els', nth? hp' id = some (.arr size els') ∧ els'.length = els.length
  row : ∀ (id : Nat) (e : TypeId) (size : Nat) (els : List (List AV)), nth? hp id = some (.row e size els) → ∃ more, nth? hp' id = some (.row e size (els ++ more)) ∧ (more = [] → ∀ v, φ[id]? = some (Pl.sv v) → φ'[id]? = some (Pl.sv v))
theorem HpExt.refl (hp : Hp) (φ : List Pl) : HpExt hp φ hp φ := ⟨fun _ _ h => h, fun _ _ _ h => ⟨_, h, rfl⟩, fun _ _ _ els h => ⟨[], by simpa using h, fun _ _ h => h⟩⟩
theorem HpExt.trans {hp1 hp2 hp3 : Hp} {φ1 φ2 φ3 : List Pl} (h : HpExt hp1 φ1 hp2 φ2) (k : HpExt hp2 φ2 hp3 φ3) : HpExt hp1 φ1 hp3 φ3 := by
  refine ⟨fun id b hb => k.blk id b (h.blk id b hb), fun id size els he => ?_, fun id e size els he => ?_⟩
  · obtain ⟨els', h1, h2⟩ := h.arr id size els he
    obtain ⟨els'', h3, h4⟩ := k.arr id size els' h1
    exact ⟨els'', h3, h4.trans h2⟩
  · obtain ⟨m1, h1, h2⟩ := h.row id e size els he
    obtain ⟨m2, h3, h4⟩ := k.row id e size _ h1
    refine ⟨m1 ++ m2, by rw [← List.append_assoc]; exact h3, fun hm v hv => ?_⟩
    obtain ⟨rfl, rfl⟩ := List.append_eq_nil_iff.1 hm
    exact h4 rfl v (h2 rfl v hv)
theorem HpExt.nil : HpExt [] [] [] [] := HpExt.refl _ _

theorem Laid.mono {S S' : Nat → Nat → Prop} {w w' : World} (hS : SExt S w S' w') {a : Option Addr} {size : Nat} {vss : List (List Value)} (h : Laid S w a size vss) : Laid S' w' a size vss :=
  ⟨h.1, fun j vs t u h1 h2 => let ⟨b, o, e, hs, hc⟩ := h.2 j vs t u h1 h2; ⟨b, o, e, (hS _ _ hs).1, ((hS _ _ hs).2).trans hc⟩⟩

mutual
theorem Rep.mono {S S' : Nat → Nat → Prop} {w w' : World} (hS : SExt S w S' w') {hp : Hp} {φ : List Pl} {a : AV} {v : Value} {hp' : Hp} {φ' : List Pl} (h : Rep S w hp φ a v) (hE : HpExt hp φ hp' φ') : Rep S' w' hp' φ' a v := match h with
  | .junk _ _ v => .junk _ _ v
  | .bool _ _ b => .bool _ _ b
  | .int _ _ k n h => .int _ _ k n h
  | .str _ _ s h => .str _ _ s h
  | .nilp _ _ => .nilp _ _
  | .ptr _ _ id off b h => .ptr _ _ id off b (hE.blk id b h)
  | .pte _ _ id i off b size els h ho => let ⟨els', h1, _⟩ := hE.arr id size els ho; .pte _ _ id i off b size els' (hE.blk id b h) h1
  | .rptr _ _ el off vs b o hr h1 hl => .rptr _ _ el off vs b o (Reps.mono hS hr HpExt.nil) h1 fun j u hj => let ⟨x, y⟩ := hl j u hj; ⟨(hS _ _ x).1, ((hS _ _ x).2).trans y⟩
  | .nils _ _ => .nils _ _
  | .sl _ _ size els vss a cap hr hl hc => .sl _ _ size els vss a cap (Repss.mono hS hr) (hl.mono hS) hc
  | .row _ _ id n v e size els ho hn hs hcur => by
    obtain ⟨more, h1, h2⟩ := hE.row id e size els ho
    refine .row _ _ id n v e size (els ++ more) h1 (by rw [List.length_append]; omega) ?_ ?_
    · rw [List.take_append_of_le_length hn]; exact Rep.mono hS hs HpExt.nil
    · intro hn'
      rw [List.length_append] at hn'
      have hm : more = [] := List.eq_nil_of_length_eq_zero (by omega)
      exact h2 hm v (hcur (by omega))
  | .own _ _ id off n b size els cap h ho hn ad had hc => let ⟨els', h1, h2⟩ := hE.arr id size els ho; .own _ _ id off n b size els' cap (hE.blk id b h) h1 (by omega) ad had hc
  | .agg _ _ cs vs hr h1 => .agg _ _ cs vs (Reps.mono hS hr hE) h1
  | .tup _ _ cs vs hr => .tup _ _ cs vs (Reps.mono hS hr hE)
  | .func _ _ f x y a b hx hy => .func _ _ f x y a b (Reps.mono hS hx hE) (Reps.mono hS hy hE)
  | .nilf _ _ => .nilf _ _
theorem Reps.mono {S S' : Nat → Nat → Prop} {w w' : World} (hS : SExt S w S' w') {hp : Hp} {φ : List Pl} {l : List AV} {vs : List Value} {hp' : Hp} {φ' : List Pl} (h : Reps S w hp φ l vs) (hE : HpExt hp φ hp' φ') : Reps S' w' hp' φ' l vs := match h with
  | .nil _ _ => .nil _ _
  | .cons _ _ a v l vs h t => .cons _ _ a v l vs (Rep.mono hS h hE) (Reps.mono hS t hE)
theorem Repss.mono {S S' : Nat → Nat → Prop} {w w' : World} (hS : SExt S w S' w') {l : List (List AV)} {vss : List (List Value)} (h : Repss S w l vss) : Repss S' w' l vss := match h with
  | .nil => .nil
  | .cons el vs l vss h h1 t => .cons el vs l vss (Reps.mono hS h HpExt.nil) h1 (Repss.mono hS t)
end

/-! ### Lists -/
theorem nth?_eq {α : Type} (l : List α) (i : Nat) : nth? l i = l[i]? := by
  induction l generalizing i with
  | nil => rfl
  | cons a t ih => cases i with
    | zero => rfl
    | succ i => simpa [nth?] using ih i
theorem nth_eq {α : Type} (d : α) (l : List α) (i : Nat) : nth d l i = l[i]?.getD d := by
  induction l generalizing i with
  | nil => rfl
  | cons a t ih => cases i with
    | zero => rfl
    | succ i => simpa [nth] using ih i
theorem setNth_eq {α : Type} (l : List α) (i : Nat) (x : α) : setNth l i x = l.set i x := by
  induction l generalizing i with
  | nil => rfl
  | cons a t ih => cases i with
    | zero => rfl
    | succ i => simpa [setNth] using ih i

theorem Reps.length {S : Nat → Nat → Prop} {w : World} {hp : Hp} {φ : List Pl} {l : List AV} {vs : List Value} (h : Reps S w hp φ l vs) : l.length = vs.length := by
  induction l generalizing vs with
  | nil => cases h; rfl
  | cons a t ih => cases h with | cons _ _ _ v _ vs h t => simp [ih t]
theorem Reps.get {S : Nat → Nat → Prop} {w : World} {hp : Hp} {φ : List Pl} {l : List AV} {vs : List Value} (h : Reps S w hp φ l vs) {i : Nat} {v : Value} (hi : vs[i]? = some v) : ∃ a, l[i]? = some a ∧ Rep S w hp φ a v := by
  induction l generalizing vs i with
  | nil => cases h; simp at hi
  | cons a t ih => cases h with
    | cons _ _ _ u _ vs h t => cases i with
      | zero => simp at hi; subst hi; exact ⟨a, rfl, h⟩
      | succ i => simpa using ih t (by simpa using hi)
theorem Reps.get' {S : Nat → Nat → Prop} {w : World} {hp : Hp} {φ : List Pl} {l : List AV} {vs : List Value} (h : Reps S w hp φ l vs) {i : Nat} {a : AV} (hi : l[i]? = some a) : ∃ v, vs[i]? = some v ∧ Rep S w hp φ a v := by
  have hlt := (List.getElem?_eq_some_iff.1 hi).1
  obtain ⟨v, hv⟩ : ∃ v, vs[i]? = some v := ⟨_, List.getElem?_eq_getElem (by rw [← h.length]; exact hlt)⟩
  obtain ⟨a', h1, h2⟩ := h.get hv
  rw [hi] at h1; cases h1
  exact ⟨v, hv, h2⟩
theorem Reps.of {S : Nat → Nat → Prop} {w : World} {hp : Hp} {φ : List Pl} {l : List AV} {vs : List Value} (hl : l.length = vs.length) (h : ∀ (i : Nat) a v, l[i]? = some a → vs[i]? = some v → Rep S w hp φ a v) : Reps S w hp φ l vs := by
  induction l generalizing vs with
  | nil => cases vs with
    | nil => exact .nil _ _
    | cons _ _ => simp at hl
  | cons a t ih => cases vs with
    | nil => simp at hl
    | cons v vs => exact .cons _ _ a v t vs (h 0 a v rfl rfl) (ih (by simpa using hl) fun i a v h1 h2 => h (i + 1) a v (by simpa using h1) (by simpa using h2))
theorem Reps.append {S : Nat → Nat → Prop} {w : World} {hp : Hp} {φ : List Pl} {l l' : List AV} {vs vs' : List Value} (h : Reps S w hp φ l vs) (h' : Reps S w hp φ l' vs') : Reps S w hp φ (l ++ l') (vs ++ vs') := by
  induction l generalizing vs with
  | nil => cases h; exact h'
  | cons a t ih => cases h with | cons _ _ _ v _ vs h t => exact .cons _ _ _ _ _ _ h (ih t)
theorem Reps.take {S : Nat → Nat → Prop} {w : World} {hp : Hp} {φ : List Pl} {l : List AV} {vs : List Value} (h : Reps S w hp φ l vs) (n : Nat) : Reps S w hp φ (l.take n) (vs.take n) := by
  induction l generalizing vs n with
  | nil => cases h; simp; exact .nil _ _
  | cons a t ih => cases h with
    | cons _ _ _ v _ vs h t => cases n with
      | zero => exact .nil _ _
      | succ n => exact .cons _ _ _ _ _ _ h (ih t n)
theorem Reps.drop {S : Nat → Nat → Prop} {w : World} {hp : Hp} {φ : List Pl} {l : List AV} {vs : List Value} (h : Reps S w hp φ l vs) (n : Nat) : Reps S w hp φ (l.drop n) (vs.drop n) := by
  induction l generalizing vs n with
  | nil => cases h; simp; exact .nil _ _
  | cons a t ih => cases h with
    | cons _ _ _ v _ vs h t => cases n with
      | zero => exact .cons _ _ _ _ _ _ h t
      | succ n => exact ih t n
theorem Reps.set {S : Nat → Nat → Prop} {w : World} {hp : Hp} {φ : List Pl} {l : List AV} {vs : List Value} (h : Reps S w hp φ l vs) (i : Nat) {a : AV} {v : Value} (hv : Rep S w hp φ a v) : Reps S w hp φ (l.set i a) (vs.set i v) := by
  induction l generalizing vs i with
  | nil => cases h; exact .nil _ _
  | cons b t ih => cases h with
    | cons _ _ _ u _ vs h t => cases i with
      | zero => exact .cons _ _ _ _ _ _ hv t
      | succ i => exact .cons _ _ _ _ _ _ h (ih t i)
theorem Repss.length {S : Nat → Nat → Prop} {w : World} {l : List (List AV)} {vss : List (List Value)} (h : Repss S w l vss) : l.length = vss.length := by
  induction l generalizing vss with
  | nil => cases h; rfl
  | cons a t ih => cases h with | cons _ _ _ _ h h1 t => simp [ih t]
theorem Repss.get {S : Nat → Nat → Prop} {w : World} {l : List (List AV)} {vss : List (List Value)} (h : Repss S w l vss) {i : Nat} {el : List AV} (hi : l[i]? = some el) : ∃ vs, vss[i]? = some vs ∧ Reps S w [] [] el vs ∧ Ones vs := by
  induction l generalizing vss i with
  | nil => simp at hi
  | cons a t ih => cases h with
    | cons _ vs _ _ h h1 t => cases i with
      | zero => simp at hi; subst hi; exact ⟨vs, rfl, h, h1⟩
      | succ i => simpa using ih t (by simpa using hi)
theorem Repss.append {S : Nat → Nat → Prop} {w : World} {l l' : List (List AV)} {vss vss' : List (List Value)} (h : Repss S w l vss) (h' : Repss S w l' vss') : Repss S w (l ++ l') (vss ++ vss') := by
  induction l generalizing vss with
  | nil => cases h; exact h'
  | cons a t ih => cases h with | cons _ _ _ _ h h1 t => exact .cons _ _ _ _ h h1 (ih t)
theorem Repss.take {S : Nat → Nat → Prop} {w : World} {l : List (List AV)} {vss : List (List Value)} (h : Repss S w l vss) (n : Nat) : Repss S w (l.take n) (vss.take n) := by
  induction l generalizing vss n with
  | nil => cases h; simp; exact .nil
  | cons a t ih => cases h with
    | cons _ _ _ _ h h1 t => cases n with
      | zero => exact .nil
      | succ n => exact .cons _ _ _ _ h h1 (ih t n)
theorem Repss.drop {S : Nat → Nat → Prop} {w : World} {l : List (List AV)} {vss : List (List Value)} (h : Repss S w l vss) (n : Nat) : Repss S w (l.drop n) (vss.drop n) := by
  induction l generalizing vss n with
  | nil => cases h; simp; exact .nil
  | cons a t ih => cases h with
    | cons _ _ _ _ h h1 t => cases n with
      | zero => exact .cons _ _ _ _ h h1 t
      | succ n => exact ih t n
theorem Repss.set {S : Nat → Nat → Prop} {w : World} {l : List (List AV)} {vss : List (List Value)} (h : Repss S w l vss) (i : Nat) {el : List AV} {vs : List Value} (hv : Reps S w [] [] el vs) (h1 : Ones vs) : Repss S w (l.set i el) (vss.set i vs) := by
  induction l generalizing vss i with
  | nil => cases h; exact .nil
  | cons b t ih => cases h with
    | cons _ _ _ _ h h1' t => cases i with
      | zero => exact .cons _ _ _ _ hv h1 t
      | succ i => exact .cons _ _ _ _ h h1' (ih t i)
theorem Repss.replicate {S : Nat → Nat → Prop} {w : World} {el : List AV} {vs : List Value} (hv : Reps S w [] [] el vs) (h1 : Ones vs) (n : Nat) : Repss S w (List.replicate n el) (List.replicate n vs) := by
  induction n with
  | zero => exact .nil
  | succ n ih => exact .cons _ _ _ _ hv h1 ih

section inv
variable {S : Nat → Nat → Prop} {w : World} {hp : Hp} {φ : List Pl} {v : Value}
theorem Rep.bool_inv {b : Bool} (h : Rep S w hp φ (.bool b) v) : v = .bool b := by cases h; rfl
theorem Rep.int_inv {k : IntKind} {n : Int} (h : Rep S w hp φ (.int k n) v) : v = .int k n ∧ (Lit.int k n).wf = true := by cases h; exact ⟨rfl, by assumption⟩
theorem Rep.str_inv {s : List UInt8} (h : Rep S w hp φ (.str s) v) : v = .string (bs s) ∧ s.length ≤ maxLen := by cases h; exact ⟨rfl, by assumption⟩
theorem Rep.ptr_inv {id off : Nat} (h : Rep S w hp φ (.ptr id off) v) : ∃ b, φ[id]? = some (.blk b) ∧ v = .pointer (some ⟨b, off, none⟩) := by cases h; exact ⟨_, by assumption, rfl⟩
theorem Rep.pte_inv {id i off : Nat} (h : Rep S w hp φ (.pte id i off) v) : ∃ b size els, φ[id]? = some (.blk b) ∧ nth? hp id = some (.arr size els) ∧ v = .pointer (some ⟨b, i * size + off, none⟩) := by
  cases h; exact ⟨_, _, _, by assumption, by assumption, rfl⟩
theorem Rep.rptr_inv {el : List AV} {off : Nat} (h : Rep S w hp φ (.rptr el off) v) : ∃ vs b o, Reps S w [] [] el vs ∧ Ones vs ∧ (∀ j u, vs[j]? = some u → S b (o + j) ∧ w.cell? ⟨b, o + j, none⟩ = some u) ∧ v = .pointer (some ⟨b, o + off, none⟩) := by
  cases h; exact ⟨_, _, _, by assumption, by assumption, by assumption, rfl⟩
theorem Rep.nils_inv (h : Rep S w hp φ .nils v) : v = .slice none 0 0 := by cases h; rfl
theorem Rep.sl_inv {size : Nat} {els : List (List AV)} (h : Rep S w hp φ (.sl size els) v) : ∃ vss a cap, Repss S w els vss ∧ Laid S w a size vss ∧ Cap a els.length cap ∧ v = .slice a els.length cap := by
  cases h; exact ⟨_, _, _, by assumption, by assumption, by assumption, rfl⟩
theorem Rep.row_inv {id n : Nat} (h : Rep S w hp φ (.row id n) v) : ∃ e size els, nth? hp id = some (.row e size els) ∧ n ≤ els.length ∧ Rep S w [] [] (.sl size (els.take n)) v ∧ (n = els.length → φ[id]? = some (.sv v)) := by
  cases h; exact ⟨_, _, _, by assumption, by assumption, by assumption, by assumption⟩
theorem Rep.own_inv {id off n : Nat} (h : Rep S w hp φ (.own id off n) v) : ∃ b size els cap ad, φ[id]? = some (.blk b) ∧ nth? hp id = some (.arr size els) ∧ off + n ≤ els.length ∧ (0 < n → ad = some ⟨b, off * size, none⟩) ∧ Cap ad n cap ∧ v = .slice ad n cap := by
  cases h; exact ⟨_, _, _, _, _, by assumption, by assumption, by assumption, by assumption, by assumption, rfl⟩
theorem Rep.agg_inv {cs : List AV} (h : Rep S w hp φ (.agg cs) v) : ∃ vs, Reps S w hp φ cs vs ∧ Ones vs ∧ v = .agg vs.toArray := by cases h; exact ⟨_, by assumption, by assumption, rfl⟩
theorem Rep.tup_inv {cs : List AV} (h : Rep S w hp φ (.tup cs) v) : ∃ vs, Reps S w hp φ cs vs ∧ v = .tuple vs.toArray := by cases h; exact ⟨_, by assumption, rfl⟩
theorem Rep.func_inv {f : FuncId} {x y : List AV} (h : Rep S w hp φ (.func f x y) v) : ∃ a b, Reps S w hp φ x a ∧ Reps S w hp φ y b ∧ v = .func (.func f) a.toArray b.toArray := by cases h; exact ⟨_, _, by assumption, by assumption, rfl⟩
/-- What is known of closed values holds beside any objects. -/
theorem Reps.lift {l : List AV} {vs : List Value} (h : Reps S w [] [] l vs) : Reps S w hp φ l vs := Reps.mono (SExt.refl S w) h ⟨fun _ _ h => by simp at h, fun _ _ _ h => by simp [nth?] at h, fun _ _ _ _ h => by simp [nth?] at h⟩
theorem Rep.lift {a : AV} (h : Rep S w [] [] a v) : Rep S w hp φ a v := Rep.mono (SExt.refl S w) h ⟨fun _ _ h => by simp at h, fun _ _ _ h => by simp [nth?] at h, fun _ _ _ _ h => by simp [nth?] at h⟩
end inv

/-- A value that may lie in a cell stands for one that does. -/
theorem Rep.oneCell {S : Nat → Nat → Prop} {w : World} {hp : Hp} {φ : List Pl} {a : AV} {v : Value} (h : Rep S w hp φ a v) (h1 : a.one = true) : v.oneCell' = true := by
  cases h <;> first | rfl | (simp [AV.one] at h1; done) | skip
  rename_i hs _
  cases hs
  rfl
theorem Reps.ones {S : Nat → Nat → Prop} {w : World} {hp : Hp} {φ : List Pl} {l : List AV} {vs : List Value} (h : Reps S w hp φ l vs) (h1 : l.all AV.one = true) : Ones vs := by
  induction l generalizing vs with
  | nil => cases h; intro v hv; simp at hv
  | cons a t ih => cases h with
    | cons _ _ _ v _ vs h t =>
      simp only [List.all_cons, Bool.and_eq_true] at h1
      intro u hu
      rcases List.mem_cons.1 hu with rfl | hu
      · exact h.oneCell h1.1
      · exact ih t h1.2 u hu

/-! ### The objects -/
def blockAt (φ : List Pl) (id : Nat) : Option Nat := match φ[id]? with
  | some (.blk b) => some b
  | some (.sv v) => v.ownBlock
  | none => none

def ObOk (P : Program) (base : Nat) (S : Nat → Nat → Prop) (w : World) (hp : Hp) (φ : List Pl) (id : Nat) : Ob → Prop
  | .var t cs => ∃ b vs E, φ[id]? = some (.blk b) ∧ base ≤ b ∧ w.heap[b]? = some (.cells vs.toArray E (0, 0)) ∧ Reps S w hp φ cs vs ∧ Ones vs ∧ ∀ o, ¬ S b o
  | .arr size els => ∃ b vss ex E, φ[id]? = some (.blk b) ∧ base ≤ b ∧ w.heap[b]? = some (.cells (vss.flatten ++ ex).toArray E (0, 0)) ∧ Repss S w els vss ∧ (∀ vs ∈ vss, vs.length = size) ∧ ∀ o, ¬ S b o
  | .row e size els => ∃ v vss, φ[id]? = some (.sv v) ∧ w.ownsRow base e size v els.length vss.flatten ∧ Repss S w els vss ∧ (∀ vs ∈ vss, vs.length = size) ∧ 0 < size ∧ P.cellsOf e = size ∧ ∀ g, v.ownBlock = some g → ∀ o, S g o ↔ o < els.length * size

structure Sim (P : Program) (base : Nat) (S : Nat → Nat → Prop) (w : World) (hp : Hp) (φ : List Pl) : Prop where
  len : φ.length = hp.length
  low : base ≤ w.heap.size
  cell : ∀ (b o : Nat), S b o → ∃ v, w.cell? ⟨b, o, none⟩ = some v
  obj : ∀ (id : Nat) o, hp[id]? = some o → ObOk P base S w hp φ id o
  apart : ∀ i j b, blockAt φ i = some b → blockAt φ j = some b → i = j

/-- What a step leaves as it was. -/
structure Trans (base : Nat) (S : Nat → Nat → Prop) (w : World) (hp : Hp) (φ : List Pl) (S' : Nat → Nat → Prop) (w' : World) (hp' : Hp) (φ' : List Pl) : Prop where
  s : SExt S w S' w'
  hp : HpExt hp φ hp' φ'
  below : Below base w w'
  new : ∀ b o, S' b o → S b o ∨ base ≤ b
theorem Trans.refl (base : Nat) (S : Nat → Nat → Prop) (w : World) (hp : Hp) (φ : List Pl) : Trans base S w hp φ S w hp φ := ⟨.refl _ _, .refl _ _, .refl _ _, fun _ _ h => .inl h⟩
theorem Trans.trans {base : Nat} {S1 S2 S3 : Nat → Nat → Prop} {w1 w2 w3 : World} {hp1 hp2 hp3 : Hp} {φ1 φ2 φ3 : List Pl} (h : Trans base S1 w1 hp1 φ1 S2 w2 hp2 φ2) (k : Trans base S2 w2 hp2 φ2 S3 w3 hp3 φ3) : Trans base S1 w1 hp1 φ1 S3 w3 hp3 φ3 :=
  ⟨h.s.trans k.s, h.hp.trans k.hp, h.below.trans k.below, fun b o hb => (k.new b o hb).elim (h.new b o) .inr⟩

theorem cell_lt {w : World} {b o : Nat} {v : Value} (h : w.cell? ⟨b, o, none⟩ = some v) : b < w.heap.size := World.block_lt_of_cell? _ _ h

end Go.Proofs.Ytaocgmkcjemecaa
