/- Parts of the proofs of the laws of layer 1, scan (text PlainLex). Conditions: none. -/
import Derived.Test.YtnmlejjdofbaiaaPlainName
import Derived.Test.YtnmlejjdofbaiaaTok
/- Plain: the tokens of a text, by suffixes. -/
namespace Go.Proofs.Ytnmlejjdofbaiaa

def blankB (c : Int) : Bool := decide (c = 32 ∨ c = 9 ∨ c = 10 ∨ c = 13)

/-- How many bytes of blanks and remarks a text begins with; 'true': within a remark. -/
def gapS : Bool → List UInt8 → Nat
  | _, [] => 0
  | true, c :: t => if c.toNat = 10 then 1 + gapS false t else 1 + gapS true t
  | false, c :: t => if blankB c.toNat then 1 + gapS false t else if c.toNat = 35 then 1 + gapS true t else 0

inductive Lx where
  | tok (kind : Int) (len : Nat) (n : Nat)
  | err (e : Int)

/-- The token with which a text begins that is not empty. -/
def oneL (l : List UInt8) : Lx := match l with
  | [] => .err 3
  | c :: _ =>
    if letterB c.toNat then (if runLen wordB l > 16 then .err 2 else .tok 1 (runLen wordB l) 0)
    else if digitB c.toNat then (if valueL (l.take (runLen digitB l)) > 9999 then .err 4 else .tok 2 (runLen digitB l) (valueL (l.take (runLen digitB l))))
    else if signLen l = 0 then .err 3 else .tok 3 (signLen l) 0

structure ScanRes where
  toks : List Tok
  err : Int
  at' : Int

def lexFrom : Nat → List UInt8 → Nat → List Tok → ScanRes
  | 0, _, _, acc => ⟨acc, 0, 0⟩
  | f + 1, l, p, acc => match l.drop (gapS false l) with
    | [] => ⟨acc, 0, 0⟩
    | c :: t => match oneL (c :: t) with
      | .err e => ⟨[], e, (p + gapS false l : Nat)⟩
      | .tok k n v => lexFrom f ((c :: t).drop n) (p + gapS false l + n) (acc ++ [⟨k, (c :: t).take n, v, (p + gapS false l : Nat)⟩])

def scanL (l : List UInt8) : ScanRes := if l.length > 20000 then ⟨[], 2, 20000⟩ else lexFrom (l.length + 1) l 0 []

theorem gapS_le (b : Bool) (l : List UInt8) : gapS b l ≤ l.length := by
  induction l generalizing b with
  | nil => simp [gapS]
  | cons c t ih =>
    have h1 := ih true; have h2 := ih false
    cases b <;> simp only [gapS, List.length_cons] <;> repeat' split
    all_goals omega

theorem runLen_le (p : Int → Bool) (l : List UInt8) : runLen p l ≤ l.length := (List.takeWhile_prefix (fun c : UInt8 => p c.toNat) (l := l)).length_le
theorem runLen_cons (p : Int → Bool) (c : UInt8) (t : List UInt8) : runLen p (c :: t) = if p c.toNat then runLen p t + 1 else 0 := by
  unfold runLen
  rw [List.takeWhile_cons]
  split <;> simp

theorem signLen_le (c : UInt8) (t : List UInt8) : signLen (c :: t) ≤ (c :: t).length := by
  unfold signLen
  split
  · rename_i h
    rcases t with _ | ⟨d, t⟩
    · simp [signs2] at h
    · simp
  · split <;> simp

/-- A token has a byte, and lies within the text. -/
theorem oneL_len {l : List UInt8} {k : Int} {n v : Nat} (h : oneL l = .tok k n v) : 0 < n ∧ n ≤ l.length := by
  rcases l with _ | ⟨c, t⟩
  · simp [oneL] at h
  · simp only [oneL] at h
    split at h
    · rename_i hc
      split at h
      · simp at h
      · simp only [Lx.tok.injEq] at h
        obtain ⟨_, rfl, _⟩ := h
        have h1 : wordB c.toNat = true := by simp [wordB, hc]
        exact ⟨by rw [runLen_cons, if_pos h1]; omega, runLen_le _ _⟩
    · split at h
      · rename_i hc
        split at h
        · simp at h
        · simp only [Lx.tok.injEq] at h
          obtain ⟨_, rfl, _⟩ := h
          exact ⟨by rw [runLen_cons, if_pos hc]; omega, runLen_le _ _⟩
      · split at h
        · simp at h
        · simp only [Lx.tok.injEq] at h
          obtain ⟨_, rfl, _⟩ := h
          exact ⟨by omega, signLen_le _ _⟩

theorem oneL_err {l : List UInt8} {e : Int} (h : oneL l = .err e) : (e != 0) = true := by
  rcases l with _ | ⟨c, t⟩
  · simp only [oneL, Lx.err.injEq] at h; subst h; rfl
  · simp only [oneL] at h
    repeat' split at h
    all_goals first
      | (simp only [Lx.err.injEq] at h; subst h; rfl)
      | simp at h

/-- Fuel enough is fuel enough. -/
theorem lexFrom_fuel (f g : Nat) (l : List UInt8) (p : Nat) (acc : List Tok) (hf : l.length < f) (hg : l.length < g) : lexFrom f l p acc = lexFrom g l p acc := by
  induction f generalizing g l p acc with
  | zero => omega
  | succ f ih =>
    cases g with
    | zero => omega
    | succ g =>
      simp only [lexFrom]
      split
      · rfl
      · rename_i c t hd
        have hlen : (c :: t).length = l.length - gapS false l := by rw [← hd]; simp
        split
        · rfl
        · rename_i k n v ho
          have hn := oneL_len ho
          have hlt : ((c :: t).drop n).length < l.length := by
            simp only [List.length_drop]
            simp only [List.length_cons] at hlen hn ⊢
            omega
          exact ih g _ _ _ (by omega) (by omega)

/-- The text's tokens from a place on, with enough fuel. -/
def lexAt (l : List UInt8) (p : Nat) (acc : List Tok) : ScanRes := lexFrom (l.length + 1) (l.drop p) p acc

theorem lexAt_gap (l : List UInt8) (p : Nat) (acc : List Tok) (g : Nat) (_hp : p ≤ l.length) (h : gapS false (l.drop p) = g + gapS false (l.drop (p + g))) : lexAt l p acc = lexAt l (p + g) acc := by
  have hg := gapS_le false (l.drop p)
  simp only [List.length_drop] at hg
  have e : (l.drop p).drop (gapS false (l.drop p)) = (l.drop (p + g)).drop (gapS false (l.drop (p + g))) := by
    rw [List.drop_drop, List.drop_drop, h]; congr 1; omega
  unfold lexAt
  simp only [lexFrom]
  rw [e]
  have e2 : p + gapS false (l.drop p) = p + g + gapS false (l.drop (p + g)) := by omega
  simp only [e2]

theorem lexAt_end (l : List UInt8) (p : Nat) (acc : List Tok) (h : l.length ≤ p) : lexAt l p acc = ⟨acc, 0, 0⟩ := by
  unfold lexAt
  have : l.drop p = [] := List.drop_eq_nil_of_le h
  simp [lexFrom, this]

theorem lexAt_err (l : List UInt8) (p : Nat) (acc : List Tok) (e : Int) (hg : gapS false (l.drop p) = 0) (hp : p < l.length) (h : oneL (l.drop p) = .err e) : lexAt l p acc = ⟨[], e, p⟩ := by
  unfold lexAt
  simp only [lexFrom, hg, List.drop_zero]
  rcases hl : l.drop p with _ | ⟨c, t⟩
  · have : (l.drop p).length = 0 := by rw [hl]; rfl
    simp at this; omega
  · rw [hl] at h
    simp [h]

theorem lexAt_tok (l : List UInt8) (p : Nat) (acc : List Tok) (k : Int) (n v : Nat) (hg : gapS false (l.drop p) = 0) (hp : p < l.length) (h : oneL (l.drop p) = .tok k n v) :
    lexAt l p acc = lexAt l (p + n) (acc ++ [⟨k, (l.drop p).take n, v, p⟩]) := by
  have hn := oneL_len h
  simp only [List.length_drop] at hn
  unfold lexAt
  rw [lexFrom]
  simp only [hg, List.drop_zero]
  rcases hl : l.drop p with _ | ⟨c, t⟩
  · have : (l.drop p).length = 0 := by rw [hl]; rfl
    simp at this; omega
  · rw [hl] at h
    simp only [h, Nat.add_zero]
    have e : (c :: t).drop n = l.drop (p + n) := by rw [← hl, List.drop_drop]
    rw [e]
    exact lexFrom_fuel _ _ _ _ _ (by simp; omega) (by simp; omega)

end Go.Proofs.Ytnmlejjdofbaiaa
