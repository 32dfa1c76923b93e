/- Parts of the proofs: what they lean on. Conditions: none. -/
import Derived.Test.YtpnhafdimkmbbaaProg
import Derived.Test.YtpnhafdimkmbbaaLegS11
section
namespace Go.Proofs.Ytpnhafdimkmbbaa
open Go.RowKit Go.WideShapes
set_option linter.unusedVariables false
set_option linter.unusedSimpArgs false
theorem okWide_struct' {P : Program} {w : World} {r : Reach} {base : Nat} {t : TypeId} {v : Value} {fs : Array Field} (ht : P.underlying t = some (.struct fs)) (h : Value.okWide P w r base t v) : ∃ cs, v = .agg cs := by
  simp only [Value.okWide, ht] at h
  obtain ⟨cs, rfl, _⟩ := h
  exact ⟨cs, rfl⟩
end Go.Proofs.Ytpnhafdimkmbbaa
end
section
namespace Go.Proofs.Ytpnhafdimkmbbaa
set_option linter.unusedVariables false
structure S_api_Var where
  f_Name : (List UInt8)
  f_N : Int
  f_At : Int
  deriving DecidableEq, Inhabited
def c_api_Var (x : S_api_Var) : List AV := [AV.str (x.f_Name), AV.int .i64 (x.f_N), AV.int .i64 (x.f_At)]
structure S_api_Node where
  f_Op : Int
  f_N : Int
  f_Name : (List UInt8)
  f_In : (List UInt8)
  f_At : Int
  deriving DecidableEq, Inhabited
def c_api_Node (x : S_api_Node) : List AV := [AV.int .i64 (x.f_Op), AV.int .i64 (x.f_N), AV.str (x.f_Name), AV.str (x.f_In), AV.int .i64 (x.f_At)]
structure S_api_Stmt where
  f_Kind : Int
  f_Reg : (List UInt8)
  f_Loc : (List UInt8)
  f_E : (List S_api_Node)
  f_F : (List S_api_Node)
  f_Ne : Bool
  f_Body : Int
  f_Else : Int
  f_At : Int
  deriving DecidableEq, Inhabited
def c_api_Stmt (x : S_api_Stmt) : List AV := [AV.int .i64 (x.f_Kind), AV.str (x.f_Reg), AV.str (x.f_Loc), AV.sl 5 (List.map c_api_Node (x.f_E)), AV.sl 5 (List.map c_api_Node (x.f_F)), AV.bool (x.f_Ne), AV.int .i64 (x.f_Body), AV.int .i64 (x.f_Else), AV.int .i64 (x.f_At)]
structure S_api_Thread where
  f_Name : (List UInt8)
  f_Regs : (List (List UInt8))
  f_Body : (List S_api_Stmt)
  f_At : Int
  deriving DecidableEq, Inhabited
def c_api_Thread (x : S_api_Thread) : List AV := [AV.str (x.f_Name), AV.sl 1 (List.map encS (x.f_Regs)), AV.sl 9 (List.map c_api_Stmt (x.f_Body)), AV.int .i64 (x.f_At)]
structure S_api_Claim where
  f_Kind : Int
  f_E : (List S_api_Node)
  f_At : Int
  deriving DecidableEq, Inhabited
def c_api_Claim (x : S_api_Claim) : List AV := [AV.int .i64 (x.f_Kind), AV.sl 5 (List.map c_api_Node (x.f_E)), AV.int .i64 (x.f_At)]
structure S_api_Prog where
  f_Mod : Int
  f_Locs : (List S_api_Var)
  f_Threads : (List S_api_Thread)
  f_Claims : (List S_api_Claim)
  deriving DecidableEq, Inhabited
def c_api_Prog (x : S_api_Prog) : List AV := [AV.int .i64 (x.f_Mod), AV.sl 3 (List.map c_api_Var (x.f_Locs)), AV.sl 4 (List.map c_api_Thread (x.f_Threads)), AV.sl 3 (List.map c_api_Claim (x.f_Claims))]
def c_mp_map_string_int (p : ((List UInt8) × Int)) : List AV := [AV.str (p.1), AV.int .i64 (p.2)]
theorem look_c_mp_map_string_int (l : List ((List UInt8) × Int)) (k : (List UInt8)) (z : Int) : mpLook (AV.int .i64 (z)) (List.map c_mp_map_string_int l) (AV.str (k)) = AV.int .i64 (mget l k z) := look_map (ek := fun x => AV.str (x)) (ev := fun x => AV.int .i64 (x)) (c := c_mp_map_string_int) (fun _ => rfl) keyB_str k z l
theorem set_c_mp_map_string_int (l : List ((List UInt8) × Int)) (k : (List UInt8)) (v : Int) : mpSet (List.map c_mp_map_string_int l) (AV.str (k)) (AV.int .i64 (v)) = List.map c_mp_map_string_int (mset l k v) := set_map (ek := fun x => AV.str (x)) (ev := fun x => AV.int .i64 (x)) (c := c_mp_map_string_int) (fun _ => rfl) keyB_str k v l
def c_mp_map_string_map_string_int (p : ((List UInt8) × (List ((List UInt8) × Int)))) : List AV := [AV.str (p.1), AV.mcl none (List.map c_mp_map_string_int (p.2))]
theorem look_c_mp_map_string_map_string_int (l : List ((List UInt8) × (List ((List UInt8) × Int)))) (k : (List UInt8)) : mpLook (AV.mcl none []) (List.map c_mp_map_string_map_string_int l) (AV.str (k)) = AV.mcl none (List.map c_mp_map_string_int (mget l k [])) := look_map (ek := fun x => AV.str (x)) (ev := fun x => AV.mcl none (List.map c_mp_map_string_int (x))) (c := c_mp_map_string_map_string_int) (fun _ => rfl) keyB_str k [] l
theorem has_c_mp_map_string_map_string_int (l : List ((List UInt8) × (List ((List UInt8) × Int)))) (k : (List UInt8)) : mpHas (List.map c_mp_map_string_map_string_int l) (AV.str (k)) = mhas l k := has_map (ek := fun x => AV.str (x)) (ev := fun x => AV.mcl none (List.map c_mp_map_string_int (x))) (c := c_mp_map_string_map_string_int) (fun _ => rfl) keyB_str k l
theorem set_c_mp_map_string_map_string_int (l : List ((List UInt8) × (List ((List UInt8) × Int)))) (k : (List UInt8)) (v : (List ((List UInt8) × Int))) : mpSet (List.map c_mp_map_string_map_string_int l) (AV.str (k)) (AV.mcl none (List.map c_mp_map_string_int (v))) = List.map c_mp_map_string_map_string_int (mset l k v) := set_map (ek := fun x => AV.str (x)) (ev := fun x => AV.mcl none (List.map c_mp_map_string_int (x))) (c := c_mp_map_string_map_string_int) (fun _ => rfl) keyB_str k v l
structure S_api_Token where
  f_Kind : Int
  f_Text : (List UInt8)
  f_N : Int
  f_At : Int
  deriving DecidableEq, Inhabited
def c_api_Token (x : S_api_Token) : List AV := [AV.int .i64 (x.f_Kind), AV.str (x.f_Text), AV.int .i64 (x.f_N), AV.int .i64 (x.f_At)]
structure S_ref02_got where
  f_l : (List S_api_Node)
  f_to : Int
  f_e : Int
  f_at : Int
  deriving DecidableEq, Inhabited
structure S_stmt_kind where
  f_word : (List UInt8)
  f_form : (List UInt8)
  f_body : Bool
  f_more : Bool
  deriving DecidableEq, Inhabited
def c_stmt_kind (x : S_stmt_kind) : List AV := [AV.str (x.f_word), AV.str (x.f_form), AV.bool (x.f_body), AV.bool (x.f_more)]
theorem ls : (∀ {α β : Type} {f : α → β} {l : List α}, (l.map f).length = l.length) ∧ (∀ {α β : Type} (f : α → β) (l : List α), List.take l.length (List.map f l) = List.map f l) ∧ Program.cellsOf Try.prog 117 = 1 ∧ Program.cellsOf Try.prog 46 = 3 ∧ Program.cellsOf Try.prog 59 = 5 ∧ Program.cellsOf Try.prog 57 = 9 ∧ Program.cellsOf Try.prog 40 = 4 ∧ Program.cellsOf Try.prog 80 = 4 ∧ Program.cellsOf Try.prog 37 = 3 ∧ Program.cellsOf Try.prog 3 = 1 ∧ Program.cellsOf Try.prog 111 = 4 ∧ Program.cellsOf Try.prog 9 = 1 :=
  ⟨List.length_map .., take_map_len, by kernel_rfl, by kernel_rfl, by kernel_rfl, by kernel_rfl, by kernel_rfl, by kernel_rfl, by kernel_rfl, by kernel_rfl, by kernel_rfl, by kernel_rfl⟩
theorem lt : (∀ {α β : Type} (f : α → β) (l : List α), List.take l.length (List.map f l) = List.map f l) ∧ Program.cellsOf Try.prog 117 = 1 ∧ Program.cellsOf Try.prog 46 = 3 ∧ Program.cellsOf Try.prog 59 = 5 ∧ Program.cellsOf Try.prog 57 = 9 ∧ Program.cellsOf Try.prog 40 = 4 ∧ Program.cellsOf Try.prog 80 = 4 ∧ Program.cellsOf Try.prog 37 = 3 ∧ Program.cellsOf Try.prog 3 = 1 ∧ Program.cellsOf Try.prog 111 = 4 ∧ Program.cellsOf Try.prog 9 = 1 :=
  ls.2
theorem cq {ρ : Type} {cont : Tm → Hp → Option ρ} {tm tm' : Tm} {hp hp' : Hp} {r : Option ρ} (h : cont tm' hp' = r) (h1 : tm = tm' := by first | rfl | (simp only [ls] <;> rfl) | (simp only [ls, List.map_append, List.map_cons, List.map_nil, List.append_nil, List.length_set, length_copyL] <;> rfl)) (h2 : hp = hp' := by first | rfl | (simp only [ls] <;> rfl) | (simp only [ls, List.map_append, List.map_cons, List.map_nil, List.append_nil, List.length_set, length_copyL] <;> rfl)) : cont tm hp = r := cont_eq h h1 h2
theorem kq {ρ : Type} {K : Ex → Tm → Hp → Option ρ} {e : Ex} {tm tm' : Tm} {hp hp' : Hp} {r : Option ρ} (h : K e tm' hp' = r) (h1 : tm = tm' := by first | rfl | (simp only [ls] <;> rfl) | (simp only [ls, List.map_append, List.map_cons, List.map_nil, List.append_nil, List.length_set, length_copyL] <;> rfl)) (h2 : hp = hp' := by first | rfl | (simp only [ls] <;> rfl) | (simp only [ls, List.map_append, List.map_cons, List.map_nil, List.append_nil, List.length_set, length_copyL] <;> rfl)) : K e tm hp = r := kont_eq h h1 h2
theorem fq {ρ : Type} {x y z : Option ρ} (h : x = y := by first | rfl | (simp only [length_copyL, List.length_set] <;> rfl) | (simp only [ls] <;> rfl)) (h2 : y = z := by first | rfl | (simp only [List.map_take, List.map_drop]; done) | (simp only [List.map_take, List.map_drop] <;> rfl) | (simp only [ls, List.drop_zero, List.length_set, length_copyL] <;> rfl)) : x = z := h.trans h2
theorem c0 : ((0 : Nat) : Int) = 0 := rfl
theorem rq {ρ : Type} {x z : Option ρ} (h : x = z := by first | rfl | (simp only [ls] <;> rfl)) : x = z := h
abbrev iA (x : Int) : AV := .int .i64 x
abbrev bA (x : Bool) : AV := .bool x
abbrev sA (x : List UInt8) : AV := .str x
theorem sj {α : Type} {a r : α} (h : some a = some r) : a = r := Option.some.inj h
theorem lq {ρ σ τ ν : Type} {body : Tm → Hp → (Ex → Tm → Hp → Option ρ) → Option ρ} {keep : Nat → List Nat} {h0 : Nat} {K : Ex → Tm → Hp → Option ρ} {r : Option ρ} (id : Nat) (tmOf : σ → (Nat → Nat) → Tm) (hpOf : σ → (Nat → Nat) → Hp) (tmX : τ → (Nat → Nat) → Tm) (hpX : τ → (Nat → Nat) → Hp) (encR : ν → ρ) (L : Nat → σ → Option (LR τ ν)) (hL : ∀ s, L 0 s = none) (o : LR τ ν) (n : Nat) (s : σ) (a : Nat → Nat) {tm : Tm} {hp : Hp} (h : L n s = some o)
    (hround : ∀ (k : Nat) (s : σ) (a : Nat → Nat) (K' : Ex → Tm → Hp → Option ρ) (cont : Tm → Hp → Option ρ), (∀ tm hp, K' .ret tm hp = K .ret tm hp) → (∀ s' a', L k s' = some o → cont (tmOf s' a') (hpOf s' a') = r) → L (k + 1) s = some o → LRes K' id tmX hpX encR r o →
      forceL force (fun tm => forceHp (fun hp => body tm hp (fun e tm hp => forceL force (fun tm => forceHp (fun hp => match e with
        | .normal => cont tm hp
        | .exit id => K' (.exit id) tm hp
        | .ret => K' .ret tm hp) (waneHp h0 hp)) (keepTm (keep (exMode e)) h0 hp 0 tm))) (hpOf s a)) (tmOf s a) = r)
    (hx : LRes K id tmX hpX encR r o)
    (h1 : tm = tmOf s a := by first | rfl | (simp only [ls] <;> rfl) | (simp only [ls, List.map_append, List.map_cons, List.map_nil, List.append_nil, List.length_set, length_copyL] <;> rfl)) (h2 : hp = hpOf s a := by first | rfl | (simp only [ls] <;> rfl) | (simp only [ls, List.map_append, List.map_cons, List.map_nil, List.append_nil, List.length_set, length_copyL] <;> rfl)) : rounds body keep h0 n tm hp K = r :=
  rounds_sim id tmOf hpOf tmX hpX encR L hL o hround n s a tm hp h hx h1 h2
theorem lrc {ρ τ ν : Type} {K : Ex → Tm → Hp → Option ρ} {id : Nat} {tmX : τ → (Nat → Nat) → Tm} {hpX : τ → (Nat → Nat) → Hp} {encR : ν → ρ} {r : Option ρ} {o : LR τ ν} (h1 : ∀ v, o = .ret v → r = some (encR v)) (h2 : ∀ t a, o = .out t → K (.exit id) (tmX t a) (hpX t a) = r) : LRes K id tmX hpX encR r o := by
  cases o with
  | out t => exact fun a => h2 t a rfl
  | ret v => exact h1 v rfl
theorem nn {α : Type} {r : α} {P : Prop} : (none : Option α) = some r → P := fun h => by cases h
theorem chk_k {α : Type} {c : Bool} {a : Option α} {r : α} {G : Prop} (h1 : c = true → a = some r → G) : (bif c then a else none) = some r → G := fun h => chk_some2 h h1
theorem br {α ρ : Type} {c : Bool} {a b : Option α} {r : α} {L L1 L2 R : ρ} (k1 : a = some r → L1 = R) (k2 : b = some r → L2 = R) (w1 : c = true → L = L1 := by (intro hc; simp only [hc, ls]; (conv => lhs; whnf); try exact rfl)) (w2 : c = false → L = L2 := by (intro hc; simp only [hc, ls]; (conv => lhs; whnf); try exact rfl)) : (bif c then a else b) = some r → L = R := by
  cases c
  · exact fun h => (w2 rfl).trans (k2 h)
  · exact fun h => (w1 rfl).trans (k1 h)
theorem bf {α ρ : Type} {c : Bool} {b : Option α} {r : α} {L L2 R : ρ} (k2 : b = some r → L2 = R) (w2 : c = false → L = L2 := by (intro hc; simp only [hc, ls]; (conv => lhs; whnf); try exact rfl)) : (bif c then none else b) = some r → L = R := by
  cases c
  · exact fun h => (w2 rfl).trans (k2 h)
  · exact fun h => nn h
theorem cp {α ρ : Type} {c : Bool} {a : Option α} {r : α} {L L1 R : ρ} (k1 : a = some r → L1 = R) (w1 : c = true → ∀ q, L1 = q → L = q := by (intro hc q hq; refine bif_pos hc ?_; (try simp only [ls]); (conv => lhs; whnf); exact hq)) : (bif c then a else none) = some r → L = R := chk_k fun hc h => w1 hc _ (k1 h)
theorem cn {α ρ : Type} {c : Bool} {a : Option α} {r : α} {L L1 R : ρ} (k1 : a = some r → L1 = R) (w1 : c = true → ∀ q, L1 = q → L = q := by (intro hc q hq; refine bif_pos (app_nil hc (by simp only [List.length_map, take_map_len]) (by kernel_rfl)) ?_; (try simp only [ls]); (conv => lhs; whnf); exact hq)) : (bif c then a else none) = some r → L = R := chk_k fun hc h => w1 hc _ (k1 h)
theorem sl {α : Type} (f : α → List AV) (l : List α) (i j : Nat) : List.drop i (List.take j (List.map f l)) = List.map f (List.drop i (List.take j l)) := by rw [List.map_drop, List.map_take]
theorem cs {α ρ : Type} {c : Bool} {a : Option α} {r : α} {E : Prop} {L L1 R : ρ} (e : E) (k1 : a = some r → L1 = R) (w1 : c = true → E → ∀ q, L1 = q → L = q := by (intro hc he q hq; (try simp only [ls]); refine bif_pos hc ?_; simp only [he, ls]; (conv => lhs; whnf); exact hq)) : (bif c then a else none) = some r → L = R := chk_k fun hc h => w1 hc e _ (k1 h)
theorem ixs {β ρ : Type} {l : List UInt8} {i : Int} {g : UInt8 → Option β} {r : β} {L : ρ} {L1 : UInt8 → ρ} {R : ρ} (k : ∀ x, g x = some r → L1 x = R) (w : ∀ x, idx l i = some x → ∀ q, L1 x = q → L = q := by (intro x hx q hq; refine bif_pos (idx_in hx) ?_; simp only [idx_str hx, ls]; (conv => lhs; whnf); exact hq)) : (idx l i).bind g = some r → L = R := fun h => bind_some2 h fun x hx h2 => w x hx _ (k x h2)
theorem ix {α β ρ : Type} {l : List α} {i : Int} {g : α → Option β} {r : β} {L : ρ} {L1 : α → ρ} {R : ρ} (k : ∀ x, g x = some r → L1 x = R) (w : ∀ x, idx l i = some x → ∀ q, L1 x = q → L = q := by (intro x hx q hq; refine bif_pos (by first | exact idx_in hx | exact idx_in' hx | (have z := idx_in hx; simp only [ls] at z ⊢; exact z)) ?_; simp only [idx_nth hx, ls]; (conv => lhs; whnf); exact hq)) : (idx l i).bind g = some r → L = R := fun h => bind_some2 h fun x hx h2 => w x hx _ (k x h2)
theorem ca {α β ρ : Type} {P : Program} {H : Hints} {X : Ext} {call : CallT} {n : Nat} {m : Option α} {g : α → Option β} {r : β} {f : FuncId} {a : List AV} {p : Hp} {v : α → Option (AV × Hp)} {L : ρ} {L1 : α → ρ} {R : ρ} (hc : ∀ g l h, call false g l h = callN P H X n g l h) (hk : ∀ y, m = some y → callN P H X n f a p = v y) (k : ∀ y, g y = some r → L1 y = R) (w : ∀ y, call false f a p = v y → L = L1 y := by (intro y hk; (first | simp only [hk] | rewrite [hk] | (simp only [ls]; simp only [hk])); (conv => lhs; whnf); try exact rfl)) : m.bind g = some r → L = R := fun h => bind_some2 h fun y hy h2 => (w y ((hc _ _ _).trans (hk y hy))).trans (k y h2)
theorem tw {α β ρ : Type} {P : Program} {H : Hints} {X : Ext} {call : CallT} {n : Nat} {m : Option α} {g : α → Option β} {r : β} {f : FuncId} {a : List AV} {v v' : α → Option (AV × Hp)} {L : ρ} {L1 : α → ρ} {R : ρ} (hc : ∀ g l h, call false g l h = callN P H X n g l h) (hk : ∀ y, m = some y → callN P H X n f a [] = v y) (ht : ∀ y, call false f a [] = v y → adoCall P true call f a = v' y) (k : ∀ y, g y = some r → L1 y = R) (w : ∀ y, (∀ b, b = true → adoCall P b call f a = v' y) → L = L1 y := by (intro y hk; (try simp only [ls]); (rewrite [hk]; rotate_left; (first | rfl | kernel_rfl)); (try simp only [ls]); (conv => lhs; whnf); try exact rfl)) : m.bind g = some r → L = R := fun h => bind_some2 h fun y hy h2 => (w y (fun b hb => by subst hb; exact ht y ((hc _ _ _).trans (hk y hy)))).trans (k y h2)
theorem nb {γ α ρ : Type} {l : List γ} {a b : Option α} {r : α} {L L1 L2 R : ρ} (k1 : a = some r → L1 = R) (k2 : b = some r → L2 = R) (w1 : l = [] → L = L1 := by (intro hc; simp only [hc, ls, List.map_nil]; (conv => lhs; whnf); try exact rfl)) (w2 : decide (l.length = 0) = false → L = L2 := by (intro hc; simp only [hc, ls]; (conv => lhs; whnf); try exact rfl)) : (bif decide (l.length = 0) then a else b) = some r → L = R := by
  by_cases h : l.length = 0
  · rw [decide_eq_true h]; exact fun e => (w1 (List.eq_nil_of_length_eq_zero h)).trans (k1 e)
  · rw [decide_eq_false h]; exact fun e => (w2 (decide_eq_false h)).trans (k2 e)
theorem cr {α β ρ : Type} {P : Program} {H : Hints} {X : Ext} {call : CallT} {n : Nat} {m : Option α} {g : α → Option β} {r : β} {f : FuncId} {a : List AV} {p : Hp} {v : α → Option (AV × Hp)} {L : ρ} {L1 : α → ρ} {R : ρ} (hc : ∀ g l h, call false g l h = callN P H X n g l h) (hk : ∀ y, m = some y → callN P H X n f a p = v y) (k : ∀ y, g y = some r → L1 y = R) (w : ∀ y, call false f a p = v y → L = L1 y := by (intro y hk; (try simp only [List.length_nil, List.map_nil, List.drop_zero] at hk); (try simp only [List.length_nil, List.map_nil]); (try simp only [List.drop_zero, ls]); (first | simp only [hk] | rewrite [hk]); (try simp only [ls]); (conv => lhs; whnf); try exact rfl)) : m.bind g = some r → L = R := ca hc hk k w
theorem ap {α : Type} (f : α → List AV) (a : List (List AV)) (l : List α) (y : List (List AV)) (m : List α) (ha : a = List.map f l := by rfl) (hy : y = List.map f m := by rfl) : a ++ y = List.map f (l ++ m) ∧ a.length + y.length = (l ++ m).length ∧ l.length + y.length = (l ++ m).length ∧ l.length + m.length = (l ++ m).length ∧ a.length + m.length = (l ++ m).length := by
  subst ha; subst hy; simp
theorem ar {α ρ : Type} {c : Bool} {a : Option α} {r : α} {E : Prop} {L L1 R : ρ} (e : E) (k1 : a = some r → L1 = R) (w1 : c = true → E → ∀ q, L1 = q → L = q := by (intro hc he q hq; (first | refine bif_pos (app_row hc (by first | rfl | simp only [List.length_map]) (by first | rfl | simp only [List.length_map]) (by first | rfl | simp only [List.length_map, take_map_len]) (by kernel_rfl)) ?_ | refine bif_pos (app_row2 hc (by first | rfl | simp only [List.length_map]) (by first | rfl | simp only [List.length_map, take_map_len]) (by kernel_rfl)) ?_ | skip); (try simp only [lt]); (try simp only [he]); (try simp only [ls, c0]); (try simp only [he]); (try simp only [ls]); (conv => lhs; whnf); exact hq)) : (bif c then a else none) = some r → L = R := chk_k fun hc h => w1 hc e _ (k1 h)
theorem rz {α ρ : Type} {a r : α} {L R : ρ} (k : a = r → L = R := by (intro e; cases e; first | rfl | (simp only [ls] <;> rfl))) : some a = some r → L = R := fun h => k (sj h)
end Go.Proofs.Ytpnhafdimkmbbaa
end
section
namespace Go.Proofs.Ytpnhafdimkmbbaa
set_option linter.unusedVariables false
set_option linter.unusedSimpArgs false
theorem rep_agg {α : Type} {r : Rd α} {enc : α → List AV} (he : Enc r enc) {W : World} {cs : Array Value} {x : α} (h : r.rel W (Value.agg cs).cells.toList x) : Rep (SAll W) W [] [] (.agg (enc x)) (.agg cs) := by
  obtain ⟨h1, h2⟩ := he _ _ _ h
  cases cs
  exact .agg _ _ _ _ h1 h2
theorem bs_inj {a b : List UInt8} (h : bs a = bs b) : a = b := by
  have := congrArg (fun x : ByteArray => x.data.toList) h
  simpa [bs] using this
def rd_int_i64 : Rd Int := rInt .i64
theorem op_int_i64 : Opens Try.prog 3 rd_int_i64 := opens_int Try.underlying3 (by kernel_rfl)
theorem en_int_i64 : Enc rd_int_i64 encI := enc_int _
def rd_string : Rd (List UInt8) := rStr
theorem op_string : Opens Try.prog 9 rd_string := opens_str Try.underlying9 (by kernel_rfl)
theorem en_string : Enc rd_string encS := enc_str
def rd_api_Var : Rd S_api_Var := rMap (fun x => ⟨x.1, x.2.1, x.2.2⟩) (rPair rd_string (rPair rd_int_i64 rd_int_i64))
theorem op_api_Var : Opens Try.prog 37 rd_api_Var := opens_map _ (opens_struct Try.underlying37 (by kernel_rfl) (fields_cons rfl op_string (fields_cons rfl op_int_i64 (fields_one rfl op_int_i64) (by decide)) (by decide)))
theorem en_api_Var : Enc rd_api_Var c_api_Var := enc_map (fun _ => rfl) (enc_pair en_string (enc_pair en_int_i64 en_int_i64))
def rd_sl_api_Var : Rd (List S_api_Var) := rSlice rd_api_Var
theorem op_sl_api_Var : Opens Try.prog 22 rd_sl_api_Var := opens_slice Try.underlying22 (by kernel_rfl) op_api_Var (by decide)
theorem en_sl_api_Var : Enc rd_sl_api_Var (fun l => [AV.sl 3 (l.map c_api_Var)]) := enc_slice en_api_Var
def rd_sl_string : Rd (List (List UInt8)) := rSlice rd_string
theorem op_sl_string : Opens Try.prog 27 rd_sl_string := opens_slice Try.underlying27 (by kernel_rfl) op_string (by decide)
theorem en_sl_string : Enc rd_sl_string (fun l => [AV.sl 1 (l.map encS)]) := enc_slice en_string
def rd_api_Node : Rd S_api_Node := rMap (fun x => ⟨x.1, x.2.1, x.2.2.1, x.2.2.2.1, x.2.2.2.2⟩) (rPair rd_int_i64 (rPair rd_int_i64 (rPair rd_string (rPair rd_string rd_int_i64))))
theorem op_api_Node : Opens Try.prog 59 rd_api_Node := opens_map _ (opens_struct Try.underlying59 (by kernel_rfl) (fields_cons rfl op_int_i64 (fields_cons rfl op_int_i64 (fields_cons rfl op_string (fields_cons rfl op_string (fields_one rfl op_int_i64) (by decide)) (by decide)) (by decide)) (by decide)))
theorem en_api_Node : Enc rd_api_Node c_api_Node := enc_map (fun _ => rfl) (enc_pair en_int_i64 (enc_pair en_int_i64 (enc_pair en_string (enc_pair en_string en_int_i64))))
def rd_sl_api_Node : Rd (List S_api_Node) := rSlice rd_api_Node
theorem op_sl_api_Node : Opens Try.prog 44 rd_sl_api_Node := opens_slice Try.underlying44 (by kernel_rfl) op_api_Node (by decide)
theorem en_sl_api_Node : Enc rd_sl_api_Node (fun l => [AV.sl 5 (l.map c_api_Node)]) := enc_slice en_api_Node
def rd_bool : Rd Bool := rBool
theorem op_bool : Opens Try.prog 4 rd_bool := opens_bool Try.underlying4 (by kernel_rfl)
theorem en_bool : Enc rd_bool encBl := enc_bool
def rd_api_Stmt : Rd S_api_Stmt := rMap (fun x => ⟨x.1, x.2.1, x.2.2.1, x.2.2.2.1, x.2.2.2.2.1, x.2.2.2.2.2.1, x.2.2.2.2.2.2.1, x.2.2.2.2.2.2.2.1, x.2.2.2.2.2.2.2.2⟩) (rPair rd_int_i64 (rPair rd_string (rPair rd_string (rPair rd_sl_api_Node (rPair rd_sl_api_Node (rPair rd_bool (rPair rd_int_i64 (rPair rd_int_i64 rd_int_i64))))))))
theorem op_api_Stmt : Opens Try.prog 57 rd_api_Stmt := opens_map _ (opens_struct Try.underlying57 (by kernel_rfl) (fields_cons rfl op_int_i64 (fields_cons rfl op_string (fields_cons rfl op_string (fields_cons rfl op_sl_api_Node (fields_cons rfl op_sl_api_Node (fields_cons rfl op_bool (fields_cons rfl op_int_i64 (fields_cons rfl op_int_i64 (fields_one rfl op_int_i64) (by decide)) (by decide)) (by decide)) (by decide)) (by decide)) (by decide)) (by decide)) (by decide)))
theorem en_api_Stmt : Enc rd_api_Stmt c_api_Stmt := enc_map (fun _ => rfl) (enc_pair en_int_i64 (enc_pair en_string (enc_pair en_string (enc_pair en_sl_api_Node (enc_pair en_sl_api_Node (enc_pair en_bool (enc_pair en_int_i64 (enc_pair en_int_i64 en_int_i64))))))))
def rd_sl_api_Stmt : Rd (List S_api_Stmt) := rSlice rd_api_Stmt
theorem op_sl_api_Stmt : Opens Try.prog 38 rd_sl_api_Stmt := opens_slice Try.underlying38 (by kernel_rfl) op_api_Stmt (by decide)
theorem en_sl_api_Stmt : Enc rd_sl_api_Stmt (fun l => [AV.sl 9 (l.map c_api_Stmt)]) := enc_slice en_api_Stmt
def rd_api_Thread : Rd S_api_Thread := rMap (fun x => ⟨x.1, x.2.1, x.2.2.1, x.2.2.2⟩) (rPair rd_string (rPair rd_sl_string (rPair rd_sl_api_Stmt rd_int_i64)))
theorem op_api_Thread : Opens Try.prog 40 rd_api_Thread := opens_map _ (opens_struct Try.underlying40 (by kernel_rfl) (fields_cons rfl op_string (fields_cons rfl op_sl_string (fields_cons rfl op_sl_api_Stmt (fields_one rfl op_int_i64) (by decide)) (by decide)) (by decide)))
theorem en_api_Thread : Enc rd_api_Thread c_api_Thread := enc_map (fun _ => rfl) (enc_pair en_string (enc_pair en_sl_string (enc_pair en_sl_api_Stmt en_int_i64)))
def rd_sl_api_Thread : Rd (List S_api_Thread) := rSlice rd_api_Thread
theorem op_sl_api_Thread : Opens Try.prog 23 rd_sl_api_Thread := opens_slice Try.underlying23 (by kernel_rfl) op_api_Thread (by decide)
theorem en_sl_api_Thread : Enc rd_sl_api_Thread (fun l => [AV.sl 4 (l.map c_api_Thread)]) := enc_slice en_api_Thread
def rd_api_Claim : Rd S_api_Claim := rMap (fun x => ⟨x.1, x.2.1, x.2.2⟩) (rPair rd_int_i64 (rPair rd_sl_api_Node rd_int_i64))
theorem op_api_Claim : Opens Try.prog 46 rd_api_Claim := opens_map _ (opens_struct Try.underlying46 (by kernel_rfl) (fields_cons rfl op_int_i64 (fields_cons rfl op_sl_api_Node (fields_one rfl op_int_i64) (by decide)) (by decide)))
theorem en_api_Claim : Enc rd_api_Claim c_api_Claim := enc_map (fun _ => rfl) (enc_pair en_int_i64 (enc_pair en_sl_api_Node en_int_i64))
def rd_sl_api_Claim : Rd (List S_api_Claim) := rSlice rd_api_Claim
theorem op_sl_api_Claim : Opens Try.prog 24 rd_sl_api_Claim := opens_slice Try.underlying24 (by kernel_rfl) op_api_Claim (by decide)
theorem en_sl_api_Claim : Enc rd_sl_api_Claim (fun l => [AV.sl 3 (l.map c_api_Claim)]) := enc_slice en_api_Claim
def rd_api_Prog : Rd S_api_Prog := rMap (fun x => ⟨x.1, x.2.1, x.2.2.1, x.2.2.2⟩) (rPair rd_int_i64 (rPair rd_sl_api_Var (rPair rd_sl_api_Thread rd_sl_api_Claim)))
theorem op_api_Prog : Opens Try.prog 26 rd_api_Prog := opens_map _ (opens_struct Try.underlying26 (by kernel_rfl) (fields_cons rfl op_int_i64 (fields_cons rfl op_sl_api_Var (fields_cons rfl op_sl_api_Thread (fields_one rfl op_sl_api_Claim) (by decide)) (by decide)) (by decide)))
theorem en_api_Prog : Enc rd_api_Prog c_api_Prog := enc_map (fun _ => rfl) (enc_pair en_int_i64 (enc_pair en_sl_api_Var (enc_pair en_sl_api_Thread en_sl_api_Claim)))
end Go.Proofs.Ytpnhafdimkmbbaa
end
section
namespace Go.Proofs.Ytpnhafdimkmbbaa
set_option linter.unusedVariables false
set_option linter.unusedSimpArgs false
set_option maxRecDepth 100000
set_option maxHeartbeats 4000000
noncomputable abbrev CN := callN Try.prog HH XT
def ref01_gap_L1 (n:Nat)  (v0_s:(List UInt8)):Nat→Int→Option (LR Int Int)
  | 0,_=>none
  | k22+1,s21=>(bif decide (s21<((v0_s.length:Nat):Int)) then ((idx v0_s s21).bind fun x31=>(bif ((x31.toNat:Int) != 10) then (ref01_gap_L1 n v0_s k22 (IntKind.i64.wrap (s21+1))) else (some (.out s21)))) else (some (.out s21)))
def ref01_gap_L0 (n:Nat)  (v0_s:(List UInt8)):Nat→Int→Option (LR Int Int)
  | 0,_=>none
  | k2+1,s1=>(bif decide (s1<((v0_s.length:Nat):Int)) then ((idx v0_s s1).bind fun x11=>(bif ((x11.toNat:Int)==32) then (ref01_gap_L0 n v0_s k2 (IntKind.i64.wrap (s1+1))) else ((idx v0_s s1).bind fun x13=>(bif ((x13.toNat:Int)==9) then (ref01_gap_L0 n v0_s k2 (IntKind.i64.wrap (s1+1))) else ((idx v0_s s1).bind fun x15=>(bif ((x15.toNat:Int)==10) then (ref01_gap_L0 n v0_s k2 (IntKind.i64.wrap (s1+1))) else ((idx v0_s s1).bind fun x17=>(bif ((x17.toNat:Int)==13) then (ref01_gap_L0 n v0_s k2 (IntKind.i64.wrap (s1+1))) else ((idx v0_s s1).bind fun x19=>(bif ((x19.toNat:Int)==35) then ((ref01_gap_L1 n v0_s n s1).bind fun o29=>match o29 with|.out x34=>(ref01_gap_L0 n v0_s k2 x34)|.ret v=>some (.ret v)) else (some (.ret s1)))))))))))) else (some (.out s1)))
def m_ref01_gap:Nat→(List UInt8)→Int→Option Int
  | 0,_,_=>none
  | n+1,v0_s,v1_at=>((ref01_gap_L0 n v0_s n v1_at).bind fun o9=>match o9 with|.out x37=>(some x37)|.ret v=>some v)
def m_ref01_digit:Nat→Int→Option Bool
  | 0,_=>none
  | n+1,v0_c=>(bif decide (48≤v0_c) then (some (decide (v0_c≤57))) else (some false))
def m_ref01_letter:Nat→Int→Option Bool
  | 0,_=>none
  | n+1,v0_c=>(bif decide (97≤v0_c) then (bif decide (v0_c≤122) then (some true) else (bif decide (65≤v0_c) then (bif decide (v0_c≤90) then (some true) else (some (v0_c==95))) else (some (v0_c==95)))) else (bif decide (65≤v0_c) then (bif decide (v0_c≤90) then (some true) else (some (v0_c==95))) else (some (v0_c==95))))
def m_ref01_signs:Nat→Option (List (List UInt8))
  | 0=>none
  | n+1=>(some ([([61,61]:List UInt8),([33,61]:List UInt8),([60,61]:List UInt8),([38,38]:List UInt8),([124,124]:List UInt8),([59]:List UInt8),([44]:List UInt8),([123]:List UInt8),([125]:List UInt8),([40]:List UInt8),([41]:List UInt8),([46]:List UInt8),([61]:List UInt8),([43]:List UInt8),([45]:List UInt8),([42]:List UInt8),([33]:List UInt8),([60]:List UInt8)]:List (List UInt8)))
def ref01_one_L0 (n:Nat)  (v0_s:(List UInt8)) (v1_at:Int):Nat→Int→Option (LR Int (S_api_Token×Int))
  | 0,_=>none
  | k2+1,s1=>(bif decide (s1<((v0_s.length:Nat):Int)) then ((idx v0_s s1).bind fun x11=>((m_ref01_letter n (x11.toNat:Int)).bind fun y12=>(bif y12 then (ref01_one_L0 n v0_s v1_at k2 (IntKind.i64.wrap (s1+1))) else (bif decide (v1_at<s1) then ((idx v0_s s1).bind fun x16=>((m_ref01_digit n (x16.toNat:Int)).bind fun y17=>(bif y17 then (ref01_one_L0 n v0_s v1_at k2 (IntKind.i64.wrap (s1+1))) else (some (.out s1))))) else (some (.out s1)))))) else (some (.out s1)))
def ref01_one_L1 (n:Nat)  (v0_s:(List UInt8)):Nat→Int→Int→Option (LR (Int×Int) (S_api_Token×Int))
  | 0,_,_=>none
  | k27+1,s25,s26=>(bif decide (s25<((v0_s.length:Nat):Int)) then ((idx v0_s s25).bind fun x36=>((m_ref01_digit n (x36.toNat:Int)).bind fun y37=>(bif y37 then ((idx v0_s s25).bind fun x40=>(ref01_one_L1 n v0_s k27 (IntKind.i64.wrap (s25+1)) (if 10000<(IntKind.i64.wrap ((IntKind.i64.wrap (10 * s26))+(IntKind.i64.wrap (IntKind.u8.wrap ((x40.toNat:Int) - 48))))) then 10000 else (IntKind.i64.wrap ((IntKind.i64.wrap (10 * s26))+(IntKind.i64.wrap (IntKind.u8.wrap ((x40.toNat:Int) - 48)))))))) else (some (.out (s25,s26)))))) else (some (.out (s25,s26))))
def ref01_one_L2 (n:Nat)  (v0_s:(List UInt8)) (v1_at:Int) (y47:(List (List UInt8))):Nat→Int→Option (LR Unit (S_api_Token×Int))
  | 0,_=>none
  | k50+1,s49=>(bif decide (s49<((y47.length:Nat):Int)) then ((idx y47 s49).bind fun x59=>(bif decide ((IntKind.i64.wrap (v1_at+((x59.length:Nat):Int)))≤((v0_s.length:Nat):Int)) then (bif (decide (0≤(IntKind.i64.wrap (v1_at+((x59.length:Nat):Int))))&&decide ((IntKind.i64.wrap (v1_at+((x59.length:Nat):Int)))≤((v0_s.length:Nat):Int))&&decide (0≤v1_at)&&decide (v1_at≤(IntKind.i64.wrap (v1_at+((x59.length:Nat):Int))))) then ((idx y47 s49).bind fun x62=>(bif ((List.drop (v1_at.toNat) (List.take ((IntKind.i64.wrap (v1_at+((x59.length:Nat):Int))).toNat) v0_s))==x62) then ((idx y47 s49).bind fun x64=>(some (.ret ((⟨3,x64,0,v1_at⟩:S_api_Token),0)))) else (ref01_one_L2 n v0_s v1_at y47 k50 (IntKind.i64.wrap (s49+1))))) else none) else (ref01_one_L2 n v0_s v1_at y47 k50 (IntKind.i64.wrap (s49+1))))) else (some (.out ())))
def m_ref01_one:Nat→(List UInt8)→Int→Option (S_api_Token×Int)
  | 0,_,_=>none
  | n+1,v0_s,v1_at=>((ref01_one_L0 n v0_s v1_at n v1_at).bind fun o9=>match o9 with|.out x21=>(bif decide (v1_at<x21) then (bif decide (16<(IntKind.i64.wrap (x21 - v1_at))) then (some ((⟨0,([]:List UInt8),0,0⟩:S_api_Token),2)) else (bif (decide (0≤x21)&&decide (x21≤((v0_s.length:Nat):Int))&&decide (0≤v1_at)&&decide (v1_at≤x21)) then (some ((⟨1,(List.drop (v1_at.toNat) (List.take (x21.toNat) v0_s)),0,v1_at⟩:S_api_Token),0)) else none)) else ((ref01_one_L1 n v0_s n x21 0).bind fun o34=>match o34 with|.out (x42,x43)=>(bif decide (v1_at<x42) then (bif decide (9999<x43) then (some ((⟨0,([]:List UInt8),0,0⟩:S_api_Token),4)) else (bif (decide (0≤x42)&&decide (x42≤((v0_s.length:Nat):Int))&&decide (0≤v1_at)&&decide (v1_at≤x42)) then (some ((⟨2,(List.drop (v1_at.toNat) (List.take (x42.toNat) v0_s)),x43,v1_at⟩:S_api_Token),0)) else none)) else ((m_ref01_signs n ).bind fun y47=>((ref01_one_L2 n v0_s v1_at y47 n 0).bind fun o57=>match o57 with|.out _=>(some ((⟨0,([]:List UInt8),0,0⟩:S_api_Token),3))|.ret v=>some v)))|.ret v=>some v))|.ret v=>some v)
def ref01_Scan_L0 (n:Nat)  (v0_s:(List UInt8)):Nat→Int→(List S_api_Token)→Option (LR (List S_api_Token) ((List S_api_Token)×Int×Int))
  | 0,_,_=>none
  | k6+1,s4,s5=>(bif decide (s4<((v0_s.length:Nat):Int)) then ((m_ref01_one n v0_s s4).bind fun y15=>(bif (y15.2 != 0) then (some (.ret (([]:List S_api_Token),y15.2,s4))) else (bif decide ((s5.length+1) * 41≤140737488355328) then ((m_ref01_gap n v0_s (IntKind.i64.wrap (s4+((y15.1.f_Text.length:Nat):Int)))).bind fun y20=>(ref01_Scan_L0 n v0_s k6 y20 (s5++([y15.1]:List S_api_Token)))) else none))) else (some (.out s5)))
def m_ref01_Scan:Nat→(List UInt8)→Option ((List S_api_Token)×Int×Int)
  | 0,_=>none
  | n+1,v0_s=>(bif decide (20000<((v0_s.length:Nat):Int)) then (some (([]:List S_api_Token),2,20000)) else ((m_ref01_gap n v0_s 0).bind fun y2=>((ref01_Scan_L0 n v0_s n y2 ([]:List S_api_Token)).bind fun o13=>match o13 with|.out x23=>(some (x23,0,0))|.ret v=>some v)))
def m_ref01_words:Nat→Option (List (List UInt8))
  | 0=>none
  | n+1=>(some ([([109,111,100]:List UInt8),([108,111,99]:List UInt8),([116,104,114,101,97,100]:List UInt8),([114,101,103]:List UInt8),([115,107,105,112]:List UInt8),([115,101,116]:List UInt8),([108,111,97,100]:List UInt8),([115,116,111,114,101]:List UInt8),([99,97,115]:List UInt8),([102,97,100,100]:List UInt8),([120,99,104,103]:List UInt8),([102,101,110,99,101]:List UInt8),([97,119,97,105,116]:List UInt8),([105,102]:List UInt8),([101,108,115,101]:List UInt8),([119,104,105,108,101]:List UInt8),([108,111,111,112]:List UInt8),([98,114,101,97,107]:List UInt8),([102,111,114,97,108,108]:List UInt8),([101,120,105,115,116,115]:List UInt8),([97,108,119,97,121,115]:List UInt8)]:List (List UInt8)))
def ref01_Keyword_L0 (n:Nat)  (v0_s:(List UInt8)) (y1:(List (List UInt8))):Nat→Int→Option (LR Unit Bool)
  | 0,_=>none
  | k4+1,s3=>(bif decide (s3<((y1.length:Nat):Int)) then ((idx y1 s3).bind fun x13=>(bif (x13==v0_s) then (some (.ret true)) else (ref01_Keyword_L0 n v0_s y1 k4 (IntKind.i64.wrap (s3+1))))) else (some (.out ())))
def m_ref01_Keyword:Nat→(List UInt8)→Option Bool
  | 0,_=>none
  | n+1,v0_s=>((m_ref01_words n ).bind fun y1=>((ref01_Keyword_L0 n v0_s y1 n 0).bind fun o11=>match o11 with|.out _=>(some false)|.ret v=>some v))
def ref01_Name_L0 (n:Nat)  (v0_s:(List UInt8)):Nat→Int→Option (LR Unit Bool)
  | 0,_=>none
  | k11+1,s10=>(bif decide (s10<((v0_s.length:Nat):Int)) then ((idx v0_s s10).bind fun x20=>((m_ref01_letter n (x20.toNat:Int)).bind fun y21=>(bif y21 then (ref01_Name_L0 n v0_s k11 (IntKind.i64.wrap (s10+1))) else ((idx v0_s s10).bind fun x24=>((m_ref01_digit n (x24.toNat:Int)).bind fun y25=>(bif y25 then (ref01_Name_L0 n v0_s k11 (IntKind.i64.wrap (s10+1))) else (some (.ret false)))))))) else (some (.out ())))
def m_ref01_Name:Nat→(List UInt8)→Option Bool
  | 0,_=>none
  | n+1,v0_s=>(bif decide (((v0_s.length:Nat):Int)<1) then (some false) else (bif decide (16<((v0_s.length:Nat):Int)) then (some false) else ((idx v0_s 0).bind fun x3=>((m_ref01_letter n (x3.toNat:Int)).bind fun y4=>(bif y4 then ((m_ref01_Keyword n v0_s).bind fun y7=>(bif y7 then (some false) else ((ref01_Name_L0 n v0_s n 0).bind fun o18=>match o18 with|.out _=>(some true)|.ret v=>some v))) else (some false))))))
def m_ref02_kids:Nat→Int→Option Int
  | 0,_=>none
  | n+1,v0_op=>(bif decide (1≤v0_op) then (bif decide (v0_op≤4) then (some 0) else (bif (v0_op==5) then (some 1) else (bif decide (6≤v0_op) then (bif decide (v0_op≤14) then (some 2) else (some (-1))) else (some (-1))))) else (bif (v0_op==5) then (some 1) else (bif decide (6≤v0_op) then (bif decide (v0_op≤14) then (some 2) else (some (-1))) else (some (-1)))))
def ref02_End_L0 (n:Nat)  (v0_l:(List S_api_Node)):Nat→Int→Int→Option (LR Unit Int)
  | 0,_,_=>none
  | k4+1,s2,s3=>(bif decide (s3<((v0_l.length:Nat):Int)) then ((idx v0_l s3).bind fun x13=>((m_ref02_kids n x13.f_Op).bind fun y14=>(bif decide (y14<0) then (some (.ret (-1))) else (bif ((IntKind.i64.wrap ((IntKind.i64.wrap (s2 - 1))+y14))==0) then (some (.ret (IntKind.i64.wrap (s3+1)))) else (ref02_End_L0 n v0_l k4 (IntKind.i64.wrap ((IntKind.i64.wrap (s2 - 1))+y14)) (IntKind.i64.wrap (s3+1))))))) else (some (.out ())))
def m_ref02_End:Nat→(List S_api_Node)→Int→Option Int
  | 0,_,_=>none
  | n+1,v0_l,v1_i=>(bif decide (v1_i<0) then (some (-1)) else ((ref02_End_L0 n v0_l n 1 v1_i).bind fun o11=>match o11 with|.out _=>(some (-1))|.ret v=>some v))
def ref02_deep_L0 (n:Nat) (rec_ref02_deep:(List S_api_Node)→Int→Option Int) (v0_l:(List S_api_Node)) (v1_i:Int):Nat→Int→Int→Int→Option (LR Int Int)
  | 0,_,_,_=>none
  | k4+1,s1,s2,s3=>((idx v0_l v1_i).bind fun x12=>((m_ref02_kids n x12.f_Op).bind fun y13=>(bif decide (s3<y13) then ((rec_ref02_deep v0_l s2).bind fun y16=>((m_ref02_End n v0_l s2).bind fun y18=>(ref02_deep_L0 n rec_ref02_deep v0_l v1_i k4 (if s1<(IntKind.i64.wrap (1+y16)) then (IntKind.i64.wrap (1+y16)) else s1) y18 (IntKind.i64.wrap (s3+1))))) else (some (.out s1)))))
def m_ref02_deep:Nat→(List S_api_Node)→Int→Option Int
  | 0,_,_=>none
  | n+1,v0_l,v1_i=>((ref02_deep_L0 n (m_ref02_deep n) v0_l v1_i n 0 (IntKind.i64.wrap (v1_i+1)) 0).bind fun o11=>match o11 with|.out x21=>(some x21)|.ret v=>some v)
def m_ref02_floors:Nat→Option (List (List Int))
  | 0=>none
  | n+1=>(some ([([14]:List Int),([13]:List Int),([9,10,11,12]:List Int),([6,7]:List Int),([8]:List Int)]:List (List Int)))
def m_ref02_Is:Nat→(List S_api_Token)→Int→(List UInt8)→Option Bool
  | 0,_,_,_=>none
  | n+1,v0_l,v1_i,v2_sign=>(bif decide (v1_i<((v0_l.length:Nat):Int)) then ((idx v0_l v1_i).bind fun x2=>(bif (x2.f_Kind==3) then ((idx v0_l v1_i).bind fun x4=>(some (x4.f_Text==v2_sign))) else (some false))) else (some false))
def m_ref02_Place:Nat→(List S_api_Token)→Int→Option Int
  | 0,_,_=>none
  | n+1,v0_l,v1_i=>(bif decide (v1_i<((v0_l.length:Nat):Int)) then ((idx v0_l v1_i).bind fun x2=>(some x2.f_At)) else (bif (((v0_l.length:Nat):Int)==0) then (some 0) else ((idx v0_l (IntKind.i64.wrap (((v0_l.length:Nat):Int) - 1))).bind fun x4=>((idx v0_l (IntKind.i64.wrap (((v0_l.length:Nat):Int) - 1))).bind fun x5=>(some (IntKind.i64.wrap (x4.f_At+((x5.f_Text.length:Nat):Int))))))))
def m_ref02_fail:Nat→(List S_api_Token)→Int→Option S_ref02_got
  | 0,_,_=>none
  | n+1,v0_l,v1_i=>(bif decide (((v0_l.length:Nat):Int)≤v1_i) then ((m_ref02_Place n v0_l v1_i).bind fun y2=>(some (⟨([]:List S_api_Node),0,6,y2⟩:S_ref02_got))) else ((m_ref02_Place n v0_l v1_i).bind fun y4=>(some (⟨([]:List S_api_Node),0,5,y4⟩:S_ref02_got))))
def m_ref02_sign:Nat→Int→Option (List UInt8)
  | 0,_=>none
  | n+1,v0_op=>((idx ([([33]:List UInt8),([43]:List UInt8),([45]:List UInt8),([42]:List UInt8),([61,61]:List UInt8),([33,61]:List UInt8),([60]:List UInt8),([60,61]:List UInt8),([38,38]:List UInt8),([124,124]:List UInt8)]:List (List UInt8)) (IntKind.i64.wrap (v0_op - 5))).bind fun x1=>(some x1))
def ref02_which_L0 (n:Nat)  (v0_l:(List S_api_Token)) (v1_i:Int) (v2_ops:(List Int)):Nat→Int→Option (LR Unit Int)
  | 0,_=>none
  | k2+1,s1=>(bif decide (s1<((v2_ops.length:Nat):Int)) then ((idx v2_ops s1).bind fun x11=>((m_ref02_sign n x11).bind fun y12=>((m_ref02_Is n v0_l v1_i y12).bind fun y14=>(bif y14 then ((idx v2_ops s1).bind fun x17=>(some (.ret x17))) else (ref02_which_L0 n v0_l v1_i v2_ops k2 (IntKind.i64.wrap (s1+1))))))) else (some (.out ())))
def m_ref02_which:Nat→(List S_api_Token)→Int→(List Int)→Option Int
  | 0,_,_,_=>none
  | n+1,v0_l,v1_i,v2_ops=>((ref02_which_L0 n v0_l v1_i v2_ops n 0).bind fun o9=>match o9 with|.out _=>(some 0)|.ret v=>some v)
def ref02_floor_L0 (n:Nat) (rec_ref02_floor:(List S_api_Token)→Int→Int→Int→Option S_ref02_got) (v0_l:(List S_api_Token)) (v2_in:Int) (v3_n:Int):Nat→(List S_api_Node)→Int→Int→Int→Option (LR ((List S_api_Node)×Int×Int×Int) S_ref02_got)
  | 0,_,_,_,_=>none
  | k10+1,s6,s7,s8,s9=>(bif (s8==0) then ((m_ref02_floors n ).bind fun y19=>((idx y19 v3_n).bind fun x21=>((m_ref02_which n v0_l s7 x21).bind fun y22=>(bif (y22==0) then (some (.ret (⟨s6,s7,s8,s9⟩:S_ref02_got))) else ((rec_ref02_floor v0_l (IntKind.i64.wrap (s7+1)) v2_in (IntKind.i64.wrap (v3_n+1))).bind fun y25=>(bif (y25.f_e != 0) then (some (.ret y25)) else ((idx v0_l s7).bind fun x28=>(bif decide (((([(⟨y22,0,([]:List UInt8),([]:List UInt8),x28.f_At⟩:S_api_Node)]:List S_api_Node)).length+s6.length) * 57≤140737488355328) then (bif decide ((((([(⟨y22,0,([]:List UInt8),([]:List UInt8),x28.f_At⟩:S_api_Node)]:List S_api_Node)++s6)).length+y25.f_l.length) * 57≤140737488355328) then (bif (v3_n==2) then (some (.ret (⟨((([(⟨y22,0,([]:List UInt8),([]:List UInt8),x28.f_At⟩:S_api_Node)]:List S_api_Node)++s6)++y25.f_l),y25.f_to,0,0⟩:S_ref02_got))) else (ref02_floor_L0 n rec_ref02_floor v0_l v2_in v3_n k10 ((([(⟨y22,0,([]:List UInt8),([]:List UInt8),x28.f_At⟩:S_api_Node)]:List S_api_Node)++s6)++y25.f_l) y25.f_to 0 0)) else none) else none)))))))) else (some (.out (s6,s7,s8,s9))))
mutual
def m_ref02_floor:Nat→(List S_api_Token)→Int→Int→Int→Option S_ref02_got
  | 0,_,_,_,_=>none
  | n+1,v0_l,v1_i,v2_in,v3_n=>(bif (v3_n==5) then (((m_ref02_prim n) v0_l v1_i v2_in).bind fun y2=>(some y2)) else (((m_ref02_floor n) v0_l v1_i v2_in (IntKind.i64.wrap (v3_n+1))).bind fun y4=>((ref02_floor_L0 n (m_ref02_floor n) v0_l v2_in v3_n n y4.f_l y4.f_to y4.f_e y4.f_at).bind fun o17=>match o17 with|.out (x35,x36,x37,x38)=>(some (⟨x35,x36,x37,x38⟩:S_ref02_got))|.ret v=>some v)))
def m_ref02_prim:Nat→(List S_api_Token)→Int→Int→Option S_ref02_got
  | 0,_,_,_=>none
  | n+1,v0_l,v1_i,v2_in=>(bif decide (((v0_l.length:Nat):Int)≤v1_i) then ((m_ref02_fail n v0_l v1_i).bind fun y2=>(some y2)) else ((idx v0_l v1_i).bind fun x4=>((m_ref02_Is n v0_l v1_i ([40]:List UInt8)).bind fun y5=>(bif y5 then (bif decide (30≤v2_in) then (some (⟨([]:List S_api_Node),0,7,x4.f_At⟩:S_ref02_got)) else ((m_ref02_Is n v0_l v1_i ([33]:List UInt8)).bind fun y9=>(bif y9 then (((m_ref02_prim n) v0_l (IntKind.i64.wrap (v1_i+1)) (IntKind.i64.wrap (v2_in+1))).bind fun y12=>(bif (y12.f_e==0) then (bif decide (((([(⟨5,0,([]:List UInt8),([]:List UInt8),x4.f_At⟩:S_api_Node)]:List S_api_Node)).length+y12.f_l.length) * 57≤140737488355328) then (some (⟨(([(⟨5,0,([]:List UInt8),([]:List UInt8),x4.f_At⟩:S_api_Node)]:List S_api_Node)++y12.f_l),y12.f_to,y12.f_e,y12.f_at⟩:S_ref02_got)) else none) else (some y12))) else ((m_ref02_Is n v0_l v1_i ([40]:List UInt8)).bind fun y17=>(bif y17 then (((m_ref02_floor n) v0_l (IntKind.i64.wrap (v1_i+1)) (IntKind.i64.wrap (v2_in+1)) 0).bind fun y20=>(bif (y20.f_e==0) then ((m_ref02_Is n v0_l y20.f_to ([41]:List UInt8)).bind fun y23=>(bif y23 then (some (⟨y20.f_l,IntKind.i64.wrap (y20.f_to+1),y20.f_e,y20.f_at⟩:S_ref02_got)) else ((m_ref02_fail n v0_l y20.f_to).bind fun y26=>(some y26)))) else (some (⟨y20.f_l,IntKind.i64.wrap (y20.f_to+1),y20.f_e,y20.f_at⟩:S_ref02_got)))) else (bif (x4.f_Kind==2) then (some (⟨([(⟨1,x4.f_N,([]:List UInt8),([]:List UInt8),x4.f_At⟩:S_api_Node)]:List S_api_Node),IntKind.i64.wrap (v1_i+1),0,0⟩:S_ref02_got)) else (bif (x4.f_Kind != 1) then ((m_ref02_fail n v0_l v1_i).bind fun y30=>(some y30)) else ((m_ref01_Name n x4.f_Text).bind fun y32=>(bif y32 then ((m_ref02_Is n v0_l (IntKind.i64.wrap (v1_i+1)) ([46]:List UInt8)).bind fun y35=>(bif y35 then (bif decide (((v0_l.length:Nat):Int)≤(IntKind.i64.wrap (v1_i+2))) then ((m_ref02_fail n v0_l (IntKind.i64.wrap (v1_i+2))).bind fun y39=>(some y39)) else ((idx v0_l (IntKind.i64.wrap (v1_i+2))).bind fun x41=>(bif (x41.f_Kind != 1) then ((m_ref02_fail n v0_l (IntKind.i64.wrap (v1_i+2))).bind fun y43=>(some y43)) else ((idx v0_l (IntKind.i64.wrap (v1_i+2))).bind fun x45=>((m_ref01_Name n x45.f_Text).bind fun y46=>(bif y46 then ((idx v0_l (IntKind.i64.wrap (v1_i+2))).bind fun x49=>(some (⟨([(⟨4,0,x49.f_Text,x4.f_Text,x4.f_At⟩:S_api_Node)]:List S_api_Node),IntKind.i64.wrap (v1_i+3),0,0⟩:S_ref02_got))) else ((m_ref02_fail n v0_l (IntKind.i64.wrap (v1_i+2))).bind fun y50=>(some y50)))))))) else (some (⟨([(⟨2,0,x4.f_Text,([]:List UInt8),x4.f_At⟩:S_api_Node)]:List S_api_Node),IntKind.i64.wrap (v1_i+1),0,0⟩:S_ref02_got)))) else ((m_ref02_fail n v0_l v1_i).bind fun y52=>(some y52))))))))))) else ((m_ref02_Is n v0_l v1_i ([33]:List UInt8)).bind fun y54=>(bif y54 then (bif decide (30≤v2_in) then (some (⟨([]:List S_api_Node),0,7,x4.f_At⟩:S_ref02_got)) else ((m_ref02_Is n v0_l v1_i ([33]:List UInt8)).bind fun y58=>(bif y58 then (((m_ref02_prim n) v0_l (IntKind.i64.wrap (v1_i+1)) (IntKind.i64.wrap (v2_in+1))).bind fun y61=>(bif (y61.f_e==0) then (bif decide (((([(⟨5,0,([]:List UInt8),([]:List UInt8),x4.f_At⟩:S_api_Node)]:List S_api_Node)).length+y61.f_l.length) * 57≤140737488355328) then (some (⟨(([(⟨5,0,([]:List UInt8),([]:List UInt8),x4.f_At⟩:S_api_Node)]:List S_api_Node)++y61.f_l),y61.f_to,y61.f_e,y61.f_at⟩:S_ref02_got)) else none) else (some y61))) else ((m_ref02_Is n v0_l v1_i ([40]:List UInt8)).bind fun y66=>(bif y66 then (((m_ref02_floor n) v0_l (IntKind.i64.wrap (v1_i+1)) (IntKind.i64.wrap (v2_in+1)) 0).bind fun y69=>(bif (y69.f_e==0) then ((m_ref02_Is n v0_l y69.f_to ([41]:List UInt8)).bind fun y72=>(bif y72 then (some (⟨y69.f_l,IntKind.i64.wrap (y69.f_to+1),y69.f_e,y69.f_at⟩:S_ref02_got)) else ((m_ref02_fail n v0_l y69.f_to).bind fun y75=>(some y75)))) else (some (⟨y69.f_l,IntKind.i64.wrap (y69.f_to+1),y69.f_e,y69.f_at⟩:S_ref02_got)))) else (bif (x4.f_Kind==2) then (some (⟨([(⟨1,x4.f_N,([]:List UInt8),([]:List UInt8),x4.f_At⟩:S_api_Node)]:List S_api_Node),IntKind.i64.wrap (v1_i+1),0,0⟩:S_ref02_got)) else (bif (x4.f_Kind != 1) then ((m_ref02_fail n v0_l v1_i).bind fun y79=>(some y79)) else ((m_ref01_Name n x4.f_Text).bind fun y81=>(bif y81 then ((m_ref02_Is n v0_l (IntKind.i64.wrap (v1_i+1)) ([46]:List UInt8)).bind fun y84=>(bif y84 then (bif decide (((v0_l.length:Nat):Int)≤(IntKind.i64.wrap (v1_i+2))) then ((m_ref02_fail n v0_l (IntKind.i64.wrap (v1_i+2))).bind fun y88=>(some y88)) else ((idx v0_l (IntKind.i64.wrap (v1_i+2))).bind fun x90=>(bif (x90.f_Kind != 1) then ((m_ref02_fail n v0_l (IntKind.i64.wrap (v1_i+2))).bind fun y92=>(some y92)) else ((idx v0_l (IntKind.i64.wrap (v1_i+2))).bind fun x94=>((m_ref01_Name n x94.f_Text).bind fun y95=>(bif y95 then ((idx v0_l (IntKind.i64.wrap (v1_i+2))).bind fun x98=>(some (⟨([(⟨4,0,x98.f_Text,x4.f_Text,x4.f_At⟩:S_api_Node)]:List S_api_Node),IntKind.i64.wrap (v1_i+3),0,0⟩:S_ref02_got))) else ((m_ref02_fail n v0_l (IntKind.i64.wrap (v1_i+2))).bind fun y99=>(some y99)))))))) else (some (⟨([(⟨2,0,x4.f_Text,([]:List UInt8),x4.f_At⟩:S_api_Node)]:List S_api_Node),IntKind.i64.wrap (v1_i+1),0,0⟩:S_ref02_got)))) else ((m_ref02_fail n v0_l v1_i).bind fun y101=>(some y101))))))))))) else ((m_ref02_Is n v0_l v1_i ([33]:List UInt8)).bind fun y103=>(bif y103 then (((m_ref02_prim n) v0_l (IntKind.i64.wrap (v1_i+1)) (IntKind.i64.wrap (v2_in+1))).bind fun y106=>(bif (y106.f_e==0) then (bif decide (((([(⟨5,0,([]:List UInt8),([]:List UInt8),x4.f_At⟩:S_api_Node)]:List S_api_Node)).length+y106.f_l.length) * 57≤140737488355328) then (some (⟨(([(⟨5,0,([]:List UInt8),([]:List UInt8),x4.f_At⟩:S_api_Node)]:List S_api_Node)++y106.f_l),y106.f_to,y106.f_e,y106.f_at⟩:S_ref02_got)) else none) else (some y106))) else ((m_ref02_Is n v0_l v1_i ([40]:List UInt8)).bind fun y111=>(bif y111 then (((m_ref02_floor n) v0_l (IntKind.i64.wrap (v1_i+1)) (IntKind.i64.wrap (v2_in+1)) 0).bind fun y114=>(bif (y114.f_e==0) then ((m_ref02_Is n v0_l y114.f_to ([41]:List UInt8)).bind fun y117=>(bif y117 then (some (⟨y114.f_l,IntKind.i64.wrap (y114.f_to+1),y114.f_e,y114.f_at⟩:S_ref02_got)) else ((m_ref02_fail n v0_l y114.f_to).bind fun y120=>(some y120)))) else (some (⟨y114.f_l,IntKind.i64.wrap (y114.f_to+1),y114.f_e,y114.f_at⟩:S_ref02_got)))) else (bif (x4.f_Kind==2) then (some (⟨([(⟨1,x4.f_N,([]:List UInt8),([]:List UInt8),x4.f_At⟩:S_api_Node)]:List S_api_Node),IntKind.i64.wrap (v1_i+1),0,0⟩:S_ref02_got)) else (bif (x4.f_Kind != 1) then ((m_ref02_fail n v0_l v1_i).bind fun y124=>(some y124)) else ((m_ref01_Name n x4.f_Text).bind fun y126=>(bif y126 then ((m_ref02_Is n v0_l (IntKind.i64.wrap (v1_i+1)) ([46]:List UInt8)).bind fun y129=>(bif y129 then (bif decide (((v0_l.length:Nat):Int)≤(IntKind.i64.wrap (v1_i+2))) then ((m_ref02_fail n v0_l (IntKind.i64.wrap (v1_i+2))).bind fun y133=>(some y133)) else ((idx v0_l (IntKind.i64.wrap (v1_i+2))).bind fun x135=>(bif (x135.f_Kind != 1) then ((m_ref02_fail n v0_l (IntKind.i64.wrap (v1_i+2))).bind fun y137=>(some y137)) else ((idx v0_l (IntKind.i64.wrap (v1_i+2))).bind fun x139=>((m_ref01_Name n x139.f_Text).bind fun y140=>(bif y140 then ((idx v0_l (IntKind.i64.wrap (v1_i+2))).bind fun x143=>(some (⟨([(⟨4,0,x143.f_Text,x4.f_Text,x4.f_At⟩:S_api_Node)]:List S_api_Node),IntKind.i64.wrap (v1_i+3),0,0⟩:S_ref02_got))) else ((m_ref02_fail n v0_l (IntKind.i64.wrap (v1_i+2))).bind fun y144=>(some y144)))))))) else (some (⟨([(⟨2,0,x4.f_Text,([]:List UInt8),x4.f_At⟩:S_api_Node)]:List S_api_Node),IntKind.i64.wrap (v1_i+1),0,0⟩:S_ref02_got)))) else ((m_ref02_fail n v0_l v1_i).bind fun y146=>(some y146))))))))))))))))
end
def m_ref02_Parse:Nat→(List S_api_Token)→Int→Option ((List S_api_Node)×Int×Int×Int)
  | 0,_,_=>none
  | n+1,v0_l,v1_i=>(bif decide (v1_i<0) then (some (([]:List S_api_Node),0,1,0)) else ((m_ref02_floor n v0_l v1_i 0 0).bind fun y2=>(bif (y2.f_e != 0) then (some (([]:List S_api_Node),0,y2.f_e,y2.f_at)) else ((m_ref02_deep n y2.f_l 0).bind fun y5=>(bif decide (30<y5) then ((idx v0_l v1_i).bind fun x8=>(some (([]:List S_api_Node),0,7,x8.f_At))) else (bif decide (200<((y2.f_l.length:Nat):Int)) then ((idx v0_l v1_i).bind fun x10=>(some (([]:List S_api_Node),0,2,x10.f_At))) else (some (y2.f_l,y2.f_to,0,0))))))))
def ref02_Names_L0 (n:Nat)  (v0_l:(List S_api_Node)):Nat→Int→(List S_api_Node)→Option (LR (List S_api_Node) (List S_api_Node))
  | 0,_,_=>none
  | k3+1,s1,s2=>(bif decide (s1<((v0_l.length:Nat):Int)) then ((idx v0_l s1).bind fun x12=>(bif (x12.f_Op==2) then ((idx v0_l s1).bind fun x14=>(bif decide ((s2.length+1) * 57≤140737488355328) then (ref02_Names_L0 n v0_l k3 (IntKind.i64.wrap (s1+1)) (s2++([x14]:List S_api_Node))) else none)) else ((idx v0_l s1).bind fun x17=>(bif (x17.f_Op==3) then ((idx v0_l s1).bind fun x19=>(bif decide ((s2.length+1) * 57≤140737488355328) then (ref02_Names_L0 n v0_l k3 (IntKind.i64.wrap (s1+1)) (s2++([x19]:List S_api_Node))) else none)) else ((idx v0_l s1).bind fun x22=>(bif (x22.f_Op==4) then ((idx v0_l s1).bind fun x24=>(bif decide ((s2.length+1) * 57≤140737488355328) then (ref02_Names_L0 n v0_l k3 (IntKind.i64.wrap (s1+1)) (s2++([x24]:List S_api_Node))) else none)) else (ref02_Names_L0 n v0_l k3 (IntKind.i64.wrap (s1+1)) s2))))))) else (some (.out s2)))
def m_ref02_Names:Nat→(List S_api_Node)→Option (List S_api_Node)
  | 0,_=>none
  | n+1,v0_l=>((ref02_Names_L0 n v0_l n 0 ([]:List S_api_Node)).bind fun o10=>match o10 with|.out x28=>(some x28)|.ret v=>some v)
def m_ref02_node:Nat→S_api_Node→Option Bool
  | 0,_=>none
  | n+1,v0_x=>(bif decide (v0_x.f_At<0) then (some false) else (bif (v0_x.f_Op==1) then (bif decide (0≤v0_x.f_N) then (bif decide (v0_x.f_N≤9999) then (bif (v0_x.f_Name==([]:List UInt8)) then (some (v0_x.f_In==([]:List UInt8))) else (some false)) else (some false)) else (some false)) else (bif (v0_x.f_Op==2) then (bif (v0_x.f_N==0) then ((m_ref01_Name n v0_x.f_Name).bind fun y8=>(bif y8 then (some (v0_x.f_In==([]:List UInt8))) else (some false))) else (some false)) else (bif (v0_x.f_Op==3) then (bif (v0_x.f_N==0) then ((m_ref01_Name n v0_x.f_Name).bind fun y13=>(bif y13 then (some (v0_x.f_In==([]:List UInt8))) else (some false))) else (some false)) else (bif (v0_x.f_Op==4) then (bif (v0_x.f_N==0) then ((m_ref01_Name n v0_x.f_Name).bind fun y18=>(bif y18 then ((m_ref01_Name n v0_x.f_In).bind fun y21=>(some y21)) else (some false))) else (some false)) else (bif (v0_x.f_N==0) then (bif (v0_x.f_Name==([]:List UInt8)) then (some (v0_x.f_In==([]:List UInt8))) else (some false)) else (some false)))))))
def ref02_Right_L0 (n:Nat)  (v0_l:(List S_api_Node)):Nat→Int→Option (LR Unit Bool)
  | 0,_=>none
  | k7+1,s6=>(bif decide (s6<((v0_l.length:Nat):Int)) then ((idx v0_l s6).bind fun x16=>((m_ref02_node n x16).bind fun y17=>(bif y17 then (ref02_Right_L0 n v0_l k7 (IntKind.i64.wrap (s6+1))) else (some (.ret false))))) else (some (.out ())))
def m_ref02_Right:Nat→(List S_api_Node)→Option Bool
  | 0,_=>none
  | n+1,v0_l=>(bif decide (200<((v0_l.length:Nat):Int)) then (some false) else (bif (((v0_l.length:Nat):Int)==0) then (some false) else ((m_ref02_End n v0_l 0).bind fun y3=>(bif (y3 != ((v0_l.length:Nat):Int)) then (some false) else ((ref02_Right_L0 n v0_l n 0).bind fun o14=>match o14 with|.out _=>((m_ref02_deep n v0_l 0).bind fun y21=>(some (decide (y21≤30))))|.ret v=>some v)))))
def ref02_Light_L0 (n:Nat)  (v0_l:(List S_api_Node)):Nat→Int→Option (LR Unit Bool)
  | 0,_=>none
  | k3+1,s2=>(bif decide (s2<((v0_l.length:Nat):Int)) then ((idx v0_l s2).bind fun x12=>(bif decide (100<((x12.f_Name.length:Nat):Int)) then (some (.ret false)) else ((idx v0_l s2).bind fun x14=>(bif decide (100<((x14.f_In.length:Nat):Int)) then (some (.ret false)) else (ref02_Light_L0 n v0_l k3 (IntKind.i64.wrap (s2+1))))))) else (some (.out ())))
def m_ref02_Light:Nat→(List S_api_Node)→Option Bool
  | 0,_=>none
  | n+1,v0_l=>(bif decide (250<((v0_l.length:Nat):Int)) then (some false) else ((ref02_Light_L0 n v0_l n 0).bind fun o10=>match o10 with|.out _=>(some true)|.ret v=>some v))
def m_expr_kids:Nat→Int→Option Int
  | 0,_=>none
  | n+1,v0_op=>(bif decide (1≤v0_op) then (bif decide (v0_op≤4) then (some 0) else (bif (v0_op==5) then (some 1) else (bif decide (6≤v0_op) then (bif decide (v0_op≤14) then (some 2) else (some (-1))) else (some (-1))))) else (bif (v0_op==5) then (some 1) else (bif decide (6≤v0_op) then (bif decide (v0_op≤14) then (some 2) else (some (-1))) else (some (-1)))))
def expr_End_L0 (n:Nat)  (v0_l:(List S_api_Node)):Nat→Int→Int→Option (LR Unit Int)
  | 0,_,_=>none
  | k4+1,s2,s3=>(bif decide (s2<((v0_l.length:Nat):Int)) then ((idx v0_l s2).bind fun x13=>((m_expr_kids n x13.f_Op).bind fun y14=>(bif decide (y14<0) then (some (.ret (-1))) else (bif ((IntKind.i64.wrap (s3+(IntKind.i64.wrap (y14 - 1))))==0) then (some (.ret (IntKind.i64.wrap (s2+1)))) else (expr_End_L0 n v0_l k4 (IntKind.i64.wrap (s2+1)) (IntKind.i64.wrap (s3+(IntKind.i64.wrap (y14 - 1))))))))) else (some (.out ())))
def m_expr_End:Nat→(List S_api_Node)→Int→Option Int
  | 0,_,_=>none
  | n+1,v0_l,v1_i=>(bif decide (v1_i<0) then (some (-1)) else ((expr_End_L0 n v0_l n v1_i 1).bind fun o11=>match o11 with|.out _=>(some (-1))|.ret v=>some v))
def expr_Names_L0 (n:Nat)  (v0_l:(List S_api_Node)):Nat→Int→(List S_api_Node)→Option (LR (List S_api_Node) (List S_api_Node))
  | 0,_,_=>none
  | k3+1,s1,s2=>(bif decide (s1<((v0_l.length:Nat):Int)) then ((idx v0_l s1).bind fun x12=>(bif (x12.f_Op==2) then (bif decide ((s2.length+1) * 57≤140737488355328) then (expr_Names_L0 n v0_l k3 (IntKind.i64.wrap (s1+1)) (s2++([x12]:List S_api_Node))) else none) else (bif (x12.f_Op==3) then (bif decide ((s2.length+1) * 57≤140737488355328) then (expr_Names_L0 n v0_l k3 (IntKind.i64.wrap (s1+1)) (s2++([x12]:List S_api_Node))) else none) else (bif (x12.f_Op==4) then (bif decide ((s2.length+1) * 57≤140737488355328) then (expr_Names_L0 n v0_l k3 (IntKind.i64.wrap (s1+1)) (s2++([x12]:List S_api_Node))) else none) else (expr_Names_L0 n v0_l k3 (IntKind.i64.wrap (s1+1)) s2))))) else (some (.out s2)))
def m_expr_Names:Nat→(List S_api_Node)→Option (List S_api_Node)
  | 0,_=>none
  | n+1,v0_l=>((expr_Names_L0 n v0_l n 0 ([]:List S_api_Node)).bind fun o10=>match o10 with|.out x23=>(some x23)|.ret v=>some v)
def expr_depth_L1 (n:Nat) :Nat→(List Int)→Option (LR (List Int) Int)
  | 0,_=>none
  | k21+1,s20=>(bif decide (0<((s20.length:Nat):Int)) then ((idx s20 (IntKind.i64.wrap (((s20.length:Nat):Int) - 1))).bind fun x30=>((idx s20 (IntKind.i64.wrap (((s20.length:Nat):Int) - 1))).bind fun x31=>((idx (List.set s20 (IntKind.i64.wrap (((s20.length:Nat):Int) - 1)).toNat (IntKind.i64.wrap (x30 - 1))) (IntKind.i64.wrap (((s20.length:Nat):Int) - 1))).bind fun x33=>(bif decide (0<x33) then (some (.out (List.set s20 (IntKind.i64.wrap (((s20.length:Nat):Int) - 1)).toNat (IntKind.i64.wrap (x30 - 1))))) else (bif (decide (0≤(IntKind.i64.wrap (((s20.length:Nat):Int) - 1)))&&decide ((IntKind.i64.wrap (((s20.length:Nat):Int) - 1))≤((((List.set s20 (IntKind.i64.wrap (((s20.length:Nat):Int) - 1)).toNat (IntKind.i64.wrap (x30 - 1)))).length:Nat):Int))) then (expr_depth_L1 n k21 (List.take ((IntKind.i64.wrap (((s20.length:Nat):Int) - 1)).toNat) (List.set s20 (IntKind.i64.wrap (((s20.length:Nat):Int) - 1)).toNat (IntKind.i64.wrap (x30 - 1))))) else none))))) else (some (.out s20)))
def expr_depth_L0 (n:Nat)  (v0_l:(List S_api_Node)):Nat→Int→Int→(List Int)→Option (LR (Int×(List Int)) Int)
  | 0,_,_,_=>none
  | k4+1,s1,s2,s3=>(bif decide (s2<((v0_l.length:Nat):Int)) then ((idx v0_l s2).bind fun x13=>((m_expr_kids n x13.f_Op).bind fun y14=>(bif decide (0<y14) then (bif decide ((s3.length+1) * 9≤140737488355328) then (expr_depth_L0 n v0_l k4 (if s1<((s3.length:Nat):Int) then ((s3.length:Nat):Int) else s1) (IntKind.i64.wrap (s2+1)) (s3++([y14]:List Int))) else none) else ((expr_depth_L1 n n s3).bind fun o28=>match o28 with|.out x38=>(expr_depth_L0 n v0_l k4 (if s1<((s3.length:Nat):Int) then ((s3.length:Nat):Int) else s1) (IntKind.i64.wrap (s2+1)) x38)|.ret v=>some (.ret v))))) else (some (.out (s1,s3))))
def m_expr_depth:Nat→(List S_api_Node)→Option Int
  | 0,_=>none
  | n+1,v0_l=>((expr_depth_L0 n v0_l n 0 0 ([]:List Int)).bind fun o11=>match o11 with|.out (x41,x42)=>(some x41)|.ret v=>some v)
def m_expr_fits:Nat→S_api_Node→Option Bool
  | 0,_=>none
  | n+1,v0_x=>(bif decide (v0_x.f_At<0) then (some false) else (bif (v0_x.f_Op==1) then (bif ((v0_x.f_Op==v0_x.f_Op)&&((v0_x.f_N==v0_x.f_N)&&((v0_x.f_Name==([]:List UInt8))&&((v0_x.f_In==([]:List UInt8))&&((v0_x.f_At==v0_x.f_At)&&true))))) then (bif decide (0≤v0_x.f_N) then (some (decide (v0_x.f_N≤9999))) else (some false)) else (some false)) else (bif (v0_x.f_Op==4) then ((m_scan_Name n v0_x.f_In).bind fun y7=>(bif y7 then (bif ((v0_x.f_Op==v0_x.f_Op)&&((v0_x.f_N==0)&&((v0_x.f_Name==v0_x.f_Name)&&((v0_x.f_In==v0_x.f_In)&&((v0_x.f_At==v0_x.f_At)&&true))))) then ((m_scan_Name n v0_x.f_Name).bind fun y11=>(some y11)) else (some false)) else (some false))) else (bif (v0_x.f_Op==2) then (bif ((v0_x.f_Op==v0_x.f_Op)&&((v0_x.f_N==0)&&((v0_x.f_Name==v0_x.f_Name)&&((v0_x.f_In==([]:List UInt8))&&((v0_x.f_At==v0_x.f_At)&&true))))) then ((m_scan_Name n v0_x.f_Name).bind fun y16=>(some y16)) else (some false)) else (bif (v0_x.f_Op==3) then (bif ((v0_x.f_Op==v0_x.f_Op)&&((v0_x.f_N==0)&&((v0_x.f_Name==v0_x.f_Name)&&((v0_x.f_In==([]:List UInt8))&&((v0_x.f_At==v0_x.f_At)&&true))))) then ((m_scan_Name n v0_x.f_Name).bind fun y21=>(some y21)) else (some false)) else (some ((v0_x.f_Op==v0_x.f_Op)&&((v0_x.f_N==0)&&((v0_x.f_Name==([]:List UInt8))&&((v0_x.f_In==([]:List UInt8))&&((v0_x.f_At==v0_x.f_At)&&true)))))))))))
def expr_Right_L0 (n:Nat)  (v0_l:(List S_api_Node)):Nat→Int→Option (LR Unit Bool)
  | 0,_=>none
  | k7+1,s6=>(bif decide (s6<((v0_l.length:Nat):Int)) then ((idx v0_l s6).bind fun x16=>((m_expr_fits n x16).bind fun y17=>(bif y17 then (expr_Right_L0 n v0_l k7 (IntKind.i64.wrap (s6+1))) else (some (.ret false))))) else (some (.out ())))
def m_expr_Right:Nat→(List S_api_Node)→Option Bool
  | 0,_=>none
  | n+1,v0_l=>(bif (((v0_l.length:Nat):Int)==0) then (some false) else (bif decide (200<((v0_l.length:Nat):Int)) then (some false) else ((m_expr_End n v0_l 0).bind fun y3=>(bif (y3 != ((v0_l.length:Nat):Int)) then (some false) else ((expr_Right_L0 n v0_l n 0).bind fun o14=>match o14 with|.out _=>((m_expr_depth n v0_l).bind fun y21=>(some (decide (y21≤30))))|.ret v=>some v)))))
def m_ref03_Wrong:Nat→(List S_api_Token)→Int→Option (Int×Int)
  | 0,_,_=>none
  | n+1,v0_l,v1_i=>(bif decide (((v0_l.length:Nat):Int)≤v1_i) then ((m_ref02_Place n v0_l v1_i).bind fun y2=>(some (6,y2))) else ((m_ref02_Place n v0_l v1_i).bind fun y4=>(some (5,y4))))
def m_ref03_Name:Nat→(List S_api_Token)→Int→Option Bool
  | 0,_,_=>none
  | n+1,v0_l,v1_i=>(bif decide (v1_i<((v0_l.length:Nat):Int)) then ((idx v0_l v1_i).bind fun x2=>(bif (x2.f_Kind==1) then ((idx v0_l v1_i).bind fun x4=>((m_ref01_Name n x4.f_Text).bind fun y5=>(some y5))) else (some false))) else (some false))
def m_ref03_block:Nat→Int→Option Bool
  | 0,_=>none
  | n+1,v0_kind=>(bif (v0_kind==10) then (some true) else (bif (v0_kind==11) then (some true) else (some (v0_kind==12))))
def m_ref03_form:Nat→Int→Option (List UInt8)
  | 0,_=>none
  | n+1,v0_kind=>(bif (v0_kind==2) then (some ([114,61,101,59]:List UInt8)) else (bif (v0_kind==3) then (some ([114,61,108,59]:List UInt8)) else (bif (v0_kind==4) then (some ([108,61,101,59]:List UInt8)) else (bif (v0_kind==5) then (some ([114,61,108,44,101,44,102,59]:List UInt8)) else (bif (v0_kind==6) then (some ([114,61,108,44,101,59]:List UInt8)) else (bif (v0_kind==7) then (some ([114,61,108,44,101,59]:List UInt8)) else (bif (v0_kind==9) then (some ([108,113,101,59]:List UInt8)) else (bif (v0_kind==10) then (some ([101]:List UInt8)) else (bif (v0_kind==11) then (some ([101]:List UInt8)) else (bif (v0_kind==12) then (some ([]:List UInt8)) else (some ([59]:List UInt8))))))))))))
def ref03_Plain_L0 (n:Nat)  (y1:(List S_api_Node)):Nat→Int→Option (LR Unit Bool)
  | 0,_=>none
  | k4+1,s3=>(bif decide (s3<((y1.length:Nat):Int)) then ((idx y1 s3).bind fun x13=>(bif (x13.f_Op != 2) then (some (.ret false)) else (ref03_Plain_L0 n y1 k4 (IntKind.i64.wrap (s3+1))))) else (some (.out ())))
def m_ref03_Plain:Nat→(List S_api_Node)→Option Bool
  | 0,_=>none
  | n+1,v0_l=>((m_ref02_Names n v0_l).bind fun y1=>((ref03_Plain_L0 n y1 n 0).bind fun o11=>match o11 with|.out _=>((m_ref02_Right n v0_l).bind fun y16=>(some y16))|.ret v=>some v))
def m_ref03_plain:Nat→(List S_api_Token)→Int→Option ((List S_api_Node)×Int×Int×Int)
  | 0,_,_=>none
  | n+1,v0_l,v1_i=>((m_ref02_Parse n v0_l v1_i).bind fun y1=>(bif (y1.2.2.1 != 0) then (some (([]:List S_api_Node),0,y1.2.2.1,y1.2.2.2)) else ((m_ref03_Plain n y1.1).bind fun y4=>(bif y4 then (some (y1.1,y1.2.1,0,0)) else ((idx v0_l v1_i).bind fun x7=>(some (([]:List S_api_Node),0,5,x7.f_At)))))))
def ref03_fields_L0 (n:Nat)  (v0_l:(List S_api_Token)) (v2_x:S_api_Stmt) (y1:(List UInt8)):Nat→Int→Int→(List UInt8)→(List UInt8)→(List S_api_Node)→(List S_api_Node)→Bool→Option (LR (Int×(List UInt8)×(List UInt8)×(List S_api_Node)×(List S_api_Node)×Bool) (S_api_Stmt×Int×Int×Int))
  | 0,_,_,_,_,_,_,_=>none
  | k10+1,s3,s4,s5,s6,s7,s8,s9=>(bif decide (s4<((y1.length:Nat):Int)) then ((idx y1 s4).bind fun x19=>(bif ((x19.toNat:Int)==114) then ((m_ref03_Name n v0_l s3).bind fun y21=>(bif y21 then ((idx y1 s4).bind fun x24=>(bif ((x24.toNat:Int)==114) then ((idx v0_l s3).bind fun x26=>(ref03_fields_L0 n v0_l v2_x y1 k10 (IntKind.i64.wrap (s3+1)) (IntKind.i64.wrap (s4+1)) x26.f_Text s6 s7 s8 s9)) else ((idx v0_l s3).bind fun x27=>(ref03_fields_L0 n v0_l v2_x y1 k10 (IntKind.i64.wrap (s3+1)) (IntKind.i64.wrap (s4+1)) s5 x27.f_Text s7 s8 s9)))) else ((m_ref03_Wrong n v0_l s3).bind fun y28=>(some (.ret ((⟨v2_x.f_Kind,s5,s6,s7,s8,s9,v2_x.f_Body,v2_x.f_Else,v2_x.f_At⟩:S_api_Stmt),0,y28.1,y28.2)))))) else ((idx y1 s4).bind fun x30=>(bif ((x30.toNat:Int)==108) then ((m_ref03_Name n v0_l s3).bind fun y32=>(bif y32 then ((idx y1 s4).bind fun x35=>(bif ((x35.toNat:Int)==114) then ((idx v0_l s3).bind fun x37=>(ref03_fields_L0 n v0_l v2_x y1 k10 (IntKind.i64.wrap (s3+1)) (IntKind.i64.wrap (s4+1)) x37.f_Text s6 s7 s8 s9)) else ((idx v0_l s3).bind fun x38=>(ref03_fields_L0 n v0_l v2_x y1 k10 (IntKind.i64.wrap (s3+1)) (IntKind.i64.wrap (s4+1)) s5 x38.f_Text s7 s8 s9)))) else ((m_ref03_Wrong n v0_l s3).bind fun y39=>(some (.ret ((⟨v2_x.f_Kind,s5,s6,s7,s8,s9,v2_x.f_Body,v2_x.f_Else,v2_x.f_At⟩:S_api_Stmt),0,y39.1,y39.2)))))) else ((idx y1 s4).bind fun x41=>(bif ((x41.toNat:Int)==101) then ((m_ref03_plain n v0_l s3).bind fun y43=>(bif (y43.2.2.1 != 0) then (some (.ret ((⟨v2_x.f_Kind,s5,s6,s7,s8,s9,v2_x.f_Body,v2_x.f_Else,v2_x.f_At⟩:S_api_Stmt),0,y43.2.2.1,y43.2.2.2))) else ((idx y1 s4).bind fun x46=>(bif ((x46.toNat:Int)==101) then (ref03_fields_L0 n v0_l v2_x y1 k10 y43.2.1 (IntKind.i64.wrap (s4+1)) s5 s6 y43.1 s8 s9) else (ref03_fields_L0 n v0_l v2_x y1 k10 y43.2.1 (IntKind.i64.wrap (s4+1)) s5 s6 s7 y43.1 s9))))) else ((idx y1 s4).bind fun x48=>(bif ((x48.toNat:Int)==102) then ((m_ref03_plain n v0_l s3).bind fun y50=>(bif (y50.2.2.1 != 0) then (some (.ret ((⟨v2_x.f_Kind,s5,s6,s7,s8,s9,v2_x.f_Body,v2_x.f_Else,v2_x.f_At⟩:S_api_Stmt),0,y50.2.2.1,y50.2.2.2))) else ((idx y1 s4).bind fun x53=>(bif ((x53.toNat:Int)==101) then (ref03_fields_L0 n v0_l v2_x y1 k10 y50.2.1 (IntKind.i64.wrap (s4+1)) s5 s6 y50.1 s8 s9) else (ref03_fields_L0 n v0_l v2_x y1 k10 y50.2.1 (IntKind.i64.wrap (s4+1)) s5 s6 s7 y50.1 s9))))) else ((idx y1 s4).bind fun x55=>(bif ((x55.toNat:Int)==113) then ((m_ref02_Is n v0_l s3 ([33,61]:List UInt8)).bind fun y57=>(bif y57 then (ref03_fields_L0 n v0_l v2_x y1 k10 (IntKind.i64.wrap (s3+1)) (IntKind.i64.wrap (s4+1)) s5 s6 s7 s8 true) else ((m_ref02_Is n v0_l s3 ([61,61]:List UInt8)).bind fun y60=>(bif y60 then (ref03_fields_L0 n v0_l v2_x y1 k10 (IntKind.i64.wrap (s3+1)) (IntKind.i64.wrap (s4+1)) s5 s6 s7 s8 false) else ((m_ref03_Wrong n v0_l s3).bind fun y63=>(some (.ret ((⟨v2_x.f_Kind,s5,s6,s7,s8,false,v2_x.f_Body,v2_x.f_Else,v2_x.f_At⟩:S_api_Stmt),0,y63.1,y63.2)))))))) else (bif (decide (0≤(IntKind.i64.wrap (s4+1)))&&decide ((IntKind.i64.wrap (s4+1))≤((y1.length:Nat):Int))&&decide (0≤s4)&&decide (s4≤(IntKind.i64.wrap (s4+1)))) then ((m_ref02_Is n v0_l s3 (List.drop (s4.toNat) (List.take ((IntKind.i64.wrap (s4+1)).toNat) y1))).bind fun y66=>(bif y66 then (ref03_fields_L0 n v0_l v2_x y1 k10 (IntKind.i64.wrap (s3+1)) (IntKind.i64.wrap (s4+1)) s5 s6 s7 s8 s9) else ((m_ref03_Wrong n v0_l s3).bind fun y69=>(some (.ret ((⟨v2_x.f_Kind,s5,s6,s7,s8,s9,v2_x.f_Body,v2_x.f_Else,v2_x.f_At⟩:S_api_Stmt),0,y69.1,y69.2)))))) else none))))))))))) else (some (.out (s3,s5,s6,s7,s8,s9))))
def m_ref03_fields:Nat→(List S_api_Token)→Int→S_api_Stmt→Option (S_api_Stmt×Int×Int×Int)
  | 0,_,_,_=>none
  | n+1,v0_l,v1_i,v2_x=>((m_ref03_form n v2_x.f_Kind).bind fun y1=>((ref03_fields_L0 n v0_l v2_x y1 n v1_i 0 v2_x.f_Reg v2_x.f_Loc v2_x.f_E v2_x.f_F v2_x.f_Ne).bind fun o17=>match o17 with|.out (x72,x73,x74,x75,x76,x77)=>(some ((⟨v2_x.f_Kind,x73,x74,x75,x76,x77,v2_x.f_Body,v2_x.f_Else,v2_x.f_At⟩:S_api_Stmt),x72,0,0))|.ret v=>some v))
def m_ref03_words:Nat→Option (List (List UInt8))
  | 0=>none
  | n+1=>(some ([([]:List UInt8),([115,107,105,112]:List UInt8),([115,101,116]:List UInt8),([108,111,97,100]:List UInt8),([115,116,111,114,101]:List UInt8),([99,97,115]:List UInt8),([102,97,100,100]:List UInt8),([120,99,104,103]:List UInt8),([102,101,110,99,101]:List UInt8),([97,119,97,105,116]:List UInt8),([105,102]:List UInt8),([119,104,105,108,101]:List UInt8),([108,111,111,112]:List UInt8),([98,114,101,97,107]:List UInt8)]:List (List UInt8)))
def ref03_kind_L0 (n:Nat)  (v0_l:(List S_api_Token)) (v1_i:Int):Nat→Int→Option (LR Unit Int)
  | 0,_=>none
  | k2+1,s1=>((m_ref03_words n ).bind fun y10=>(bif decide (s1<((y10.length:Nat):Int)) then (bif decide (v1_i<((v0_l.length:Nat):Int)) then ((idx v0_l v1_i).bind fun x14=>(bif (x14.f_Kind==1) then ((idx v0_l v1_i).bind fun x16=>((m_ref03_words n ).bind fun y17=>((idx y17 s1).bind fun x19=>(bif (x16.f_Text==x19) then (some (.ret s1)) else (ref03_kind_L0 n v0_l v1_i k2 (IntKind.i64.wrap (s1+1))))))) else (ref03_kind_L0 n v0_l v1_i k2 (IntKind.i64.wrap (s1+1))))) else (some (.out ()))) else (some (.out ()))))
def m_ref03_kind:Nat→(List S_api_Token)→Int→Option Int
  | 0,_,_=>none
  | n+1,v0_l,v1_i=>((ref03_kind_L0 n v0_l v1_i n 1).bind fun o9=>match o9 with|.out _=>(some 0)|.ret v=>some v)
def ref03_list_L0 (n:Nat) (rec_ref03_braced:(List S_api_Token)→Int→Int→Option ((List S_api_Stmt)×Int×Int×Int)) (v0_l:(List S_api_Token)) (v2_in:Int):Nat→Int→(List S_api_Stmt)→Option (LR (Int×(List S_api_Stmt)) ((List S_api_Stmt)×Int×Int×Int))
  | 0,_,_=>none
  | k3+1,s1,s2=>(bif decide (s1<((v0_l.length:Nat):Int)) then ((m_ref02_Is n v0_l s1 ([125]:List UInt8)).bind fun y12=>(bif y12 then (some (.out (s1,s2))) else ((m_ref03_kind n v0_l s1).bind fun y15=>(bif (y15==0) then ((idx v0_l s1).bind fun x18=>(some (.ret (([]:List S_api_Stmt),0,5,x18.f_At)))) else ((idx v0_l s1).bind fun x19=>((m_ref03_fields n v0_l (IntKind.i64.wrap (s1+1)) (⟨y15,([]:List UInt8),([]:List UInt8),([]:List S_api_Node),([]:List S_api_Node),false,0,0,x19.f_At⟩:S_api_Stmt)).bind fun y20=>(bif (y20.2.2.1 != 0) then (some (.ret (([]:List S_api_Stmt),0,y20.2.2.1,y20.2.2.2))) else ((m_ref03_block n y15).bind fun y23=>(bif y23 then ((rec_ref03_braced v0_l y20.2.1 v2_in).bind fun y26=>(bif (y26.2.2.1 != 0) then (some (.ret (([]:List S_api_Stmt),0,y26.2.2.1,y26.2.2.2))) else (bif (y15==10) then (bif decide (y26.2.1<((v0_l.length:Nat):Int)) then ((idx v0_l y26.2.1).bind fun x31=>(bif (x31.f_Kind==1) then ((idx v0_l y26.2.1).bind fun x33=>(bif (x33.f_Text==([101,108,115,101]:List UInt8)) then ((rec_ref03_braced v0_l (IntKind.i64.wrap (y26.2.1+1)) v2_in).bind fun y35=>(bif (y35.2.2.1 != 0) then (some (.ret (([]:List S_api_Stmt),0,y35.2.2.1,y35.2.2.2))) else (bif decide ((s2.length+1) * 121≤140737488355328) then (bif decide ((((s2++([(⟨y20.1.f_Kind,y20.1.f_Reg,y20.1.f_Loc,y20.1.f_E,y20.1.f_F,y20.1.f_Ne,((y26.1.length:Nat):Int),((y35.1.length:Nat):Int),y20.1.f_At⟩:S_api_Stmt)]:List S_api_Stmt))).length+y26.1.length) * 121≤140737488355328) then (bif decide (((((s2++([(⟨y20.1.f_Kind,y20.1.f_Reg,y20.1.f_Loc,y20.1.f_E,y20.1.f_F,y20.1.f_Ne,((y26.1.length:Nat):Int),((y35.1.length:Nat):Int),y20.1.f_At⟩:S_api_Stmt)]:List S_api_Stmt))++y26.1)).length+y35.1.length) * 121≤140737488355328) then (ref03_list_L0 n rec_ref03_braced v0_l v2_in k3 y35.2.1 (((s2++([(⟨y20.1.f_Kind,y20.1.f_Reg,y20.1.f_Loc,y20.1.f_E,y20.1.f_F,y20.1.f_Ne,((y26.1.length:Nat):Int),((y35.1.length:Nat):Int),y20.1.f_At⟩:S_api_Stmt)]:List S_api_Stmt))++y26.1)++y35.1)) else none) else none) else none))) else (bif decide ((s2.length+1) * 121≤140737488355328) then (bif decide ((((s2++([(⟨y20.1.f_Kind,y20.1.f_Reg,y20.1.f_Loc,y20.1.f_E,y20.1.f_F,y20.1.f_Ne,((y26.1.length:Nat):Int),0,y20.1.f_At⟩:S_api_Stmt)]:List S_api_Stmt))).length+y26.1.length) * 121≤140737488355328) then (bif decide (((((s2++([(⟨y20.1.f_Kind,y20.1.f_Reg,y20.1.f_Loc,y20.1.f_E,y20.1.f_F,y20.1.f_Ne,((y26.1.length:Nat):Int),0,y20.1.f_At⟩:S_api_Stmt)]:List S_api_Stmt))++y26.1)).length+0) * 121≤140737488355328) then (ref03_list_L0 n rec_ref03_braced v0_l v2_in k3 y26.2.1 ((s2++([(⟨y20.1.f_Kind,y20.1.f_Reg,y20.1.f_Loc,y20.1.f_E,y20.1.f_F,y20.1.f_Ne,((y26.1.length:Nat):Int),0,y20.1.f_At⟩:S_api_Stmt)]:List S_api_Stmt))++y26.1)) else none) else none) else none))) else (bif decide ((s2.length+1) * 121≤140737488355328) then (bif decide ((((s2++([(⟨y20.1.f_Kind,y20.1.f_Reg,y20.1.f_Loc,y20.1.f_E,y20.1.f_F,y20.1.f_Ne,((y26.1.length:Nat):Int),0,y20.1.f_At⟩:S_api_Stmt)]:List S_api_Stmt))).length+y26.1.length) * 121≤140737488355328) then (bif decide (((((s2++([(⟨y20.1.f_Kind,y20.1.f_Reg,y20.1.f_Loc,y20.1.f_E,y20.1.f_F,y20.1.f_Ne,((y26.1.length:Nat):Int),0,y20.1.f_At⟩:S_api_Stmt)]:List S_api_Stmt))++y26.1)).length+0) * 121≤140737488355328) then (ref03_list_L0 n rec_ref03_braced v0_l v2_in k3 y26.2.1 ((s2++([(⟨y20.1.f_Kind,y20.1.f_Reg,y20.1.f_Loc,y20.1.f_E,y20.1.f_F,y20.1.f_Ne,((y26.1.length:Nat):Int),0,y20.1.f_At⟩:S_api_Stmt)]:List S_api_Stmt))++y26.1)) else none) else none) else none))) else (bif decide ((s2.length+1) * 121≤140737488355328) then (bif decide ((((s2++([(⟨y20.1.f_Kind,y20.1.f_Reg,y20.1.f_Loc,y20.1.f_E,y20.1.f_F,y20.1.f_Ne,((y26.1.length:Nat):Int),0,y20.1.f_At⟩:S_api_Stmt)]:List S_api_Stmt))).length+y26.1.length) * 121≤140737488355328) then (bif decide (((((s2++([(⟨y20.1.f_Kind,y20.1.f_Reg,y20.1.f_Loc,y20.1.f_E,y20.1.f_F,y20.1.f_Ne,((y26.1.length:Nat):Int),0,y20.1.f_At⟩:S_api_Stmt)]:List S_api_Stmt))++y26.1)).length+0) * 121≤140737488355328) then (ref03_list_L0 n rec_ref03_braced v0_l v2_in k3 y26.2.1 ((s2++([(⟨y20.1.f_Kind,y20.1.f_Reg,y20.1.f_Loc,y20.1.f_E,y20.1.f_F,y20.1.f_Ne,((y26.1.length:Nat):Int),0,y20.1.f_At⟩:S_api_Stmt)]:List S_api_Stmt))++y26.1)) else none) else none) else none)) else (bif decide ((s2.length+1) * 121≤140737488355328) then (bif decide ((((s2++([(⟨y20.1.f_Kind,y20.1.f_Reg,y20.1.f_Loc,y20.1.f_E,y20.1.f_F,y20.1.f_Ne,((y26.1.length:Nat):Int),0,y20.1.f_At⟩:S_api_Stmt)]:List S_api_Stmt))).length+y26.1.length) * 121≤140737488355328) then (bif decide (((((s2++([(⟨y20.1.f_Kind,y20.1.f_Reg,y20.1.f_Loc,y20.1.f_E,y20.1.f_F,y20.1.f_Ne,((y26.1.length:Nat):Int),0,y20.1.f_At⟩:S_api_Stmt)]:List S_api_Stmt))++y26.1)).length+0) * 121≤140737488355328) then (ref03_list_L0 n rec_ref03_braced v0_l v2_in k3 y26.2.1 ((s2++([(⟨y20.1.f_Kind,y20.1.f_Reg,y20.1.f_Loc,y20.1.f_E,y20.1.f_F,y20.1.f_Ne,((y26.1.length:Nat):Int),0,y20.1.f_At⟩:S_api_Stmt)]:List S_api_Stmt))++y26.1)) else none) else none) else none)))) else (bif (y15==10) then (bif decide (y20.2.1<((v0_l.length:Nat):Int)) then ((idx v0_l y20.2.1).bind fun x74=>(bif (x74.f_Kind==1) then ((idx v0_l y20.2.1).bind fun x76=>(bif (x76.f_Text==([101,108,115,101]:List UInt8)) then ((rec_ref03_braced v0_l (IntKind.i64.wrap (y20.2.1+1)) v2_in).bind fun y78=>(bif (y78.2.2.1 != 0) then (some (.ret (([]:List S_api_Stmt),0,y78.2.2.1,y78.2.2.2))) else (bif decide ((s2.length+1) * 121≤140737488355328) then (bif decide ((((s2++([(⟨y20.1.f_Kind,y20.1.f_Reg,y20.1.f_Loc,y20.1.f_E,y20.1.f_F,y20.1.f_Ne,0,((y78.1.length:Nat):Int),y20.1.f_At⟩:S_api_Stmt)]:List S_api_Stmt))).length+0) * 121≤140737488355328) then (bif decide ((((s2++([(⟨y20.1.f_Kind,y20.1.f_Reg,y20.1.f_Loc,y20.1.f_E,y20.1.f_F,y20.1.f_Ne,0,((y78.1.length:Nat):Int),y20.1.f_At⟩:S_api_Stmt)]:List S_api_Stmt))).length+y78.1.length) * 121≤140737488355328) then (ref03_list_L0 n rec_ref03_braced v0_l v2_in k3 y78.2.1 ((s2++([(⟨y20.1.f_Kind,y20.1.f_Reg,y20.1.f_Loc,y20.1.f_E,y20.1.f_F,y20.1.f_Ne,0,((y78.1.length:Nat):Int),y20.1.f_At⟩:S_api_Stmt)]:List S_api_Stmt))++y78.1)) else none) else none) else none))) else (bif decide ((s2.length+1) * 121≤140737488355328) then (bif decide ((((s2++([(⟨y20.1.f_Kind,y20.1.f_Reg,y20.1.f_Loc,y20.1.f_E,y20.1.f_F,y20.1.f_Ne,0,0,y20.1.f_At⟩:S_api_Stmt)]:List S_api_Stmt))).length+0) * 121≤140737488355328) then (bif decide ((((s2++([(⟨y20.1.f_Kind,y20.1.f_Reg,y20.1.f_Loc,y20.1.f_E,y20.1.f_F,y20.1.f_Ne,0,0,y20.1.f_At⟩:S_api_Stmt)]:List S_api_Stmt))).length+0) * 121≤140737488355328) then (ref03_list_L0 n rec_ref03_braced v0_l v2_in k3 y20.2.1 (s2++([(⟨y20.1.f_Kind,y20.1.f_Reg,y20.1.f_Loc,y20.1.f_E,y20.1.f_F,y20.1.f_Ne,0,0,y20.1.f_At⟩:S_api_Stmt)]:List S_api_Stmt))) else none) else none) else none))) else (bif decide ((s2.length+1) * 121≤140737488355328) then (bif decide ((((s2++([(⟨y20.1.f_Kind,y20.1.f_Reg,y20.1.f_Loc,y20.1.f_E,y20.1.f_F,y20.1.f_Ne,0,0,y20.1.f_At⟩:S_api_Stmt)]:List S_api_Stmt))).length+0) * 121≤140737488355328) then (bif decide ((((s2++([(⟨y20.1.f_Kind,y20.1.f_Reg,y20.1.f_Loc,y20.1.f_E,y20.1.f_F,y20.1.f_Ne,0,0,y20.1.f_At⟩:S_api_Stmt)]:List S_api_Stmt))).length+0) * 121≤140737488355328) then (ref03_list_L0 n rec_ref03_braced v0_l v2_in k3 y20.2.1 (s2++([(⟨y20.1.f_Kind,y20.1.f_Reg,y20.1.f_Loc,y20.1.f_E,y20.1.f_F,y20.1.f_Ne,0,0,y20.1.f_At⟩:S_api_Stmt)]:List S_api_Stmt))) else none) else none) else none))) else (bif decide ((s2.length+1) * 121≤140737488355328) then (bif decide ((((s2++([(⟨y20.1.f_Kind,y20.1.f_Reg,y20.1.f_Loc,y20.1.f_E,y20.1.f_F,y20.1.f_Ne,0,0,y20.1.f_At⟩:S_api_Stmt)]:List S_api_Stmt))).length+0) * 121≤140737488355328) then (bif decide ((((s2++([(⟨y20.1.f_Kind,y20.1.f_Reg,y20.1.f_Loc,y20.1.f_E,y20.1.f_F,y20.1.f_Ne,0,0,y20.1.f_At⟩:S_api_Stmt)]:List S_api_Stmt))).length+0) * 121≤140737488355328) then (ref03_list_L0 n rec_ref03_braced v0_l v2_in k3 y20.2.1 (s2++([(⟨y20.1.f_Kind,y20.1.f_Reg,y20.1.f_Loc,y20.1.f_E,y20.1.f_F,y20.1.f_Ne,0,0,y20.1.f_At⟩:S_api_Stmt)]:List S_api_Stmt))) else none) else none) else none)) else (bif decide ((s2.length+1) * 121≤140737488355328) then (bif decide ((((s2++([(⟨y20.1.f_Kind,y20.1.f_Reg,y20.1.f_Loc,y20.1.f_E,y20.1.f_F,y20.1.f_Ne,0,0,y20.1.f_At⟩:S_api_Stmt)]:List S_api_Stmt))).length+0) * 121≤140737488355328) then (bif decide ((((s2++([(⟨y20.1.f_Kind,y20.1.f_Reg,y20.1.f_Loc,y20.1.f_E,y20.1.f_F,y20.1.f_Ne,0,0,y20.1.f_At⟩:S_api_Stmt)]:List S_api_Stmt))).length+0) * 121≤140737488355328) then (ref03_list_L0 n rec_ref03_braced v0_l v2_in k3 y20.2.1 (s2++([(⟨y20.1.f_Kind,y20.1.f_Reg,y20.1.f_Loc,y20.1.f_E,y20.1.f_F,y20.1.f_Ne,0,0,y20.1.f_At⟩:S_api_Stmt)]:List S_api_Stmt))) else none) else none) else none))))))))))) else (some (.out (s1,s2))))
mutual
def m_ref03_braced:Nat→(List S_api_Token)→Int→Int→Option ((List S_api_Stmt)×Int×Int×Int)
  | 0,_,_,_=>none
  | n+1,v0_l,v1_i,v2_in=>((m_ref02_Is n v0_l v1_i ([123]:List UInt8)).bind fun y1=>(bif y1 then (bif decide (30≤v2_in) then ((idx v0_l v1_i).bind fun x5=>(some (([]:List S_api_Stmt),0,7,x5.f_At))) else (((m_ref03_list n) v0_l (IntKind.i64.wrap (v1_i+1)) (IntKind.i64.wrap (v2_in+1))).bind fun y6=>(bif (y6.2.2.1 != 0) then (some (([]:List S_api_Stmt),0,y6.2.2.1,y6.2.2.2)) else ((m_ref02_Is n v0_l y6.2.1 ([125]:List UInt8)).bind fun y9=>(bif y9 then (some (y6.1,IntKind.i64.wrap (y6.2.1+1),0,0)) else ((m_ref03_Wrong n v0_l y6.2.1).bind fun y12=>(some (([]:List S_api_Stmt),0,y12.1,y12.2)))))))) else ((m_ref03_Wrong n v0_l v1_i).bind fun y14=>(some (([]:List S_api_Stmt),0,y14.1,y14.2)))))
def m_ref03_list:Nat→(List S_api_Token)→Int→Int→Option ((List S_api_Stmt)×Int×Int×Int)
  | 0,_,_,_=>none
  | n+1,v0_l,v1_i,v2_in=>((ref03_list_L0 n (m_ref03_braced n) v0_l v2_in n v1_i ([]:List S_api_Stmt)).bind fun o10=>match o10 with|.out (x121,x122)=>(some (x122,x121,0,0))|.ret v=>some v)
end
def m_ref03_Parse:Nat→(List S_api_Token)→Int→Option ((List S_api_Stmt)×Int×Int×Int)
  | 0,_,_=>none
  | n+1,v0_l,v1_i=>(bif decide (v1_i<0) then (some (([]:List S_api_Stmt),0,1,0)) else (bif decide (((v0_l.length:Nat):Int)<v1_i) then (some (([]:List S_api_Stmt),0,1,0)) else ((m_ref03_list n v0_l v1_i 0).bind fun y3=>(bif (y3.2.2.1 != 0) then (some (([]:List S_api_Stmt),0,y3.2.2.1,y3.2.2.2)) else (bif decide (200<((y3.1.length:Nat):Int)) then ((m_ref02_Place n v0_l v1_i).bind fun y7=>(some (([]:List S_api_Stmt),0,2,y7))) else (some (y3.1,y3.2.1,0,0)))))))
def ref03_Light_L0 (n:Nat)  (v0_l:(List S_api_Stmt)):Nat→Int→Option (LR Unit Bool)
  | 0,_=>none
  | k3+1,s2=>(bif decide (s2<((v0_l.length:Nat):Int)) then ((idx v0_l s2).bind fun x12=>(bif decide (100<((x12.f_Reg.length:Nat):Int)) then (some (.ret false)) else ((idx v0_l s2).bind fun x14=>(bif decide (100<((x14.f_Loc.length:Nat):Int)) then (some (.ret false)) else ((idx v0_l s2).bind fun x16=>((m_ref02_Light n x16.f_E).bind fun y17=>(bif y17 then ((idx v0_l s2).bind fun x20=>((m_ref02_Light n x20.f_F).bind fun y21=>(bif y21 then (ref03_Light_L0 n v0_l k3 (IntKind.i64.wrap (s2+1))) else (some (.ret false))))) else (some (.ret false))))))))) else (some (.out ())))
def m_ref03_Light:Nat→(List S_api_Stmt)→Option Bool
  | 0,_=>none
  | n+1,v0_l=>(bif decide (60<((v0_l.length:Nat):Int)) then (some false) else ((ref03_Light_L0 n v0_l n 0).bind fun o10=>match o10 with|.out _=>(some true)|.ret v=>some v))
def m_stmt_nests:Nat→Int→Option Bool
  | 0,_=>none
  | n+1,v0_kind=>(bif (v0_kind==10) then (some true) else (bif (v0_kind==11) then (some true) else (bif (v0_kind==12) then (some true) else (some false))))
def stmt_walk_stmt_depth_1_L0 (n:Nat) (rec_stmt_depth_1:Int→Int→Int→(List S_api_Stmt)→Int→Option (Bool×Int)) (v0_l:(List S_api_Stmt)) (v2_to:Int) (o0:(List S_api_Stmt)):Nat→Int→Int→Option (LR Int (Bool×Int))
  | 0,_,_=>none
  | k3+1,s1,s2=>(bif decide (s1<v2_to) then ((idx v0_l s1).bind fun x12=>(bif decide (x12.f_Body<0) then (some (.ret (false,s2))) else (bif decide (x12.f_Else<0) then (some (.ret (false,s2))) else (bif decide ((IntKind.i64.wrap ((IntKind.i64.wrap (v2_to - s1)) - 1))<x12.f_Body) then (some (.ret (false,s2))) else (bif decide ((IntKind.i64.wrap ((IntKind.i64.wrap ((IntKind.i64.wrap (v2_to - s1)) - 1)) - x12.f_Body))<x12.f_Else) then (some (.ret (false,s2))) else ((rec_stmt_depth_1 s1 (IntKind.i64.wrap ((IntKind.i64.wrap (s1+1))+x12.f_Body)) (IntKind.i64.wrap ((IntKind.i64.wrap ((IntKind.i64.wrap (s1+1))+x12.f_Body))+x12.f_Else)) o0 s2).bind fun y17=>(bif y17.1 then (stmt_walk_stmt_depth_1_L0 n rec_stmt_depth_1 v0_l v2_to o0 k3 (IntKind.i64.wrap ((IntKind.i64.wrap ((IntKind.i64.wrap (s1+1))+x12.f_Body))+x12.f_Else)) y17.2) else (some (.ret (false,y17.2)))))))))) else (some (.out s2)))
mutual
def m_stmt_depth:Nat→(List S_api_Stmt)→Int→Int→Option Int
  | 0,_,_,_=>none
  | n+1,v0_l,v1_from,v2_to=>(((m_stmt_walk_stmt_depth_1 n) v0_l v1_from v2_to v0_l 0).bind fun y1=>(bif y1.1 then (some y1.2) else (some (-1))))
def m_stmt_depth_1:Nat→Int→Int→Int→(List S_api_Stmt)→Int→Option (Bool×Int)
  | 0,_,_,_,_,_=>none
  | n+1,v0_i,v1_mid,v2_end,o0,o1=>(((m_stmt_depth n) o0 (IntKind.i64.wrap (v0_i+1)) v1_mid).bind fun y1=>(((m_stmt_depth n) o0 v1_mid v2_end).bind fun y3=>((idx o0 v0_i).bind fun x5=>((m_stmt_nests n x5.f_Kind).bind fun y6=>(bif y6 then (bif (y1 != (-1)) then (some ((y3 != (-1)),max3 o1 (IntKind.i64.wrap (1+y1)) (IntKind.i64.wrap (1+y3)))) else (some (false,max3 o1 (IntKind.i64.wrap (1+y1)) (IntKind.i64.wrap (1+y3))))) else (bif (y1 != (-1)) then (some ((y3 != (-1)),o1)) else (some (false,o1))))))))
def m_stmt_walk_stmt_depth_1:Nat→(List S_api_Stmt)→Int→Int→(List S_api_Stmt)→Int→Option (Bool×Int)
  | 0,_,_,_,_,_=>none
  | n+1,v0_l,v1_from,v2_to,o0,o1=>((stmt_walk_stmt_depth_1_L0 n (m_stmt_depth_1 n) v0_l v2_to o0 n v1_from o1).bind fun o10=>match o10 with|.out x21=>(some (true,x21))|.ret v=>some v)
end
def m_stmt_Depth:Nat→(List S_api_Stmt)→Option Int
  | 0,_=>none
  | n+1,v0_l=>((m_stmt_depth n v0_l 0 ((v0_l.length:Nat):Int)).bind fun y1=>(some y1))
def stmt_kind_has_L0 (n:Nat)  (v0_k:S_stmt_kind) (v1_part:Int):Nat→Int→Option (LR Unit Bool)
  | 0,_=>none
  | k2+1,s1=>(bif decide (s1<((v0_k.f_form.length:Nat):Int)) then ((idx v0_k.f_form s1).bind fun x11=>(bif ((x11.toNat:Int)==v1_part) then (some (.ret true)) else (stmt_kind_has_L0 n v0_k v1_part k2 (IntKind.i64.wrap (s1+1))))) else (some (.out ())))
def m_stmt_kind_has:Nat→S_stmt_kind→Int→Option Bool
  | 0,_,_=>none
  | n+1,v0_k,v1_part=>((stmt_kind_has_L0 n v0_k v1_part n 0).bind fun o9=>match o9 with|.out _=>(some false)|.ret v=>some v)
def m_stmt_fits_1:Nat→Int→(List UInt8)→(List UInt8)→(List UInt8)→Bool→Bool→Option Bool
  | 0,_,_,_,_,_,_=>none
  | n+1,v0_part,v1_s,o0_word,o0_form,o0_body,o0_more=>((m_stmt_kind_has n (⟨o0_word,o0_form,o0_body,o0_more⟩:S_stmt_kind) v0_part).bind fun y1=>(bif y1 then ((m_scan_Name n v1_s).bind fun y4=>(bif y4 then (some true) else ((m_stmt_kind_has n (⟨o0_word,o0_form,o0_body,o0_more⟩:S_stmt_kind) v0_part).bind fun y7=>(bif y7 then (some false) else (some (v1_s==([]:List UInt8))))))) else ((m_stmt_kind_has n (⟨o0_word,o0_form,o0_body,o0_more⟩:S_stmt_kind) v0_part).bind fun y10=>(bif y10 then (some false) else (some (v1_s==([]:List UInt8)))))))
def stmt_plain_L0 (n:Nat)  (y1:(List S_api_Node)):Nat→Int→Option (LR Unit Bool)
  | 0,_=>none
  | k4+1,s3=>(bif decide (s3<((y1.length:Nat):Int)) then ((idx y1 s3).bind fun x13=>(bif (x13.f_Op != 2) then (some (.ret false)) else (stmt_plain_L0 n y1 k4 (IntKind.i64.wrap (s3+1))))) else (some (.out ())))
def m_stmt_plain:Nat→(List S_api_Node)→Option Bool
  | 0,_=>none
  | n+1,v0_l=>((m_expr_Names n v0_l).bind fun y1=>((stmt_plain_L0 n y1 n 0).bind fun o11=>match o11 with|.out _=>((m_expr_Right n v0_l).bind fun y16=>(some y16))|.ret v=>some v))
def m_stmt_fits_2:Nat→Int→(List S_api_Node)→(List UInt8)→(List UInt8)→Bool→Bool→Option Bool
  | 0,_,_,_,_,_,_=>none
  | n+1,v0_part,v1_l,o0_word,o0_form,o0_body,o0_more=>((m_stmt_kind_has n (⟨o0_word,o0_form,o0_body,o0_more⟩:S_stmt_kind) v0_part).bind fun y1=>(bif y1 then ((m_stmt_plain n v1_l).bind fun y4=>(bif y4 then (some true) else ((m_stmt_kind_has n (⟨o0_word,o0_form,o0_body,o0_more⟩:S_stmt_kind) v0_part).bind fun y7=>(bif y7 then (some false) else (some (((v1_l.length:Nat):Int)==0)))))) else ((m_stmt_kind_has n (⟨o0_word,o0_form,o0_body,o0_more⟩:S_stmt_kind) v0_part).bind fun y10=>(bif y10 then (some false) else (some (((v1_l.length:Nat):Int)==0))))))
def m_stmt_kinds:Nat→Option (List S_stmt_kind)
  | 0=>none
  | n+1=>(some ([(⟨([]:List UInt8),([]:List UInt8),false,false⟩:S_stmt_kind),(⟨([115,107,105,112]:List UInt8),([59]:List UInt8),false,false⟩:S_stmt_kind),(⟨([115,101,116]:List UInt8),([114,61,101,59]:List UInt8),false,false⟩:S_stmt_kind),(⟨([108,111,97,100]:List UInt8),([114,61,108,59]:List UInt8),false,false⟩:S_stmt_kind),(⟨([115,116,111,114,101]:List UInt8),([108,61,101,59]:List UInt8),false,false⟩:S_stmt_kind),(⟨([99,97,115]:List UInt8),([114,61,108,44,101,44,102,59]:List UInt8),false,false⟩:S_stmt_kind),(⟨([102,97,100,100]:List UInt8),([114,61,108,44,101,59]:List UInt8),false,false⟩:S_stmt_kind),(⟨([120,99,104,103]:List UInt8),([114,61,108,44,101,59]:List UInt8),false,false⟩:S_stmt_kind),(⟨([102,101,110,99,101]:List UInt8),([59]:List UInt8),false,false⟩:S_stmt_kind),(⟨([97,119,97,105,116]:List UInt8),([108,113,101,59]:List UInt8),false,false⟩:S_stmt_kind),(⟨([105,102]:List UInt8),([101]:List UInt8),true,true⟩:S_stmt_kind),(⟨([119,104,105,108,101]:List UInt8),([101]:List UInt8),true,false⟩:S_stmt_kind),(⟨([108,111,111,112]:List UInt8),([]:List UInt8),true,false⟩:S_stmt_kind),(⟨([98,114,101,97,107]:List UInt8),([59]:List UInt8),false,false⟩:S_stmt_kind)]:List S_stmt_kind))
def m_stmt_of:Nat→Int→Option (S_stmt_kind×Bool)
  | 0,_=>none
  | n+1,v0_n=>((m_stmt_kinds n ).bind fun y1=>(bif decide (v0_n<1) then (some ((⟨([]:List UInt8),([]:List UInt8),false,false⟩:S_stmt_kind),false)) else (bif decide (((y1.length:Nat):Int)≤v0_n) then (some ((⟨([]:List UInt8),([]:List UInt8),false,false⟩:S_stmt_kind),false)) else ((idx y1 v0_n).bind fun x5=>(some (x5,true))))))
def m_stmt_fits:Nat→S_api_Stmt→Option Bool
  | 0,_=>none
  | n+1,v0_x=>((m_stmt_of n v0_x.f_Kind).bind fun y1=>(bif y1.2 then (bif decide (v0_x.f_At<0) then (some false) else (bif v0_x.f_Ne then ((m_stmt_kind_has n y1.1 113).bind fun y6=>(bif y6 then ((m_stmt_fits_1 n 114 v0_x.f_Reg y1.1.f_word y1.1.f_form y1.1.f_body y1.1.f_more).bind fun y9=>(bif y9 then ((m_stmt_fits_1 n 108 v0_x.f_Loc y1.1.f_word y1.1.f_form y1.1.f_body y1.1.f_more).bind fun y12=>(bif y12 then ((m_stmt_fits_2 n 101 v0_x.f_E y1.1.f_word y1.1.f_form y1.1.f_body y1.1.f_more).bind fun y15=>(bif y15 then ((m_stmt_fits_2 n 102 v0_x.f_F y1.1.f_word y1.1.f_form y1.1.f_body y1.1.f_more).bind fun y18=>(bif y18 then (bif y1.1.f_body then (bif y1.1.f_more then (some true) else (some (v0_x.f_Else==0))) else (bif (v0_x.f_Body==0) then (bif y1.1.f_more then (some true) else (some (v0_x.f_Else==0))) else (some false))) else (some false))) else (some false))) else (some false))) else (some false))) else (some false))) else ((m_stmt_fits_1 n 114 v0_x.f_Reg y1.1.f_word y1.1.f_form y1.1.f_body y1.1.f_more).bind fun y25=>(bif y25 then ((m_stmt_fits_1 n 108 v0_x.f_Loc y1.1.f_word y1.1.f_form y1.1.f_body y1.1.f_more).bind fun y28=>(bif y28 then ((m_stmt_fits_2 n 101 v0_x.f_E y1.1.f_word y1.1.f_form y1.1.f_body y1.1.f_more).bind fun y31=>(bif y31 then ((m_stmt_fits_2 n 102 v0_x.f_F y1.1.f_word y1.1.f_form y1.1.f_body y1.1.f_more).bind fun y34=>(bif y34 then (bif y1.1.f_body then (bif y1.1.f_more then (some true) else (some (v0_x.f_Else==0))) else (bif (v0_x.f_Body==0) then (bif y1.1.f_more then (some true) else (some (v0_x.f_Else==0))) else (some false))) else (some false))) else (some false))) else (some false))) else (some false))))) else (some false)))
def stmt_Right_L0 (n:Nat)  (v0_l:(List S_api_Stmt)):Nat→Int→Option (LR Unit Bool)
  | 0,_=>none
  | k7+1,s6=>(bif decide (s6<((v0_l.length:Nat):Int)) then ((idx v0_l s6).bind fun x16=>((m_stmt_fits n x16).bind fun y17=>(bif y17 then (stmt_Right_L0 n v0_l k7 (IntKind.i64.wrap (s6+1))) else (some (.ret false))))) else (some (.out ())))
def m_stmt_Right:Nat→(List S_api_Stmt)→Option Bool
  | 0,_=>none
  | n+1,v0_l=>((m_stmt_Depth n v0_l).bind fun y1=>(bif (y1==(-1)) then (some false) else (bif decide (30<y1) then (some false) else (bif decide (200<((v0_l.length:Nat):Int)) then (some false) else ((stmt_Right_L0 n v0_l n 0).bind fun o14=>match o14 with|.out _=>(some true)|.ret v=>some v)))))
def m_ref04_state_fault:Nat→Int→Int→(List S_api_Token)→Int→Int→Int→Option (Int×Int)
  | 0,_,_,_,_,_,_=>none
  | n+1,v1_e,v2_at,s_l,s_i,s_e,s_at=>(bif (s_e==0) then (bif (v1_e != 0) then (some (v1_e,v2_at)) else (some (s_e,s_at))) else (some (s_e,s_at)))
def m_ref04_state_wrong:Nat→(List S_api_Token)→Int→Int→Int→Option (Int×Int)
  | 0,_,_,_,_=>none
  | n+1,s_l,s_i,s_e,s_at=>(bif (s_e==0) then ((m_ref03_Wrong n s_l s_i).bind fun y2=>(some (y2.1,y2.2))) else (some (s_e,s_at)))
def m_ref04_state_sign:Nat→(List UInt8)→(List S_api_Token)→Int→Int→Int→Option (Int×Int×Int)
  | 0,_,_,_,_,_=>none
  | n+1,v1_w,s_l,s_i,s_e,s_at=>(bif (s_e==0) then ((m_ref02_Is n s_l s_i v1_w).bind fun y2=>(bif y2 then (some (IntKind.i64.wrap (s_i+1),s_e,s_at)) else ((m_ref04_state_wrong n s_l s_i s_e s_at).bind fun y5=>(some (s_i,y5.1,y5.2))))) else ((m_ref04_state_wrong n s_l s_i s_e s_at).bind fun y7=>(some (s_i,y7.1,y7.2))))
def ref04_state_claim_L0 (n:Nat) :Nat→Option (LR Unit (S_api_Claim×Int×Int×Int))
  | 0=>none
  | k6+1=>(some (.out ()))
def ref04_state_claim_L1 (n:Nat) :Nat→Int→(List S_api_Node)→Option (LR (List S_api_Node) (S_api_Claim×Int×Int×Int))
  | 0,_,_=>none
  | k25+1,s23,s24=>(bif decide (s23<((s24.length:Nat):Int)) then ((idx s24 s23).bind fun x34=>(bif (x34.f_Op==2) then ((idx s24 s23).bind fun x36=>(ref04_state_claim_L1 n k25 (IntKind.i64.wrap (s23+1)) (List.set s24 s23.toNat (⟨3,x36.f_N,x36.f_Name,x36.f_In,x36.f_At⟩:S_api_Node)))) else (ref04_state_claim_L1 n k25 (IntKind.i64.wrap (s23+1)) s24))) else (some (.out s24)))
def m_ref04_state_claim:Nat→Int→(List S_api_Token)→Int→Int→Int→Option (S_api_Claim×Int×Int×Int)
  | 0,_,_,_,_,_=>none
  | n+1,v1_kind,s_l,s_i,s_e,s_at=>((idx s_l s_i).bind fun x1=>((m_ref02_Parse n s_l (IntKind.i64.wrap (s_i+1))).bind fun y2=>(bif decide (y2.1.length=0) then ((m_ref04_state_fault n y2.2.2.1 y2.2.2.2 s_l (IntKind.i64.wrap (s_i+1)) s_e s_at).bind fun y4=>((ref04_state_claim_L0 n n).bind fun o13=>match o13 with|.out _=>(bif (y4.1==0) then ((m_ref04_state_sign n ([59]:List UInt8) s_l y2.2.1 y4.1 y4.2).bind fun y16=>(some ((⟨v1_kind,([]:List S_api_Node),x1.f_At⟩:S_api_Claim),y16.1,y16.2.1,y16.2.2))) else ((m_ref04_state_sign n ([59]:List UInt8) s_l (IntKind.i64.wrap (s_i+1)) y4.1 y4.2).bind fun y18=>(some ((⟨v1_kind,([]:List S_api_Node),x1.f_At⟩:S_api_Claim),y18.1,y18.2.1,y18.2.2))))|.ret v=>some v)) else ((m_ref04_state_fault n y2.2.2.1 y2.2.2.2 s_l (IntKind.i64.wrap (s_i+1)) s_e s_at).bind fun y21=>((ref04_state_claim_L1 n n 0 y2.1).bind fun o32=>match o32 with|.out x39=>(bif (y21.1==0) then ((m_ref04_state_sign n ([59]:List UInt8) s_l y2.2.1 y21.1 y21.2).bind fun y41=>(some ((⟨v1_kind,x39,x1.f_At⟩:S_api_Claim),y41.1,y41.2.1,y41.2.2))) else ((m_ref04_state_sign n ([59]:List UInt8) s_l (IntKind.i64.wrap (s_i+1)) y21.1 y21.2).bind fun y43=>(some ((⟨v1_kind,x39,x1.f_At⟩:S_api_Claim),y43.1,y43.2.1,y43.2.2))))|.ret v=>some v)))))
def m_ref04_state_key:Nat→(List UInt8)→(List S_api_Token)→Int→Int→Int→Option Bool
  | 0,_,_,_,_,_=>none
  | n+1,v1_w,s_l,s_i,s_e,s_at=>(bif (s_e==0) then (bif decide (s_i<((s_l.length:Nat):Int)) then ((idx s_l s_i).bind fun x3=>(bif (x3.f_Kind==1) then ((idx s_l s_i).bind fun x5=>(some (x5.f_Text==v1_w))) else (some false))) else (some false)) else (some false))
def m_ref04_word:Nat→Int→Option (List UInt8)
  | 0,_=>none
  | n+1,v0_kind=>((idx ([([]:List UInt8),([102,111,114,97,108,108]:List UInt8),([101,120,105,115,116,115]:List UInt8),([97,108,119,97,121,115]:List UInt8)]:List (List UInt8)) v0_kind).bind fun x1=>(some x1))
def ref04_state_kind_L0 (n:Nat)  (s_l:(List S_api_Token)) (s_i:Int) (s_e:Int) (s_at:Int):Nat→Int→Option (LR Unit Int)
  | 0,_=>none
  | k2+1,s1=>(bif decide (s1≤3) then ((m_ref04_word n s1).bind fun y11=>((m_ref04_state_key n y11 s_l s_i s_e s_at).bind fun y13=>(bif y13 then (some (.ret s1)) else (ref04_state_kind_L0 n s_l s_i s_e s_at k2 (IntKind.i64.wrap (s1+1)))))) else (some (.out ())))
def m_ref04_state_kind:Nat→(List S_api_Token)→Int→Int→Int→Option Int
  | 0,_,_,_,_=>none
  | n+1,s_l,s_i,s_e,s_at=>((ref04_state_kind_L0 n s_l s_i s_e s_at n 1).bind fun o9=>match o9 with|.out _=>(some 0)|.ret v=>some v)
def m_ref04_state_name:Nat→(List S_api_Token)→Int→Int→Int→Option ((List UInt8)×Int×Int×Int)
  | 0,_,_,_,_=>none
  | n+1,s_l,s_i,s_e,s_at=>(bif (s_e==0) then ((m_ref03_Name n s_l s_i).bind fun y2=>(bif y2 then ((idx s_l (IntKind.i64.wrap ((IntKind.i64.wrap (s_i+1)) - 1))).bind fun x5=>(some (x5.f_Text,IntKind.i64.wrap (s_i+1),s_e,s_at))) else ((m_ref04_state_wrong n s_l s_i s_e s_at).bind fun y6=>(some (([]:List UInt8),s_i,y6.1,y6.2))))) else ((m_ref04_state_wrong n s_l s_i s_e s_at).bind fun y8=>(some (([]:List UInt8),s_i,y8.1,y8.2))))
def m_ref04_state_number:Nat→(List S_api_Token)→Int→Int→Int→Option (Int×Int×Int×Int)
  | 0,_,_,_,_=>none
  | n+1,s_l,s_i,s_e,s_at=>(bif (s_e==0) then (bif decide (s_i<((s_l.length:Nat):Int)) then ((idx s_l s_i).bind fun x3=>(bif (x3.f_Kind==2) then ((idx s_l (IntKind.i64.wrap ((IntKind.i64.wrap (s_i+1)) - 1))).bind fun x5=>(some (x5.f_N,IntKind.i64.wrap (s_i+1),s_e,s_at))) else ((m_ref04_state_wrong n s_l s_i s_e s_at).bind fun y6=>(some (0,s_i,y6.1,y6.2))))) else ((m_ref04_state_wrong n s_l s_i s_e s_at).bind fun y8=>(some (0,s_i,y8.1,y8.2)))) else ((m_ref04_state_wrong n s_l s_i s_e s_at).bind fun y10=>(some (0,s_i,y10.1,y10.2))))
def ref04_state_thread_L0 (n:Nat)  (s_l:(List S_api_Token)):Nat→Int→Int→Int→(List (List UInt8))→Option (LR (Int×Int×Int×(List (List UInt8))) (S_api_Thread×Int×Int×Int))
  | 0,_,_,_,_=>none
  | k15+1,s11,s12,s13,s14=>(bif (s12==0) then ((m_ref02_Is n s_l s11 ([44]:List UInt8)).bind fun y24=>(bif y24 then ((m_ref04_state_name n s_l (IntKind.i64.wrap (s11+1)) s12 s13).bind fun y27=>(bif decide ((s14.length+1) * 17≤140737488355328) then (ref04_state_thread_L0 n s_l k15 y27.2.1 y27.2.2.1 y27.2.2.2 (s14++([y27.1]:List (List UInt8)))) else none)) else (some (.out (s11,s12,s13,s14))))) else (some (.out (s11,s12,s13,s14))))
def m_ref04_state_thread:Nat→(List S_api_Token)→Int→Int→Int→Option (S_api_Thread×Int×Int×Int)
  | 0,_,_,_,_=>none
  | n+1,s_l,s_i,s_e,s_at=>((idx s_l s_i).bind fun x1=>((m_ref04_state_name n s_l (IntKind.i64.wrap (s_i+1)) s_e s_at).bind fun y2=>((m_ref04_state_sign n ([123]:List UInt8) s_l y2.2.1 y2.2.2.1 y2.2.2.2).bind fun y4=>((m_ref04_state_key n ([114,101,103]:List UInt8) s_l y4.1 y4.2.1 y4.2.2).bind fun y6=>(bif y6 then ((m_ref04_state_name n s_l (IntKind.i64.wrap (y4.1+1)) y4.2.1 y4.2.2).bind fun y9=>((ref04_state_thread_L0 n s_l n y9.2.1 y9.2.2.1 y9.2.2.2 ([y9.1]:List (List UInt8))).bind fun o22=>match o22 with|.out (x32,x33,x34,x35)=>((m_ref04_state_sign n ([59]:List UInt8) s_l x32 x33 x34).bind fun y36=>(bif (y36.2.1==0) then ((m_ref03_Parse n s_l y36.1).bind fun y39=>((m_ref04_state_fault n y39.2.2.1 y39.2.2.2 s_l y36.1 y36.2.1 y36.2.2).bind fun y41=>((m_ref04_state_sign n ([125]:List UInt8) s_l y39.2.1 y41.1 y41.2).bind fun y43=>(some ((⟨y2.1,x35,y39.1,x1.f_At⟩:S_api_Thread),y43.1,y43.2.1,y43.2.2))))) else ((m_ref04_state_sign n ([125]:List UInt8) s_l y36.1 y36.2.1 y36.2.2).bind fun y45=>(some ((⟨y2.1,x35,([]:List S_api_Stmt),x1.f_At⟩:S_api_Thread),y45.1,y45.2.1,y45.2.2)))))|.ret v=>some v)) else (bif (y4.2.1==0) then ((m_ref03_Parse n s_l y4.1).bind fun y49=>((m_ref04_state_fault n y49.2.2.1 y49.2.2.2 s_l y4.1 y4.2.1 y4.2.2).bind fun y51=>((m_ref04_state_sign n ([125]:List UInt8) s_l y49.2.1 y51.1 y51.2).bind fun y53=>(some ((⟨y2.1,([]:List (List UInt8)),y49.1,x1.f_At⟩:S_api_Thread),y53.1,y53.2.1,y53.2.2))))) else ((m_ref04_state_sign n ([125]:List UInt8) s_l y4.1 y4.2.1 y4.2.2).bind fun y55=>(some ((⟨y2.1,([]:List (List UInt8)),([]:List S_api_Stmt),x1.f_At⟩:S_api_Thread),y55.1,y55.2.1,y55.2.2)))))))))
def ref04_Parse_L0 (n:Nat)  (y1:((List S_api_Token)×Int×Int)):Nat→Int→Int→Int→(List S_api_Var)→Option (LR (Int×Int×Int×(List S_api_Var)) (S_api_Prog×Int×Int))
  | 0,_,_,_,_=>none
  | k15+1,s11,s12,s13,s14=>((m_ref04_state_key n ([108,111,99]:List UInt8) y1.1 s11 s12 s13).bind fun y23=>(bif y23 then ((idx y1.1 s11).bind fun x26=>((m_ref04_state_name n y1.1 (IntKind.i64.wrap (s11+1)) s12 s13).bind fun y27=>((m_ref04_state_sign n ([61]:List UInt8) y1.1 y27.2.1 y27.2.2.1 y27.2.2.2).bind fun y29=>((m_ref04_state_number n y1.1 y29.1 y29.2.1 y29.2.2).bind fun y31=>((m_ref04_state_sign n ([59]:List UInt8) y1.1 y31.2.1 y31.2.2.1 y31.2.2.2).bind fun y33=>(bif decide ((s14.length+1) * 33≤140737488355328) then (ref04_Parse_L0 n y1 k15 y33.1 y33.2.1 y33.2.2 (s14++([(⟨y27.1,y31.1,x26.f_At⟩:S_api_Var)]:List S_api_Var))) else none)))))) else (some (.out (s11,s12,s13,s14)))))
def ref04_Parse_L1 (n:Nat)  (y1:((List S_api_Token)×Int×Int)):Nat→Int→Int→Int→(List S_api_Thread)→Option (LR (Int×Int×Int×(List S_api_Thread)) (S_api_Prog×Int×Int))
  | 0,_,_,_,_=>none
  | k46+1,s42,s43,s44,s45=>((m_ref04_state_key n ([116,104,114,101,97,100]:List UInt8) y1.1 s42 s43 s44).bind fun y54=>(bif y54 then ((m_ref04_state_thread n y1.1 s42 s43 s44).bind fun y57=>(bif decide ((s45.length+1) * 73≤140737488355328) then (ref04_Parse_L1 n y1 k46 y57.2.1 y57.2.2.1 y57.2.2.2 (s45++([y57.1]:List S_api_Thread))) else none)) else (some (.out (s42,s43,s44,s45)))))
def ref04_Parse_L2 (n:Nat)  (y1:((List S_api_Token)×Int×Int)):Nat→Int→Int→Int→(List S_api_Claim)→Option (LR (Int×Int×Int×(List S_api_Claim)) (S_api_Prog×Int×Int))
  | 0,_,_,_,_=>none
  | k70+1,s66,s67,s68,s69=>((m_ref04_state_kind n y1.1 s66 s67 s68).bind fun y78=>(bif decide (0<y78) then ((m_ref04_state_kind n y1.1 s66 s67 s68).bind fun y81=>((m_ref04_state_claim n y81 y1.1 s66 s67 s68).bind fun y83=>(bif decide ((s69.length+1) * 41≤140737488355328) then (ref04_Parse_L2 n y1 k70 y83.2.1 y83.2.2.1 y83.2.2.2 (s69++([y83.1]:List S_api_Claim))) else none))) else (some (.out (s66,s67,s68,s69)))))
def ref04_Parse_L3 (n:Nat)  (y1:((List S_api_Token)×Int×Int)):Nat→Int→Int→Int→(List S_api_Var)→Option (LR (Int×Int×Int×(List S_api_Var)) (S_api_Prog×Int×Int))
  | 0,_,_,_,_=>none
  | k110+1,s106,s107,s108,s109=>((m_ref04_state_key n ([108,111,99]:List UInt8) y1.1 s106 s107 s108).bind fun y118=>(bif y118 then ((idx y1.1 s106).bind fun x121=>((m_ref04_state_name n y1.1 (IntKind.i64.wrap (s106+1)) s107 s108).bind fun y122=>((m_ref04_state_sign n ([61]:List UInt8) y1.1 y122.2.1 y122.2.2.1 y122.2.2.2).bind fun y124=>((m_ref04_state_number n y1.1 y124.1 y124.2.1 y124.2.2).bind fun y126=>((m_ref04_state_sign n ([59]:List UInt8) y1.1 y126.2.1 y126.2.2.1 y126.2.2.2).bind fun y128=>(bif decide ((s109.length+1) * 33≤140737488355328) then (ref04_Parse_L3 n y1 k110 y128.1 y128.2.1 y128.2.2 (s109++([(⟨y122.1,y126.1,x121.f_At⟩:S_api_Var)]:List S_api_Var))) else none)))))) else (some (.out (s106,s107,s108,s109)))))
def ref04_Parse_L4 (n:Nat)  (y1:((List S_api_Token)×Int×Int)):Nat→Int→Int→Int→(List S_api_Thread)→Option (LR (Int×Int×Int×(List S_api_Thread)) (S_api_Prog×Int×Int))
  | 0,_,_,_,_=>none
  | k141+1,s137,s138,s139,s140=>((m_ref04_state_key n ([116,104,114,101,97,100]:List UInt8) y1.1 s137 s138 s139).bind fun y149=>(bif y149 then ((m_ref04_state_thread n y1.1 s137 s138 s139).bind fun y152=>(bif decide ((s140.length+1) * 73≤140737488355328) then (ref04_Parse_L4 n y1 k141 y152.2.1 y152.2.2.1 y152.2.2.2 (s140++([y152.1]:List S_api_Thread))) else none)) else (some (.out (s137,s138,s139,s140)))))
def ref04_Parse_L5 (n:Nat)  (y1:((List S_api_Token)×Int×Int)):Nat→Int→Int→Int→(List S_api_Claim)→Option (LR (Int×Int×Int×(List S_api_Claim)) (S_api_Prog×Int×Int))
  | 0,_,_,_,_=>none
  | k165+1,s161,s162,s163,s164=>((m_ref04_state_kind n y1.1 s161 s162 s163).bind fun y173=>(bif decide (0<y173) then ((m_ref04_state_kind n y1.1 s161 s162 s163).bind fun y176=>((m_ref04_state_claim n y176 y1.1 s161 s162 s163).bind fun y178=>(bif decide ((s164.length+1) * 41≤140737488355328) then (ref04_Parse_L5 n y1 k165 y178.2.1 y178.2.2.1 y178.2.2.2 (s164++([y178.1]:List S_api_Claim))) else none))) else (some (.out (s161,s162,s163,s164)))))
def m_ref04_Parse:Nat→(List UInt8)→Option (S_api_Prog×Int×Int)
  | 0,_=>none
  | n+1,v0_text=>((m_ref01_Scan n v0_text).bind fun y1=>(bif (y1.2.1 != 0) then (some ((⟨0,([]:List S_api_Var),([]:List S_api_Thread),([]:List S_api_Claim)⟩:S_api_Prog),y1.2.1,y1.2.2)) else ((m_ref04_state_key n ([109,111,100]:List UInt8) y1.1 0 0 0).bind fun y4=>(bif y4 then ((m_ref04_state_number n y1.1 (IntKind.i64.wrap ((0:Int)+1)) 0 0).bind fun y7=>((m_ref04_state_sign n ([59]:List UInt8) y1.1 y7.2.1 y7.2.2.1 y7.2.2.2).bind fun y9=>((ref04_Parse_L0 n y1 n y9.1 y9.2.1 y9.2.2 ([]:List S_api_Var)).bind fun o22=>match o22 with|.out (x38,x39,x40,x41)=>((ref04_Parse_L1 n y1 n x38 x39 x40 ([]:List S_api_Thread)).bind fun o53=>match o53 with|.out (x62,x63,x64,x65)=>((ref04_Parse_L2 n y1 n x62 x63 x64 ([]:List S_api_Claim)).bind fun o77=>match o77 with|.out (x88,x89,x90,x91)=>(bif decide (x88<((y1.1.length:Nat):Int)) then ((m_ref04_state_wrong n y1.1 x88 x89 x90).bind fun y93=>(bif (y93.1 != 0) then (some ((⟨0,([]:List S_api_Var),([]:List S_api_Thread),([]:List S_api_Claim)⟩:S_api_Prog),y93.1,y93.2)) else (some ((⟨y7.1,x41,x65,x91⟩:S_api_Prog),0,0)))) else (bif (x89 != 0) then (some ((⟨0,([]:List S_api_Var),([]:List S_api_Thread),([]:List S_api_Claim)⟩:S_api_Prog),x89,x90)) else (some ((⟨y7.1,x41,x65,x91⟩:S_api_Prog),0,0))))|.ret v=>some v)|.ret v=>some v)|.ret v=>some v))) else ((m_ref04_state_wrong n y1.1 0 0 0).bind fun y100=>((m_ref04_state_number n y1.1 0 y100.1 y100.2).bind fun y102=>((m_ref04_state_sign n ([59]:List UInt8) y1.1 y102.2.1 y102.2.2.1 y102.2.2.2).bind fun y104=>((ref04_Parse_L3 n y1 n y104.1 y104.2.1 y104.2.2 ([]:List S_api_Var)).bind fun o117=>match o117 with|.out (x133,x134,x135,x136)=>((ref04_Parse_L4 n y1 n x133 x134 x135 ([]:List S_api_Thread)).bind fun o148=>match o148 with|.out (x157,x158,x159,x160)=>((ref04_Parse_L5 n y1 n x157 x158 x159 ([]:List S_api_Claim)).bind fun o172=>match o172 with|.out (x183,x184,x185,x186)=>(bif decide (x183<((y1.1.length:Nat):Int)) then ((m_ref04_state_wrong n y1.1 x183 x184 x185).bind fun y188=>(bif (y188.1 != 0) then (some ((⟨0,([]:List S_api_Var),([]:List S_api_Thread),([]:List S_api_Claim)⟩:S_api_Prog),y188.1,y188.2)) else (some ((⟨y102.1,x136,x160,x186⟩:S_api_Prog),0,0)))) else (bif (x184 != 0) then (some ((⟨0,([]:List S_api_Var),([]:List S_api_Thread),([]:List S_api_Claim)⟩:S_api_Prog),x184,x185)) else (some ((⟨y102.1,x136,x160,x186⟩:S_api_Prog),0,0))))|.ret v=>some v)|.ret v=>some v)|.ret v=>some v))))))))
def ref04_Light_L0 (n:Nat)  (v0_p:S_api_Prog):Nat→Int→Option (LR Unit Bool)
  | 0,_=>none
  | k5+1,s4=>(bif decide (s4<((v0_p.f_Locs.length:Nat):Int)) then ((idx v0_p.f_Locs s4).bind fun x14=>(bif decide (100<((x14.f_Name.length:Nat):Int)) then (some (.ret false)) else (ref04_Light_L0 n v0_p k5 (IntKind.i64.wrap (s4+1))))) else (some (.out ())))
def ref04_Light_L2 (n:Nat)  (x27:S_api_Thread):Nat→Int→Option (LR Unit Bool)
  | 0,_=>none
  | k34+1,s33=>(bif decide (s33<((x27.f_Regs.length:Nat):Int)) then ((idx x27.f_Regs s33).bind fun x43=>(bif decide (100<((x43.length:Nat):Int)) then (some (.ret false)) else (ref04_Light_L2 n x27 k34 (IntKind.i64.wrap (s33+1))))) else (some (.out ())))
def ref04_Light_L1 (n:Nat)  (v0_p:S_api_Prog):Nat→Int→Option (LR Unit Bool)
  | 0,_=>none
  | k18+1,s17=>(bif decide (s17<((v0_p.f_Threads.length:Nat):Int)) then ((idx v0_p.f_Threads s17).bind fun x27=>(bif decide (100<((x27.f_Name.length:Nat):Int)) then (some (.ret false)) else (bif decide (20<((x27.f_Regs.length:Nat):Int)) then (some (.ret false)) else ((m_ref03_Light n x27.f_Body).bind fun y30=>(bif y30 then ((ref04_Light_L2 n x27 n 0).bind fun o41=>match o41 with|.out _=>(ref04_Light_L1 n v0_p k18 (IntKind.i64.wrap (s17+1)))|.ret v=>some (.ret v)) else (some (.ret false))))))) else (some (.out ())))
def ref04_Light_L3 (n:Nat)  (v0_p:S_api_Prog):Nat→Int→Option (LR Unit Bool)
  | 0,_=>none
  | k49+1,s48=>(bif decide (s48<((v0_p.f_Claims.length:Nat):Int)) then ((idx v0_p.f_Claims s48).bind fun x58=>((m_ref02_Light n x58.f_E).bind fun y59=>(bif y59 then (ref04_Light_L3 n v0_p k49 (IntKind.i64.wrap (s48+1))) else (some (.ret false))))) else (some (.out ())))
def m_ref04_Light:Nat→S_api_Prog→Option Bool
  | 0,_=>none
  | n+1,v0_p=>(bif decide (20<((v0_p.f_Locs.length:Nat):Int)) then (some false) else (bif decide (8<((v0_p.f_Threads.length:Nat):Int)) then (some false) else (bif decide (12<((v0_p.f_Claims.length:Nat):Int)) then (some false) else ((ref04_Light_L0 n v0_p n 0).bind fun o12=>match o12 with|.out _=>((ref04_Light_L1 n v0_p n 0).bind fun o25=>match o25 with|.out _=>((ref04_Light_L3 n v0_p n 0).bind fun o56=>match o56 with|.out _=>(some true)|.ret v=>some v)|.ret v=>some v)|.ret v=>some v))))
def m_prog_number:Nat→Int→Option Bool
  | 0,_=>none
  | n+1,v0_n=>(bif decide (0≤v0_n) then (some (decide (v0_n≤9999))) else (some false))
def m_prog_Right_1:Nat→Int→Int→(List S_api_Var)→(List S_api_Thread)→(List S_api_Claim)→Option Bool
  | 0,_,_,_,_,_=>none
  | n+1,v0_i,o0_Mod,o0_Locs,o0_Threads,o0_Claims=>((idx o0_Locs v0_i).bind fun x1=>((m_scan_Name n x1.f_Name).bind fun y2=>(bif y2 then ((m_prog_number n x1.f_N).bind fun y5=>(bif y5 then (some (decide (0≤x1.f_At))) else (some false))) else (some false))))
def prog_all_L0 (n:Nat)  (v0_n:Int) (o0_Mod:Int) (o0_Locs:(List S_api_Var)) (o0_Threads:(List S_api_Thread)) (o0_Claims:(List S_api_Claim)):Nat→Int→Option (LR Unit Bool)
  | 0,_=>none
  | k2+1,s1=>(bif decide (s1<v0_n) then ((m_prog_Right_1 n s1 o0_Mod o0_Locs o0_Threads o0_Claims).bind fun y11=>(bif y11 then (prog_all_L0 n v0_n o0_Mod o0_Locs o0_Threads o0_Claims k2 (IntKind.i64.wrap (s1+1))) else (some (.ret false)))) else (some (.out ())))
def m_prog_all:Nat→Int→Int→(List S_api_Var)→(List S_api_Thread)→(List S_api_Claim)→Option Bool
  | 0,_,_,_,_,_=>none
  | n+1,v0_n,o0_Mod,o0_Locs,o0_Threads,o0_Claims=>((prog_all_L0 n v0_n o0_Mod o0_Locs o0_Threads o0_Claims n 0).bind fun o9=>match o9 with|.out _=>(some true)|.ret v=>some v)
def m_prog_thread_1:Nat→Int→(List UInt8)→(List (List UInt8))→(List S_api_Stmt)→Int→Option Bool
  | 0,_,_,_,_,_=>none
  | n+1,v0_i,o0_Name,o0_Regs,o0_Body,o0_At=>((idx o0_Regs v0_i).bind fun x1=>((m_scan_Name n x1).bind fun y2=>(some y2)))
def prog_all_3_L0 (n:Nat)  (v0_n:Int) (o0_Name:(List UInt8)) (o0_Regs:(List (List UInt8))) (o0_Body:(List S_api_Stmt)) (o0_At:Int):Nat→Int→Option (LR Unit Bool)
  | 0,_=>none
  | k2+1,s1=>(bif decide (s1<v0_n) then ((m_prog_thread_1 n s1 o0_Name o0_Regs o0_Body o0_At).bind fun y11=>(bif y11 then (prog_all_3_L0 n v0_n o0_Name o0_Regs o0_Body o0_At k2 (IntKind.i64.wrap (s1+1))) else (some (.ret false)))) else (some (.out ())))
def m_prog_all_3:Nat→Int→(List UInt8)→(List (List UInt8))→(List S_api_Stmt)→Int→Option Bool
  | 0,_,_,_,_,_=>none
  | n+1,v0_n,o0_Name,o0_Regs,o0_Body,o0_At=>((prog_all_3_L0 n v0_n o0_Name o0_Regs o0_Body o0_At n 0).bind fun o9=>match o9 with|.out _=>(some true)|.ret v=>some v)
def m_prog_thread:Nat→S_api_Thread→Option Bool
  | 0,_=>none
  | n+1,v0_t=>((m_scan_Name n v0_t.f_Name).bind fun y1=>(bif y1 then (bif decide (0≤v0_t.f_At) then ((m_stmt_Right n v0_t.f_Body).bind fun y5=>(bif y5 then ((m_prog_all_3 n ((v0_t.f_Regs.length:Nat):Int) v0_t.f_Name v0_t.f_Regs v0_t.f_Body v0_t.f_At).bind fun y8=>(some y8)) else (some false))) else (some false)) else (some false)))
def m_prog_Right_2:Nat→Int→Int→(List S_api_Var)→(List S_api_Thread)→(List S_api_Claim)→Option Bool
  | 0,_,_,_,_,_=>none
  | n+1,v0_i,o0_Mod,o0_Locs,o0_Threads,o0_Claims=>((idx o0_Threads v0_i).bind fun x1=>((m_prog_thread n x1).bind fun y2=>(some y2)))
def prog_all_1_L0 (n:Nat)  (v0_n:Int) (o0_Mod:Int) (o0_Locs:(List S_api_Var)) (o0_Threads:(List S_api_Thread)) (o0_Claims:(List S_api_Claim)):Nat→Int→Option (LR Unit Bool)
  | 0,_=>none
  | k2+1,s1=>(bif decide (s1<v0_n) then ((m_prog_Right_2 n s1 o0_Mod o0_Locs o0_Threads o0_Claims).bind fun y11=>(bif y11 then (prog_all_1_L0 n v0_n o0_Mod o0_Locs o0_Threads o0_Claims k2 (IntKind.i64.wrap (s1+1))) else (some (.ret false)))) else (some (.out ())))
def m_prog_all_1:Nat→Int→Int→(List S_api_Var)→(List S_api_Thread)→(List S_api_Claim)→Option Bool
  | 0,_,_,_,_,_=>none
  | n+1,v0_n,o0_Mod,o0_Locs,o0_Threads,o0_Claims=>((prog_all_1_L0 n v0_n o0_Mod o0_Locs o0_Threads o0_Claims n 0).bind fun o9=>match o9 with|.out _=>(some true)|.ret v=>some v)
def m_prog_word:Nat→Int→Option (List UInt8)
  | 0,_=>none
  | n+1,v0_kind=>(bif (v0_kind==1) then (some ([102,111,114,97,108,108]:List UInt8)) else (bif (v0_kind==2) then (some ([101,120,105,115,116,115]:List UInt8)) else (bif (v0_kind==3) then (some ([97,108,119,97,121,115]:List UInt8)) else (some ([]:List UInt8)))))
def prog_claim_L0 (n:Nat)  (y1:(List S_api_Node)):Nat→Int→Option (LR Unit Bool)
  | 0,_=>none
  | k4+1,s3=>(bif decide (s3<((y1.length:Nat):Int)) then ((idx y1 s3).bind fun x13=>(bif (x13.f_Op==2) then (some (.ret false)) else (prog_claim_L0 n y1 k4 (IntKind.i64.wrap (s3+1))))) else (some (.out ())))
def m_prog_claim:Nat→S_api_Claim→Option Bool
  | 0,_=>none
  | n+1,v0_c=>((m_expr_Names n v0_c.f_E).bind fun y1=>((prog_claim_L0 n y1 n 0).bind fun o11=>match o11 with|.out _=>((m_prog_word n v0_c.f_Kind).bind fun y16=>(bif (y16==([]:List UInt8)) then (some false) else ((m_expr_Right n v0_c.f_E).bind fun y19=>(bif y19 then (some (decide (0≤v0_c.f_At))) else (some false)))))|.ret v=>some v))
def m_prog_Right_3:Nat→Int→Int→(List S_api_Var)→(List S_api_Thread)→(List S_api_Claim)→Option Bool
  | 0,_,_,_,_,_=>none
  | n+1,v0_i,o0_Mod,o0_Locs,o0_Threads,o0_Claims=>((idx o0_Claims v0_i).bind fun x1=>((m_prog_claim n x1).bind fun y2=>(some y2)))
def prog_all_2_L0 (n:Nat)  (v0_n:Int) (o0_Mod:Int) (o0_Locs:(List S_api_Var)) (o0_Threads:(List S_api_Thread)) (o0_Claims:(List S_api_Claim)):Nat→Int→Option (LR Unit Bool)
  | 0,_=>none
  | k2+1,s1=>(bif decide (s1<v0_n) then ((m_prog_Right_3 n s1 o0_Mod o0_Locs o0_Threads o0_Claims).bind fun y11=>(bif y11 then (prog_all_2_L0 n v0_n o0_Mod o0_Locs o0_Threads o0_Claims k2 (IntKind.i64.wrap (s1+1))) else (some (.ret false)))) else (some (.out ())))
def m_prog_all_2:Nat→Int→Int→(List S_api_Var)→(List S_api_Thread)→(List S_api_Claim)→Option Bool
  | 0,_,_,_,_,_=>none
  | n+1,v0_n,o0_Mod,o0_Locs,o0_Threads,o0_Claims=>((prog_all_2_L0 n v0_n o0_Mod o0_Locs o0_Threads o0_Claims n 0).bind fun o9=>match o9 with|.out _=>(some true)|.ret v=>some v)
def m_prog_Right:Nat→S_api_Prog→Option Bool
  | 0,_=>none
  | n+1,v0_p=>((m_prog_all n ((v0_p.f_Locs.length:Nat):Int) v0_p.f_Mod v0_p.f_Locs v0_p.f_Threads v0_p.f_Claims).bind fun y1=>((m_prog_number n v0_p.f_Mod).bind fun y3=>(bif y3 then (bif y1 then ((m_prog_all_1 n ((v0_p.f_Threads.length:Nat):Int) v0_p.f_Mod v0_p.f_Locs v0_p.f_Threads v0_p.f_Claims).bind fun y7=>(bif y7 then ((m_prog_all_2 n ((v0_p.f_Claims.length:Nat):Int) v0_p.f_Mod v0_p.f_Locs v0_p.f_Threads v0_p.f_Claims).bind fun y10=>(some y10)) else (some false))) else (some false)) else (some false))))
def m_legal_checker_must:Nat→Bool→Int→Int→Int→(List S_api_Var)→(List S_api_Thread)→(List S_api_Claim)→Int→Int→(List ((List UInt8)×Int))→(List ((List UInt8)×(List ((List UInt8)×Int))))→Option (Bool×Int×Int)
  | 0,_,_,_,_,_,_,_,_,_,_,_=>none
  | n+1,v1_so,v2_e,v3_at,c_p_Mod,c_p_Locs,c_p_Threads,c_p_Claims,c_e,c_at,o1_m,o2_m=>(bif v1_so then (some ((c_e==0),c_e,c_at)) else (bif (c_e==0) then (some ((v2_e==0),v2_e,v3_at)) else (some ((c_e==0),c_e,c_at))))
def m_legal_checker_claim_1:Nat→S_api_Node→Int→(List S_api_Var)→(List S_api_Thread)→(List S_api_Claim)→Int→Int→(List ((List UInt8)×Int))→(List ((List UInt8)×(List ((List UInt8)×Int))))→Option Bool
  | 0,_,_,_,_,_,_,_,_,_=>none
  | n+1,v0_y,o1_p_Mod,o1_p_Locs,o1_p_Threads,o1_p_Claims,o1_e,o1_at,o2_m,o3_m=>(bif (v0_y.f_Op==3) then (some (decide (0<(mget o2_m v0_y.f_Name 0)))) else (some (decide (0<(mget (mget o3_m v0_y.f_In ([]:(List ((List UInt8)×Int)))) v0_y.f_Name 0)))))
def legal_checker_nodes_L0 (n:Nat)  (v1_l:(List S_api_Node)) (c_p_Mod:Int) (c_p_Locs:(List S_api_Var)) (c_p_Threads:(List S_api_Thread)) (c_p_Claims:(List S_api_Claim)) (o1_m:(List ((List UInt8)×Int))) (o2_m:(List ((List UInt8)×(List ((List UInt8)×Int))))):Nat→Int→Int→Int→Option (LR (Int×Int) (Int×Int))
  | 0,_,_,_=>none
  | k4+1,s1,s2,s3=>(bif decide (s1<((v1_l.length:Nat):Int)) then ((idx v1_l s1).bind fun x13=>(bif (x13.f_Op==1) then ((m_legal_checker_must n (decide (x13.f_N<c_p_Mod)) 11 x13.f_At c_p_Mod c_p_Locs c_p_Threads c_p_Claims s2 s3 o1_m o2_m).bind fun y15=>(legal_checker_nodes_L0 n v1_l c_p_Mod c_p_Locs c_p_Threads c_p_Claims o1_m o2_m k4 (IntKind.i64.wrap (s1+1)) y15.2.1 y15.2.2)) else (bif (x13.f_Op==2) then ((m_legal_checker_claim_1 n x13 c_p_Mod c_p_Locs c_p_Threads c_p_Claims s2 s3 o1_m o2_m).bind fun y18=>((m_legal_checker_must n y18 9 x13.f_At c_p_Mod c_p_Locs c_p_Threads c_p_Claims s2 s3 o1_m o2_m).bind fun y20=>(legal_checker_nodes_L0 n v1_l c_p_Mod c_p_Locs c_p_Threads c_p_Claims o1_m o2_m k4 (IntKind.i64.wrap (s1+1)) y20.2.1 y20.2.2))) else (bif (x13.f_Op==3) then ((m_legal_checker_claim_1 n x13 c_p_Mod c_p_Locs c_p_Threads c_p_Claims s2 s3 o1_m o2_m).bind fun y23=>((m_legal_checker_must n y23 9 x13.f_At c_p_Mod c_p_Locs c_p_Threads c_p_Claims s2 s3 o1_m o2_m).bind fun y25=>(legal_checker_nodes_L0 n v1_l c_p_Mod c_p_Locs c_p_Threads c_p_Claims o1_m o2_m k4 (IntKind.i64.wrap (s1+1)) y25.2.1 y25.2.2))) else (bif (x13.f_Op==4) then ((m_legal_checker_claim_1 n x13 c_p_Mod c_p_Locs c_p_Threads c_p_Claims s2 s3 o1_m o2_m).bind fun y28=>((m_legal_checker_must n y28 9 x13.f_At c_p_Mod c_p_Locs c_p_Threads c_p_Claims s2 s3 o1_m o2_m).bind fun y30=>(legal_checker_nodes_L0 n v1_l c_p_Mod c_p_Locs c_p_Threads c_p_Claims o1_m o2_m k4 (IntKind.i64.wrap (s1+1)) y30.2.1 y30.2.2))) else (legal_checker_nodes_L0 n v1_l c_p_Mod c_p_Locs c_p_Threads c_p_Claims o1_m o2_m k4 (IntKind.i64.wrap (s1+1)) s2 s3)))))) else (some (.out (s2,s3))))
def m_legal_checker_nodes:Nat→(List S_api_Node)→Int→(List S_api_Var)→(List S_api_Thread)→(List S_api_Claim)→Int→Int→(List ((List UInt8)×Int))→(List ((List UInt8)×(List ((List UInt8)×Int))))→Option (Int×Int)
  | 0,_,_,_,_,_,_,_,_,_=>none
  | n+1,v1_l,c_p_Mod,c_p_Locs,c_p_Threads,c_p_Claims,c_e,c_at,o1_m,o2_m=>((legal_checker_nodes_L0 n v1_l c_p_Mod c_p_Locs c_p_Threads c_p_Claims o1_m o2_m n 0 c_e c_at).bind fun o11=>match o11 with|.out (x33,x34)=>(some (x33,x34))|.ret v=>some v)
def m_legal_checker_claim:Nat→Int→S_api_Claim→Int→(List S_api_Var)→(List S_api_Thread)→(List S_api_Claim)→Int→Int→(List ((List UInt8)×Int))→(List ((List UInt8)×(List ((List UInt8)×Int))))→Option (Int×Int)
  | 0,_,_,_,_,_,_,_,_,_,_=>none
  | n+1,v1_i,v2_x,c_p_Mod,c_p_Locs,c_p_Threads,c_p_Claims,c_e,c_at,o1_m,o2_m=>((m_legal_checker_must n (decide (v1_i<8)) 12 v2_x.f_At c_p_Mod c_p_Locs c_p_Threads c_p_Claims c_e c_at o1_m o2_m).bind fun y1=>((m_legal_checker_nodes n v2_x.f_E c_p_Mod c_p_Locs c_p_Threads c_p_Claims y1.2.1 y1.2.2 o1_m o2_m).bind fun y3=>(some (y3.1,y3.2))))
def m_legal_checker_body_1z:Nat→S_api_Node→(List ((List UInt8)×Int))→Option Bool
  | 0,_,_=>none
  | n+1,v0_x,o1_m=>(some (decide (0<(mget o1_m v0_x.f_Name 0))))
def legal_checker_nodes_1_L0 (n:Nat)  (v1_l:(List S_api_Node)) (c_p_Mod:Int) (c_p_Locs:(List S_api_Var)) (c_p_Threads:(List S_api_Thread)) (c_p_Claims:(List S_api_Claim)) (o1_m:(List ((List UInt8)×Int))) (o2_m:(List ((List UInt8)×(List ((List UInt8)×Int))))) (o4_m:(List ((List UInt8)×Int))):Nat→Int→Int→Int→Option (LR (Int×Int) (Int×Int))
  | 0,_,_,_=>none
  | k4+1,s1,s2,s3=>(bif decide (s1<((v1_l.length:Nat):Int)) then ((idx v1_l s1).bind fun x13=>(bif (x13.f_Op==1) then ((m_legal_checker_must n (decide (x13.f_N<c_p_Mod)) 11 x13.f_At c_p_Mod c_p_Locs c_p_Threads c_p_Claims s2 s3 o1_m o2_m).bind fun y15=>(legal_checker_nodes_1_L0 n v1_l c_p_Mod c_p_Locs c_p_Threads c_p_Claims o1_m o2_m o4_m k4 (IntKind.i64.wrap (s1+1)) y15.2.1 y15.2.2)) else (bif (x13.f_Op==2) then ((m_legal_checker_body_1z n x13 o4_m).bind fun y18=>((m_legal_checker_must n y18 9 x13.f_At c_p_Mod c_p_Locs c_p_Threads c_p_Claims s2 s3 o1_m o2_m).bind fun y20=>(legal_checker_nodes_1_L0 n v1_l c_p_Mod c_p_Locs c_p_Threads c_p_Claims o1_m o2_m o4_m k4 (IntKind.i64.wrap (s1+1)) y20.2.1 y20.2.2))) else (bif (x13.f_Op==3) then ((m_legal_checker_body_1z n x13 o4_m).bind fun y23=>((m_legal_checker_must n y23 9 x13.f_At c_p_Mod c_p_Locs c_p_Threads c_p_Claims s2 s3 o1_m o2_m).bind fun y25=>(legal_checker_nodes_1_L0 n v1_l c_p_Mod c_p_Locs c_p_Threads c_p_Claims o1_m o2_m o4_m k4 (IntKind.i64.wrap (s1+1)) y25.2.1 y25.2.2))) else (bif (x13.f_Op==4) then ((m_legal_checker_body_1z n x13 o4_m).bind fun y28=>((m_legal_checker_must n y28 9 x13.f_At c_p_Mod c_p_Locs c_p_Threads c_p_Claims s2 s3 o1_m o2_m).bind fun y30=>(legal_checker_nodes_1_L0 n v1_l c_p_Mod c_p_Locs c_p_Threads c_p_Claims o1_m o2_m o4_m k4 (IntKind.i64.wrap (s1+1)) y30.2.1 y30.2.2))) else (legal_checker_nodes_1_L0 n v1_l c_p_Mod c_p_Locs c_p_Threads c_p_Claims o1_m o2_m o4_m k4 (IntKind.i64.wrap (s1+1)) s2 s3)))))) else (some (.out (s2,s3))))
def m_legal_checker_nodes_1:Nat→(List S_api_Node)→Int→(List S_api_Var)→(List S_api_Thread)→(List S_api_Claim)→Int→Int→(List ((List UInt8)×Int))→(List ((List UInt8)×(List ((List UInt8)×Int))))→(List ((List UInt8)×Int))→Option (Int×Int)
  | 0,_,_,_,_,_,_,_,_,_,_=>none
  | n+1,v1_l,c_p_Mod,c_p_Locs,c_p_Threads,c_p_Claims,c_e,c_at,o1_m,o2_m,o4_m=>((legal_checker_nodes_1_L0 n v1_l c_p_Mod c_p_Locs c_p_Threads c_p_Claims o1_m o2_m o4_m n 0 c_e c_at).bind fun o11=>match o11 with|.out (x33,x34)=>(some (x33,x34))|.ret v=>some v)
def legal_checker_body_L0 (n:Nat)  (v1_t:S_api_Thread) (c_p_Mod:Int) (c_p_Locs:(List S_api_Var)) (c_p_Threads:(List S_api_Thread)) (c_p_Claims:(List S_api_Claim)) (o1_m:(List ((List UInt8)×Int))) (o2_m:(List ((List UInt8)×(List ((List UInt8)×Int))))) (o3_m:(List ((List UInt8)×Int))):Nat→Int→Int→Int→Int→Option (LR (Int×Int) (Int×Int))
  | 0,_,_,_,_=>none
  | k5+1,s1,s2,s3,s4=>(bif decide (s2<((v1_t.f_Body.length:Nat):Int)) then ((idx v1_t.f_Body s2).bind fun x14=>(bif (x14.f_Kind==11) then (bif (x14.f_Reg==([]:List UInt8)) then ((m_legal_checker_must n true 9 x14.f_At c_p_Mod c_p_Locs c_p_Threads c_p_Claims s3 s4 o1_m o2_m).bind fun y17=>(bif (x14.f_Loc==([]:List UInt8)) then ((m_legal_checker_must n true 9 x14.f_At c_p_Mod c_p_Locs c_p_Threads c_p_Claims y17.2.1 y17.2.2 o1_m o2_m).bind fun y20=>((m_legal_checker_nodes_1 n x14.f_E c_p_Mod c_p_Locs c_p_Threads c_p_Claims y20.2.1 y20.2.2 o1_m o2_m o3_m).bind fun y22=>((m_legal_checker_nodes_1 n x14.f_F c_p_Mod c_p_Locs c_p_Threads c_p_Claims y22.1 y22.2 o1_m o2_m o3_m).bind fun y24=>(legal_checker_body_L0 n v1_t c_p_Mod c_p_Locs c_p_Threads c_p_Claims o1_m o2_m o3_m k5 (if s1<(IntKind.i64.wrap ((IntKind.i64.wrap (s2+1))+x14.f_Body)) then (IntKind.i64.wrap ((IntKind.i64.wrap (s2+1))+x14.f_Body)) else s1) (IntKind.i64.wrap (s2+1)) y24.1 y24.2)))) else ((m_legal_checker_must n (decide (0<(mget o1_m x14.f_Loc 0))) 9 x14.f_At c_p_Mod c_p_Locs c_p_Threads c_p_Claims y17.2.1 y17.2.2 o1_m o2_m).bind fun y26=>((m_legal_checker_nodes_1 n x14.f_E c_p_Mod c_p_Locs c_p_Threads c_p_Claims y26.2.1 y26.2.2 o1_m o2_m o3_m).bind fun y28=>((m_legal_checker_nodes_1 n x14.f_F c_p_Mod c_p_Locs c_p_Threads c_p_Claims y28.1 y28.2 o1_m o2_m o3_m).bind fun y30=>(legal_checker_body_L0 n v1_t c_p_Mod c_p_Locs c_p_Threads c_p_Claims o1_m o2_m o3_m k5 (if s1<(IntKind.i64.wrap ((IntKind.i64.wrap (s2+1))+x14.f_Body)) then (IntKind.i64.wrap ((IntKind.i64.wrap (s2+1))+x14.f_Body)) else s1) (IntKind.i64.wrap (s2+1)) y30.1 y30.2)))))) else ((m_legal_checker_must n (decide (0<(mget o3_m x14.f_Reg 0))) 9 x14.f_At c_p_Mod c_p_Locs c_p_Threads c_p_Claims s3 s4 o1_m o2_m).bind fun y32=>(bif (x14.f_Loc==([]:List UInt8)) then ((m_legal_checker_must n true 9 x14.f_At c_p_Mod c_p_Locs c_p_Threads c_p_Claims y32.2.1 y32.2.2 o1_m o2_m).bind fun y35=>((m_legal_checker_nodes_1 n x14.f_E c_p_Mod c_p_Locs c_p_Threads c_p_Claims y35.2.1 y35.2.2 o1_m o2_m o3_m).bind fun y37=>((m_legal_checker_nodes_1 n x14.f_F c_p_Mod c_p_Locs c_p_Threads c_p_Claims y37.1 y37.2 o1_m o2_m o3_m).bind fun y39=>(legal_checker_body_L0 n v1_t c_p_Mod c_p_Locs c_p_Threads c_p_Claims o1_m o2_m o3_m k5 (if s1<(IntKind.i64.wrap ((IntKind.i64.wrap (s2+1))+x14.f_Body)) then (IntKind.i64.wrap ((IntKind.i64.wrap (s2+1))+x14.f_Body)) else s1) (IntKind.i64.wrap (s2+1)) y39.1 y39.2)))) else ((m_legal_checker_must n (decide (0<(mget o1_m x14.f_Loc 0))) 9 x14.f_At c_p_Mod c_p_Locs c_p_Threads c_p_Claims y32.2.1 y32.2.2 o1_m o2_m).bind fun y41=>((m_legal_checker_nodes_1 n x14.f_E c_p_Mod c_p_Locs c_p_Threads c_p_Claims y41.2.1 y41.2.2 o1_m o2_m o3_m).bind fun y43=>((m_legal_checker_nodes_1 n x14.f_F c_p_Mod c_p_Locs c_p_Threads c_p_Claims y43.1 y43.2 o1_m o2_m o3_m).bind fun y45=>(legal_checker_body_L0 n v1_t c_p_Mod c_p_Locs c_p_Threads c_p_Claims o1_m o2_m o3_m k5 (if s1<(IntKind.i64.wrap ((IntKind.i64.wrap (s2+1))+x14.f_Body)) then (IntKind.i64.wrap ((IntKind.i64.wrap (s2+1))+x14.f_Body)) else s1) (IntKind.i64.wrap (s2+1)) y45.1 y45.2))))))) else (bif (x14.f_Kind==12) then (bif (x14.f_Reg==([]:List UInt8)) then ((m_legal_checker_must n true 9 x14.f_At c_p_Mod c_p_Locs c_p_Threads c_p_Claims s3 s4 o1_m o2_m).bind fun y49=>(bif (x14.f_Loc==([]:List UInt8)) then ((m_legal_checker_must n true 9 x14.f_At c_p_Mod c_p_Locs c_p_Threads c_p_Claims y49.2.1 y49.2.2 o1_m o2_m).bind fun y52=>((m_legal_checker_nodes_1 n x14.f_E c_p_Mod c_p_Locs c_p_Threads c_p_Claims y52.2.1 y52.2.2 o1_m o2_m o3_m).bind fun y54=>((m_legal_checker_nodes_1 n x14.f_F c_p_Mod c_p_Locs c_p_Threads c_p_Claims y54.1 y54.2 o1_m o2_m o3_m).bind fun y56=>(legal_checker_body_L0 n v1_t c_p_Mod c_p_Locs c_p_Threads c_p_Claims o1_m o2_m o3_m k5 (if s1<(IntKind.i64.wrap ((IntKind.i64.wrap (s2+1))+x14.f_Body)) then (IntKind.i64.wrap ((IntKind.i64.wrap (s2+1))+x14.f_Body)) else s1) (IntKind.i64.wrap (s2+1)) y56.1 y56.2)))) else ((m_legal_checker_must n (decide (0<(mget o1_m x14.f_Loc 0))) 9 x14.f_At c_p_Mod c_p_Locs c_p_Threads c_p_Claims y49.2.1 y49.2.2 o1_m o2_m).bind fun y58=>((m_legal_checker_nodes_1 n x14.f_E c_p_Mod c_p_Locs c_p_Threads c_p_Claims y58.2.1 y58.2.2 o1_m o2_m o3_m).bind fun y60=>((m_legal_checker_nodes_1 n x14.f_F c_p_Mod c_p_Locs c_p_Threads c_p_Claims y60.1 y60.2 o1_m o2_m o3_m).bind fun y62=>(legal_checker_body_L0 n v1_t c_p_Mod c_p_Locs c_p_Threads c_p_Claims o1_m o2_m o3_m k5 (if s1<(IntKind.i64.wrap ((IntKind.i64.wrap (s2+1))+x14.f_Body)) then (IntKind.i64.wrap ((IntKind.i64.wrap (s2+1))+x14.f_Body)) else s1) (IntKind.i64.wrap (s2+1)) y62.1 y62.2)))))) else ((m_legal_checker_must n (decide (0<(mget o3_m x14.f_Reg 0))) 9 x14.f_At c_p_Mod c_p_Locs c_p_Threads c_p_Claims s3 s4 o1_m o2_m).bind fun y64=>(bif (x14.f_Loc==([]:List UInt8)) then ((m_legal_checker_must n true 9 x14.f_At c_p_Mod c_p_Locs c_p_Threads c_p_Claims y64.2.1 y64.2.2 o1_m o2_m).bind fun y67=>((m_legal_checker_nodes_1 n x14.f_E c_p_Mod c_p_Locs c_p_Threads c_p_Claims y67.2.1 y67.2.2 o1_m o2_m o3_m).bind fun y69=>((m_legal_checker_nodes_1 n x14.f_F c_p_Mod c_p_Locs c_p_Threads c_p_Claims y69.1 y69.2 o1_m o2_m o3_m).bind fun y71=>(legal_checker_body_L0 n v1_t c_p_Mod c_p_Locs c_p_Threads c_p_Claims o1_m o2_m o3_m k5 (if s1<(IntKind.i64.wrap ((IntKind.i64.wrap (s2+1))+x14.f_Body)) then (IntKind.i64.wrap ((IntKind.i64.wrap (s2+1))+x14.f_Body)) else s1) (IntKind.i64.wrap (s2+1)) y71.1 y71.2)))) else ((m_legal_checker_must n (decide (0<(mget o1_m x14.f_Loc 0))) 9 x14.f_At c_p_Mod c_p_Locs c_p_Threads c_p_Claims y64.2.1 y64.2.2 o1_m o2_m).bind fun y73=>((m_legal_checker_nodes_1 n x14.f_E c_p_Mod c_p_Locs c_p_Threads c_p_Claims y73.2.1 y73.2.2 o1_m o2_m o3_m).bind fun y75=>((m_legal_checker_nodes_1 n x14.f_F c_p_Mod c_p_Locs c_p_Threads c_p_Claims y75.1 y75.2 o1_m o2_m o3_m).bind fun y77=>(legal_checker_body_L0 n v1_t c_p_Mod c_p_Locs c_p_Threads c_p_Claims o1_m o2_m o3_m k5 (if s1<(IntKind.i64.wrap ((IntKind.i64.wrap (s2+1))+x14.f_Body)) then (IntKind.i64.wrap ((IntKind.i64.wrap (s2+1))+x14.f_Body)) else s1) (IntKind.i64.wrap (s2+1)) y77.1 y77.2))))))) else (bif (x14.f_Kind==13) then ((m_legal_checker_must n (decide (s2<s1)) 13 x14.f_At c_p_Mod c_p_Locs c_p_Threads c_p_Claims s3 s4 o1_m o2_m).bind fun y80=>(bif (x14.f_Reg==([]:List UInt8)) then ((m_legal_checker_must n true 9 x14.f_At c_p_Mod c_p_Locs c_p_Threads c_p_Claims y80.2.1 y80.2.2 o1_m o2_m).bind fun y83=>(bif (x14.f_Loc==([]:List UInt8)) then ((m_legal_checker_must n true 9 x14.f_At c_p_Mod c_p_Locs c_p_Threads c_p_Claims y83.2.1 y83.2.2 o1_m o2_m).bind fun y86=>((m_legal_checker_nodes_1 n x14.f_E c_p_Mod c_p_Locs c_p_Threads c_p_Claims y86.2.1 y86.2.2 o1_m o2_m o3_m).bind fun y88=>((m_legal_checker_nodes_1 n x14.f_F c_p_Mod c_p_Locs c_p_Threads c_p_Claims y88.1 y88.2 o1_m o2_m o3_m).bind fun y90=>(legal_checker_body_L0 n v1_t c_p_Mod c_p_Locs c_p_Threads c_p_Claims o1_m o2_m o3_m k5 s1 (IntKind.i64.wrap (s2+1)) y90.1 y90.2)))) else ((m_legal_checker_must n (decide (0<(mget o1_m x14.f_Loc 0))) 9 x14.f_At c_p_Mod c_p_Locs c_p_Threads c_p_Claims y83.2.1 y83.2.2 o1_m o2_m).bind fun y92=>((m_legal_checker_nodes_1 n x14.f_E c_p_Mod c_p_Locs c_p_Threads c_p_Claims y92.2.1 y92.2.2 o1_m o2_m o3_m).bind fun y94=>((m_legal_checker_nodes_1 n x14.f_F c_p_Mod c_p_Locs c_p_Threads c_p_Claims y94.1 y94.2 o1_m o2_m o3_m).bind fun y96=>(legal_checker_body_L0 n v1_t c_p_Mod c_p_Locs c_p_Threads c_p_Claims o1_m o2_m o3_m k5 s1 (IntKind.i64.wrap (s2+1)) y96.1 y96.2)))))) else ((m_legal_checker_must n (decide (0<(mget o3_m x14.f_Reg 0))) 9 x14.f_At c_p_Mod c_p_Locs c_p_Threads c_p_Claims y80.2.1 y80.2.2 o1_m o2_m).bind fun y98=>(bif (x14.f_Loc==([]:List UInt8)) then ((m_legal_checker_must n true 9 x14.f_At c_p_Mod c_p_Locs c_p_Threads c_p_Claims y98.2.1 y98.2.2 o1_m o2_m).bind fun y101=>((m_legal_checker_nodes_1 n x14.f_E c_p_Mod c_p_Locs c_p_Threads c_p_Claims y101.2.1 y101.2.2 o1_m o2_m o3_m).bind fun y103=>((m_legal_checker_nodes_1 n x14.f_F c_p_Mod c_p_Locs c_p_Threads c_p_Claims y103.1 y103.2 o1_m o2_m o3_m).bind fun y105=>(legal_checker_body_L0 n v1_t c_p_Mod c_p_Locs c_p_Threads c_p_Claims o1_m o2_m o3_m k5 s1 (IntKind.i64.wrap (s2+1)) y105.1 y105.2)))) else ((m_legal_checker_must n (decide (0<(mget o1_m x14.f_Loc 0))) 9 x14.f_At c_p_Mod c_p_Locs c_p_Threads c_p_Claims y98.2.1 y98.2.2 o1_m o2_m).bind fun y107=>((m_legal_checker_nodes_1 n x14.f_E c_p_Mod c_p_Locs c_p_Threads c_p_Claims y107.2.1 y107.2.2 o1_m o2_m o3_m).bind fun y109=>((m_legal_checker_nodes_1 n x14.f_F c_p_Mod c_p_Locs c_p_Threads c_p_Claims y109.1 y109.2 o1_m o2_m o3_m).bind fun y111=>(legal_checker_body_L0 n v1_t c_p_Mod c_p_Locs c_p_Threads c_p_Claims o1_m o2_m o3_m k5 s1 (IntKind.i64.wrap (s2+1)) y111.1 y111.2)))))))) else (bif (x14.f_Reg==([]:List UInt8)) then ((m_legal_checker_must n true 9 x14.f_At c_p_Mod c_p_Locs c_p_Threads c_p_Claims s3 s4 o1_m o2_m).bind fun y114=>(bif (x14.f_Loc==([]:List UInt8)) then ((m_legal_checker_must n true 9 x14.f_At c_p_Mod c_p_Locs c_p_Threads c_p_Claims y114.2.1 y114.2.2 o1_m o2_m).bind fun y117=>((m_legal_checker_nodes_1 n x14.f_E c_p_Mod c_p_Locs c_p_Threads c_p_Claims y117.2.1 y117.2.2 o1_m o2_m o3_m).bind fun y119=>((m_legal_checker_nodes_1 n x14.f_F c_p_Mod c_p_Locs c_p_Threads c_p_Claims y119.1 y119.2 o1_m o2_m o3_m).bind fun y121=>(legal_checker_body_L0 n v1_t c_p_Mod c_p_Locs c_p_Threads c_p_Claims o1_m o2_m o3_m k5 s1 (IntKind.i64.wrap (s2+1)) y121.1 y121.2)))) else ((m_legal_checker_must n (decide (0<(mget o1_m x14.f_Loc 0))) 9 x14.f_At c_p_Mod c_p_Locs c_p_Threads c_p_Claims y114.2.1 y114.2.2 o1_m o2_m).bind fun y123=>((m_legal_checker_nodes_1 n x14.f_E c_p_Mod c_p_Locs c_p_Threads c_p_Claims y123.2.1 y123.2.2 o1_m o2_m o3_m).bind fun y125=>((m_legal_checker_nodes_1 n x14.f_F c_p_Mod c_p_Locs c_p_Threads c_p_Claims y125.1 y125.2 o1_m o2_m o3_m).bind fun y127=>(legal_checker_body_L0 n v1_t c_p_Mod c_p_Locs c_p_Threads c_p_Claims o1_m o2_m o3_m k5 s1 (IntKind.i64.wrap (s2+1)) y127.1 y127.2)))))) else ((m_legal_checker_must n (decide (0<(mget o3_m x14.f_Reg 0))) 9 x14.f_At c_p_Mod c_p_Locs c_p_Threads c_p_Claims s3 s4 o1_m o2_m).bind fun y129=>(bif (x14.f_Loc==([]:List UInt8)) then ((m_legal_checker_must n true 9 x14.f_At c_p_Mod c_p_Locs c_p_Threads c_p_Claims y129.2.1 y129.2.2 o1_m o2_m).bind fun y132=>((m_legal_checker_nodes_1 n x14.f_E c_p_Mod c_p_Locs c_p_Threads c_p_Claims y132.2.1 y132.2.2 o1_m o2_m o3_m).bind fun y134=>((m_legal_checker_nodes_1 n x14.f_F c_p_Mod c_p_Locs c_p_Threads c_p_Claims y134.1 y134.2 o1_m o2_m o3_m).bind fun y136=>(legal_checker_body_L0 n v1_t c_p_Mod c_p_Locs c_p_Threads c_p_Claims o1_m o2_m o3_m k5 s1 (IntKind.i64.wrap (s2+1)) y136.1 y136.2)))) else ((m_legal_checker_must n (decide (0<(mget o1_m x14.f_Loc 0))) 9 x14.f_At c_p_Mod c_p_Locs c_p_Threads c_p_Claims y129.2.1 y129.2.2 o1_m o2_m).bind fun y138=>((m_legal_checker_nodes_1 n x14.f_E c_p_Mod c_p_Locs c_p_Threads c_p_Claims y138.2.1 y138.2.2 o1_m o2_m o3_m).bind fun y140=>((m_legal_checker_nodes_1 n x14.f_F c_p_Mod c_p_Locs c_p_Threads c_p_Claims y140.1 y140.2 o1_m o2_m o3_m).bind fun y142=>(legal_checker_body_L0 n v1_t c_p_Mod c_p_Locs c_p_Threads c_p_Claims o1_m o2_m o3_m k5 s1 (IntKind.i64.wrap (s2+1)) y142.1 y142.2))))))))))) else (some (.out (s3,s4))))
def m_legal_checker_body:Nat→S_api_Thread→Int→(List S_api_Var)→(List S_api_Thread)→(List S_api_Claim)→Int→Int→(List ((List UInt8)×Int))→(List ((List UInt8)×(List ((List UInt8)×Int))))→(List ((List UInt8)×Int))→Option (Int×Int)
  | 0,_,_,_,_,_,_,_,_,_,_=>none
  | n+1,v1_t,c_p_Mod,c_p_Locs,c_p_Threads,c_p_Claims,c_e,c_at,o1_m,o2_m,o3_m=>((legal_checker_body_L0 n v1_t c_p_Mod c_p_Locs c_p_Threads c_p_Claims o1_m o2_m o3_m n 0 0 c_e c_at).bind fun o12=>match o12 with|.out (x145,x146)=>(some (x145,x146))|.ret v=>some v)
def m_legal_checker_body_1_1:Nat→S_api_Node→(List ((List UInt8)×Int))→Option Bool
  | 0,_,_=>none
  | n+1,v0_x,o1_m=>(some (decide (0<(mget o1_m v0_x.f_Name 0))))
def legal_checker_nodes_2_L0 (n:Nat)  (v1_l:(List S_api_Node)) (c_p_Mod:Int) (c_p_Locs:(List S_api_Var)) (c_p_Threads:(List S_api_Thread)) (c_p_Claims:(List S_api_Claim)) (o1_m:(List ((List UInt8)×Int))) (o2_m:(List ((List UInt8)×(List ((List UInt8)×Int))))) (o4_m:(List ((List UInt8)×Int))):Nat→Int→Int→Int→Option (LR (Int×Int) (Int×Int))
  | 0,_,_,_=>none
  | k4+1,s1,s2,s3=>(bif decide (s1<((v1_l.length:Nat):Int)) then ((idx v1_l s1).bind fun x13=>(bif (x13.f_Op==1) then ((m_legal_checker_must n (decide (x13.f_N<c_p_Mod)) 11 x13.f_At c_p_Mod c_p_Locs c_p_Threads c_p_Claims s2 s3 o1_m o2_m).bind fun y15=>(legal_checker_nodes_2_L0 n v1_l c_p_Mod c_p_Locs c_p_Threads c_p_Claims o1_m o2_m o4_m k4 (IntKind.i64.wrap (s1+1)) y15.2.1 y15.2.2)) else (bif (x13.f_Op==2) then ((m_legal_checker_body_1_1 n x13 o4_m).bind fun y18=>((m_legal_checker_must n y18 9 x13.f_At c_p_Mod c_p_Locs c_p_Threads c_p_Claims s2 s3 o1_m o2_m).bind fun y20=>(legal_checker_nodes_2_L0 n v1_l c_p_Mod c_p_Locs c_p_Threads c_p_Claims o1_m o2_m o4_m k4 (IntKind.i64.wrap (s1+1)) y20.2.1 y20.2.2))) else (bif (x13.f_Op==3) then ((m_legal_checker_body_1_1 n x13 o4_m).bind fun y23=>((m_legal_checker_must n y23 9 x13.f_At c_p_Mod c_p_Locs c_p_Threads c_p_Claims s2 s3 o1_m o2_m).bind fun y25=>(legal_checker_nodes_2_L0 n v1_l c_p_Mod c_p_Locs c_p_Threads c_p_Claims o1_m o2_m o4_m k4 (IntKind.i64.wrap (s1+1)) y25.2.1 y25.2.2))) else (bif (x13.f_Op==4) then ((m_legal_checker_body_1_1 n x13 o4_m).bind fun y28=>((m_legal_checker_must n y28 9 x13.f_At c_p_Mod c_p_Locs c_p_Threads c_p_Claims s2 s3 o1_m o2_m).bind fun y30=>(legal_checker_nodes_2_L0 n v1_l c_p_Mod c_p_Locs c_p_Threads c_p_Claims o1_m o2_m o4_m k4 (IntKind.i64.wrap (s1+1)) y30.2.1 y30.2.2))) else (legal_checker_nodes_2_L0 n v1_l c_p_Mod c_p_Locs c_p_Threads c_p_Claims o1_m o2_m o4_m k4 (IntKind.i64.wrap (s1+1)) s2 s3)))))) else (some (.out (s2,s3))))
def m_legal_checker_nodes_2:Nat→(List S_api_Node)→Int→(List S_api_Var)→(List S_api_Thread)→(List S_api_Claim)→Int→Int→(List ((List UInt8)×Int))→(List ((List UInt8)×(List ((List UInt8)×Int))))→(List ((List UInt8)×Int))→Option (Int×Int)
  | 0,_,_,_,_,_,_,_,_,_,_=>none
  | n+1,v1_l,c_p_Mod,c_p_Locs,c_p_Threads,c_p_Claims,c_e,c_at,o1_m,o2_m,o4_m=>((legal_checker_nodes_2_L0 n v1_l c_p_Mod c_p_Locs c_p_Threads c_p_Claims o1_m o2_m o4_m n 0 c_e c_at).bind fun o11=>match o11 with|.out (x33,x34)=>(some (x33,x34))|.ret v=>some v)
def legal_checker_body_1_L0 (n:Nat)  (v1_t:S_api_Thread) (c_p_Mod:Int) (c_p_Locs:(List S_api_Var)) (c_p_Threads:(List S_api_Thread)) (c_p_Claims:(List S_api_Claim)) (o1_m:(List ((List UInt8)×Int))) (o2_m:(List ((List UInt8)×(List ((List UInt8)×Int))))) (o3_m:(List ((List UInt8)×Int))):Nat→Int→Int→Int→Int→Option (LR (Int×Int) (Int×Int))
  | 0,_,_,_,_=>none
  | k5+1,s1,s2,s3,s4=>(bif decide (s2<((v1_t.f_Body.length:Nat):Int)) then ((idx v1_t.f_Body s2).bind fun x14=>(bif (x14.f_Kind==11) then (bif (x14.f_Reg==([]:List UInt8)) then ((m_legal_checker_must n true 9 x14.f_At c_p_Mod c_p_Locs c_p_Threads c_p_Claims s3 s4 o1_m o2_m).bind fun y17=>(bif (x14.f_Loc==([]:List UInt8)) then ((m_legal_checker_must n true 9 x14.f_At c_p_Mod c_p_Locs c_p_Threads c_p_Claims y17.2.1 y17.2.2 o1_m o2_m).bind fun y20=>((m_legal_checker_nodes_2 n x14.f_E c_p_Mod c_p_Locs c_p_Threads c_p_Claims y20.2.1 y20.2.2 o1_m o2_m o3_m).bind fun y22=>((m_legal_checker_nodes_2 n x14.f_F c_p_Mod c_p_Locs c_p_Threads c_p_Claims y22.1 y22.2 o1_m o2_m o3_m).bind fun y24=>(legal_checker_body_1_L0 n v1_t c_p_Mod c_p_Locs c_p_Threads c_p_Claims o1_m o2_m o3_m k5 (if s1<(IntKind.i64.wrap ((IntKind.i64.wrap (s2+1))+x14.f_Body)) then (IntKind.i64.wrap ((IntKind.i64.wrap (s2+1))+x14.f_Body)) else s1) (IntKind.i64.wrap (s2+1)) y24.1 y24.2)))) else ((m_legal_checker_must n (decide (0<(mget o1_m x14.f_Loc 0))) 9 x14.f_At c_p_Mod c_p_Locs c_p_Threads c_p_Claims y17.2.1 y17.2.2 o1_m o2_m).bind fun y26=>((m_legal_checker_nodes_2 n x14.f_E c_p_Mod c_p_Locs c_p_Threads c_p_Claims y26.2.1 y26.2.2 o1_m o2_m o3_m).bind fun y28=>((m_legal_checker_nodes_2 n x14.f_F c_p_Mod c_p_Locs c_p_Threads c_p_Claims y28.1 y28.2 o1_m o2_m o3_m).bind fun y30=>(legal_checker_body_1_L0 n v1_t c_p_Mod c_p_Locs c_p_Threads c_p_Claims o1_m o2_m o3_m k5 (if s1<(IntKind.i64.wrap ((IntKind.i64.wrap (s2+1))+x14.f_Body)) then (IntKind.i64.wrap ((IntKind.i64.wrap (s2+1))+x14.f_Body)) else s1) (IntKind.i64.wrap (s2+1)) y30.1 y30.2)))))) else ((m_legal_checker_must n (decide (0<(mget o3_m x14.f_Reg 0))) 9 x14.f_At c_p_Mod c_p_Locs c_p_Threads c_p_Claims s3 s4 o1_m o2_m).bind fun y32=>(bif (x14.f_Loc==([]:List UInt8)) then ((m_legal_checker_must n true 9 x14.f_At c_p_Mod c_p_Locs c_p_Threads c_p_Claims y32.2.1 y32.2.2 o1_m o2_m).bind fun y35=>((m_legal_checker_nodes_2 n x14.f_E c_p_Mod c_p_Locs c_p_Threads c_p_Claims y35.2.1 y35.2.2 o1_m o2_m o3_m).bind fun y37=>((m_legal_checker_nodes_2 n x14.f_F c_p_Mod c_p_Locs c_p_Threads c_p_Claims y37.1 y37.2 o1_m o2_m o3_m).bind fun y39=>(legal_checker_body_1_L0 n v1_t c_p_Mod c_p_Locs c_p_Threads c_p_Claims o1_m o2_m o3_m k5 (if s1<(IntKind.i64.wrap ((IntKind.i64.wrap (s2+1))+x14.f_Body)) then (IntKind.i64.wrap ((IntKind.i64.wrap (s2+1))+x14.f_Body)) else s1) (IntKind.i64.wrap (s2+1)) y39.1 y39.2)))) else ((m_legal_checker_must n (decide (0<(mget o1_m x14.f_Loc 0))) 9 x14.f_At c_p_Mod c_p_Locs c_p_Threads c_p_Claims y32.2.1 y32.2.2 o1_m o2_m).bind fun y41=>((m_legal_checker_nodes_2 n x14.f_E c_p_Mod c_p_Locs c_p_Threads c_p_Claims y41.2.1 y41.2.2 o1_m o2_m o3_m).bind fun y43=>((m_legal_checker_nodes_2 n x14.f_F c_p_Mod c_p_Locs c_p_Threads c_p_Claims y43.1 y43.2 o1_m o2_m o3_m).bind fun y45=>(legal_checker_body_1_L0 n v1_t c_p_Mod c_p_Locs c_p_Threads c_p_Claims o1_m o2_m o3_m k5 (if s1<(IntKind.i64.wrap ((IntKind.i64.wrap (s2+1))+x14.f_Body)) then (IntKind.i64.wrap ((IntKind.i64.wrap (s2+1))+x14.f_Body)) else s1) (IntKind.i64.wrap (s2+1)) y45.1 y45.2))))))) else (bif (x14.f_Kind==12) then (bif (x14.f_Reg==([]:List UInt8)) then ((m_legal_checker_must n true 9 x14.f_At c_p_Mod c_p_Locs c_p_Threads c_p_Claims s3 s4 o1_m o2_m).bind fun y49=>(bif (x14.f_Loc==([]:List UInt8)) then ((m_legal_checker_must n true 9 x14.f_At c_p_Mod c_p_Locs c_p_Threads c_p_Claims y49.2.1 y49.2.2 o1_m o2_m).bind fun y52=>((m_legal_checker_nodes_2 n x14.f_E c_p_Mod c_p_Locs c_p_Threads c_p_Claims y52.2.1 y52.2.2 o1_m o2_m o3_m).bind fun y54=>((m_legal_checker_nodes_2 n x14.f_F c_p_Mod c_p_Locs c_p_Threads c_p_Claims y54.1 y54.2 o1_m o2_m o3_m).bind fun y56=>(legal_checker_body_1_L0 n v1_t c_p_Mod c_p_Locs c_p_Threads c_p_Claims o1_m o2_m o3_m k5 (if s1<(IntKind.i64.wrap ((IntKind.i64.wrap (s2+1))+x14.f_Body)) then (IntKind.i64.wrap ((IntKind.i64.wrap (s2+1))+x14.f_Body)) else s1) (IntKind.i64.wrap (s2+1)) y56.1 y56.2)))) else ((m_legal_checker_must n (decide (0<(mget o1_m x14.f_Loc 0))) 9 x14.f_At c_p_Mod c_p_Locs c_p_Threads c_p_Claims y49.2.1 y49.2.2 o1_m o2_m).bind fun y58=>((m_legal_checker_nodes_2 n x14.f_E c_p_Mod c_p_Locs c_p_Threads c_p_Claims y58.2.1 y58.2.2 o1_m o2_m o3_m).bind fun y60=>((m_legal_checker_nodes_2 n x14.f_F c_p_Mod c_p_Locs c_p_Threads c_p_Claims y60.1 y60.2 o1_m o2_m o3_m).bind fun y62=>(legal_checker_body_1_L0 n v1_t c_p_Mod c_p_Locs c_p_Threads c_p_Claims o1_m o2_m o3_m k5 (if s1<(IntKind.i64.wrap ((IntKind.i64.wrap (s2+1))+x14.f_Body)) then (IntKind.i64.wrap ((IntKind.i64.wrap (s2+1))+x14.f_Body)) else s1) (IntKind.i64.wrap (s2+1)) y62.1 y62.2)))))) else ((m_legal_checker_must n (decide (0<(mget o3_m x14.f_Reg 0))) 9 x14.f_At c_p_Mod c_p_Locs c_p_Threads c_p_Claims s3 s4 o1_m o2_m).bind fun y64=>(bif (x14.f_Loc==([]:List UInt8)) then ((m_legal_checker_must n true 9 x14.f_At c_p_Mod c_p_Locs c_p_Threads c_p_Claims y64.2.1 y64.2.2 o1_m o2_m).bind fun y67=>((m_legal_checker_nodes_2 n x14.f_E c_p_Mod c_p_Locs c_p_Threads c_p_Claims y67.2.1 y67.2.2 o1_m o2_m o3_m).bind fun y69=>((m_legal_checker_nodes_2 n x14.f_F c_p_Mod c_p_Locs c_p_Threads c_p_Claims y69.1 y69.2 o1_m o2_m o3_m).bind fun y71=>(legal_checker_body_1_L0 n v1_t c_p_Mod c_p_Locs c_p_Threads c_p_Claims o1_m o2_m o3_m k5 (if s1<(IntKind.i64.wrap ((IntKind.i64.wrap (s2+1))+x14.f_Body)) then (IntKind.i64.wrap ((IntKind.i64.wrap (s2+1))+x14.f_Body)) else s1) (IntKind.i64.wrap (s2+1)) y71.1 y71.2)))) else ((m_legal_checker_must n (decide (0<(mget o1_m x14.f_Loc 0))) 9 x14.f_At c_p_Mod c_p_Locs c_p_Threads c_p_Claims y64.2.1 y64.2.2 o1_m o2_m).bind fun y73=>((m_legal_checker_nodes_2 n x14.f_E c_p_Mod c_p_Locs c_p_Threads c_p_Claims y73.2.1 y73.2.2 o1_m o2_m o3_m).bind fun y75=>((m_legal_checker_nodes_2 n x14.f_F c_p_Mod c_p_Locs c_p_Threads c_p_Claims y75.1 y75.2 o1_m o2_m o3_m).bind fun y77=>(legal_checker_body_1_L0 n v1_t c_p_Mod c_p_Locs c_p_Threads c_p_Claims o1_m o2_m o3_m k5 (if s1<(IntKind.i64.wrap ((IntKind.i64.wrap (s2+1))+x14.f_Body)) then (IntKind.i64.wrap ((IntKind.i64.wrap (s2+1))+x14.f_Body)) else s1) (IntKind.i64.wrap (s2+1)) y77.1 y77.2))))))) else (bif (x14.f_Kind==13) then ((m_legal_checker_must n (decide (s2<s1)) 13 x14.f_At c_p_Mod c_p_Locs c_p_Threads c_p_Claims s3 s4 o1_m o2_m).bind fun y80=>(bif (x14.f_Reg==([]:List UInt8)) then ((m_legal_checker_must n true 9 x14.f_At c_p_Mod c_p_Locs c_p_Threads c_p_Claims y80.2.1 y80.2.2 o1_m o2_m).bind fun y83=>(bif (x14.f_Loc==([]:List UInt8)) then ((m_legal_checker_must n true 9 x14.f_At c_p_Mod c_p_Locs c_p_Threads c_p_Claims y83.2.1 y83.2.2 o1_m o2_m).bind fun y86=>((m_legal_checker_nodes_2 n x14.f_E c_p_Mod c_p_Locs c_p_Threads c_p_Claims y86.2.1 y86.2.2 o1_m o2_m o3_m).bind fun y88=>((m_legal_checker_nodes_2 n x14.f_F c_p_Mod c_p_Locs c_p_Threads c_p_Claims y88.1 y88.2 o1_m o2_m o3_m).bind fun y90=>(legal_checker_body_1_L0 n v1_t c_p_Mod c_p_Locs c_p_Threads c_p_Claims o1_m o2_m o3_m k5 s1 (IntKind.i64.wrap (s2+1)) y90.1 y90.2)))) else ((m_legal_checker_must n (decide (0<(mget o1_m x14.f_Loc 0))) 9 x14.f_At c_p_Mod c_p_Locs c_p_Threads c_p_Claims y83.2.1 y83.2.2 o1_m o2_m).bind fun y92=>((m_legal_checker_nodes_2 n x14.f_E c_p_Mod c_p_Locs c_p_Threads c_p_Claims y92.2.1 y92.2.2 o1_m o2_m o3_m).bind fun y94=>((m_legal_checker_nodes_2 n x14.f_F c_p_Mod c_p_Locs c_p_Threads c_p_Claims y94.1 y94.2 o1_m o2_m o3_m).bind fun y96=>(legal_checker_body_1_L0 n v1_t c_p_Mod c_p_Locs c_p_Threads c_p_Claims o1_m o2_m o3_m k5 s1 (IntKind.i64.wrap (s2+1)) y96.1 y96.2)))))) else ((m_legal_checker_must n (decide (0<(mget o3_m x14.f_Reg 0))) 9 x14.f_At c_p_Mod c_p_Locs c_p_Threads c_p_Claims y80.2.1 y80.2.2 o1_m o2_m).bind fun y98=>(bif (x14.f_Loc==([]:List UInt8)) then ((m_legal_checker_must n true 9 x14.f_At c_p_Mod c_p_Locs c_p_Threads c_p_Claims y98.2.1 y98.2.2 o1_m o2_m).bind fun y101=>((m_legal_checker_nodes_2 n x14.f_E c_p_Mod c_p_Locs c_p_Threads c_p_Claims y101.2.1 y101.2.2 o1_m o2_m o3_m).bind fun y103=>((m_legal_checker_nodes_2 n x14.f_F c_p_Mod c_p_Locs c_p_Threads c_p_Claims y103.1 y103.2 o1_m o2_m o3_m).bind fun y105=>(legal_checker_body_1_L0 n v1_t c_p_Mod c_p_Locs c_p_Threads c_p_Claims o1_m o2_m o3_m k5 s1 (IntKind.i64.wrap (s2+1)) y105.1 y105.2)))) else ((m_legal_checker_must n (decide (0<(mget o1_m x14.f_Loc 0))) 9 x14.f_At c_p_Mod c_p_Locs c_p_Threads c_p_Claims y98.2.1 y98.2.2 o1_m o2_m).bind fun y107=>((m_legal_checker_nodes_2 n x14.f_E c_p_Mod c_p_Locs c_p_Threads c_p_Claims y107.2.1 y107.2.2 o1_m o2_m o3_m).bind fun y109=>((m_legal_checker_nodes_2 n x14.f_F c_p_Mod c_p_Locs c_p_Threads c_p_Claims y109.1 y109.2 o1_m o2_m o3_m).bind fun y111=>(legal_checker_body_1_L0 n v1_t c_p_Mod c_p_Locs c_p_Threads c_p_Claims o1_m o2_m o3_m k5 s1 (IntKind.i64.wrap (s2+1)) y111.1 y111.2)))))))) else (bif (x14.f_Reg==([]:List UInt8)) then ((m_legal_checker_must n true 9 x14.f_At c_p_Mod c_p_Locs c_p_Threads c_p_Claims s3 s4 o1_m o2_m).bind fun y114=>(bif (x14.f_Loc==([]:List UInt8)) then ((m_legal_checker_must n true 9 x14.f_At c_p_Mod c_p_Locs c_p_Threads c_p_Claims y114.2.1 y114.2.2 o1_m o2_m).bind fun y117=>((m_legal_checker_nodes_2 n x14.f_E c_p_Mod c_p_Locs c_p_Threads c_p_Claims y117.2.1 y117.2.2 o1_m o2_m o3_m).bind fun y119=>((m_legal_checker_nodes_2 n x14.f_F c_p_Mod c_p_Locs c_p_Threads c_p_Claims y119.1 y119.2 o1_m o2_m o3_m).bind fun y121=>(legal_checker_body_1_L0 n v1_t c_p_Mod c_p_Locs c_p_Threads c_p_Claims o1_m o2_m o3_m k5 s1 (IntKind.i64.wrap (s2+1)) y121.1 y121.2)))) else ((m_legal_checker_must n (decide (0<(mget o1_m x14.f_Loc 0))) 9 x14.f_At c_p_Mod c_p_Locs c_p_Threads c_p_Claims y114.2.1 y114.2.2 o1_m o2_m).bind fun y123=>((m_legal_checker_nodes_2 n x14.f_E c_p_Mod c_p_Locs c_p_Threads c_p_Claims y123.2.1 y123.2.2 o1_m o2_m o3_m).bind fun y125=>((m_legal_checker_nodes_2 n x14.f_F c_p_Mod c_p_Locs c_p_Threads c_p_Claims y125.1 y125.2 o1_m o2_m o3_m).bind fun y127=>(legal_checker_body_1_L0 n v1_t c_p_Mod c_p_Locs c_p_Threads c_p_Claims o1_m o2_m o3_m k5 s1 (IntKind.i64.wrap (s2+1)) y127.1 y127.2)))))) else ((m_legal_checker_must n (decide (0<(mget o3_m x14.f_Reg 0))) 9 x14.f_At c_p_Mod c_p_Locs c_p_Threads c_p_Claims s3 s4 o1_m o2_m).bind fun y129=>(bif (x14.f_Loc==([]:List UInt8)) then ((m_legal_checker_must n true 9 x14.f_At c_p_Mod c_p_Locs c_p_Threads c_p_Claims y129.2.1 y129.2.2 o1_m o2_m).bind fun y132=>((m_legal_checker_nodes_2 n x14.f_E c_p_Mod c_p_Locs c_p_Threads c_p_Claims y132.2.1 y132.2.2 o1_m o2_m o3_m).bind fun y134=>((m_legal_checker_nodes_2 n x14.f_F c_p_Mod c_p_Locs c_p_Threads c_p_Claims y134.1 y134.2 o1_m o2_m o3_m).bind fun y136=>(legal_checker_body_1_L0 n v1_t c_p_Mod c_p_Locs c_p_Threads c_p_Claims o1_m o2_m o3_m k5 s1 (IntKind.i64.wrap (s2+1)) y136.1 y136.2)))) else ((m_legal_checker_must n (decide (0<(mget o1_m x14.f_Loc 0))) 9 x14.f_At c_p_Mod c_p_Locs c_p_Threads c_p_Claims y129.2.1 y129.2.2 o1_m o2_m).bind fun y138=>((m_legal_checker_nodes_2 n x14.f_E c_p_Mod c_p_Locs c_p_Threads c_p_Claims y138.2.1 y138.2.2 o1_m o2_m o3_m).bind fun y140=>((m_legal_checker_nodes_2 n x14.f_F c_p_Mod c_p_Locs c_p_Threads c_p_Claims y140.1 y140.2 o1_m o2_m o3_m).bind fun y142=>(legal_checker_body_1_L0 n v1_t c_p_Mod c_p_Locs c_p_Threads c_p_Claims o1_m o2_m o3_m k5 s1 (IntKind.i64.wrap (s2+1)) y142.1 y142.2))))))))))) else (some (.out (s3,s4))))
def m_legal_checker_body_1:Nat→S_api_Thread→Int→(List S_api_Var)→(List S_api_Thread)→(List S_api_Claim)→Int→Int→(List ((List UInt8)×Int))→(List ((List UInt8)×(List ((List UInt8)×Int))))→(List ((List UInt8)×Int))→Option (Int×Int)
  | 0,_,_,_,_,_,_,_,_,_,_=>none
  | n+1,v1_t,c_p_Mod,c_p_Locs,c_p_Threads,c_p_Claims,c_e,c_at,o1_m,o2_m,o3_m=>((legal_checker_body_1_L0 n v1_t c_p_Mod c_p_Locs c_p_Threads c_p_Claims o1_m o2_m o3_m n 0 0 c_e c_at).bind fun o12=>match o12 with|.out (x145,x146)=>(some (x145,x146))|.ret v=>some v)
def legal_checker_thread_L0 (n:Nat)  (v2_t:S_api_Thread) (c_p_Mod:Int) (c_p_Locs:(List S_api_Var)) (c_p_Threads:(List S_api_Thread)) (c_p_Claims:(List S_api_Claim)) (o1_m:(List ((List UInt8)×Int))) (o2_m:(List ((List UInt8)×(List ((List UInt8)×Int))))):Nat→Int→Int→Int→(List ((List UInt8)×Int))→Option (LR (Int×Int×(List ((List UInt8)×Int))) (Int×Int×(List ((List UInt8)×(List ((List UInt8)×Int))))))
  | 0,_,_,_,_=>none
  | k11+1,s7,s8,s9,s10=>(bif decide (s7<((v2_t.f_Regs.length:Nat):Int)) then ((idx v2_t.f_Regs s7).bind fun x20=>(bif ((mget (mset s10 x20 (IntKind.i64.wrap ((mget s10 x20 0)+1))) x20 0)==1) then ((m_legal_checker_must n ((mget o1_m x20 0)==0) 10 v2_t.f_At c_p_Mod c_p_Locs c_p_Threads c_p_Claims s8 s9 o1_m o2_m).bind fun y23=>(legal_checker_thread_L0 n v2_t c_p_Mod c_p_Locs c_p_Threads c_p_Claims o1_m o2_m k11 (IntKind.i64.wrap (s7+1)) y23.2.1 y23.2.2 (mset s10 x20 (IntKind.i64.wrap ((mget s10 x20 0)+1))))) else ((m_legal_checker_must n false 10 v2_t.f_At c_p_Mod c_p_Locs c_p_Threads c_p_Claims s8 s9 o1_m o2_m).bind fun y25=>(legal_checker_thread_L0 n v2_t c_p_Mod c_p_Locs c_p_Threads c_p_Claims o1_m o2_m k11 (IntKind.i64.wrap (s7+1)) y25.2.1 y25.2.2 (mset s10 x20 (IntKind.i64.wrap ((mget s10 x20 0)+1))))))) else (some (.out (s8,s9,s10))))
def m_legal_checker_thread:Nat→Int→S_api_Thread→Int→(List S_api_Var)→(List S_api_Thread)→(List S_api_Claim)→Int→Int→(List ((List UInt8)×Int))→(List ((List UInt8)×(List ((List UInt8)×Int))))→Option (Int×Int×(List ((List UInt8)×(List ((List UInt8)×Int)))))
  | 0,_,_,_,_,_,_,_,_,_,_=>none
  | n+1,v1_i,v2_t,c_p_Mod,c_p_Locs,c_p_Threads,c_p_Claims,c_e,c_at,o1_m,o2_m=>((m_legal_checker_must n (decide (v1_i<4)) 12 v2_t.f_At c_p_Mod c_p_Locs c_p_Threads c_p_Claims c_e c_at o1_m o2_m).bind fun y1=>((m_legal_checker_must n (!(mhas o2_m v2_t.f_Name)) 10 v2_t.f_At c_p_Mod c_p_Locs c_p_Threads c_p_Claims y1.2.1 y1.2.2 o1_m o2_m).bind fun y3=>((m_legal_checker_must n (decide (((v2_t.f_Regs.length:Nat):Int)≤6)) 12 v2_t.f_At c_p_Mod c_p_Locs c_p_Threads c_p_Claims y3.2.1 y3.2.2 o1_m o2_m).bind fun y5=>((legal_checker_thread_L0 n v2_t c_p_Mod c_p_Locs c_p_Threads c_p_Claims o1_m o2_m n 0 y5.2.1 y5.2.2 ([]:(List ((List UInt8)×Int)))).bind fun o18=>match o18 with|.out (x28,x29,x30)=>(bif (mhas o2_m v2_t.f_Name) then ((m_legal_checker_body n v2_t c_p_Mod c_p_Locs c_p_Threads c_p_Claims x28 x29 o1_m o2_m x30).bind fun y32=>(some (y32.1,y32.2,o2_m))) else ((m_legal_checker_body_1 n v2_t c_p_Mod c_p_Locs c_p_Threads c_p_Claims x28 x29 o1_m (mset o2_m v2_t.f_Name x30) x30).bind fun y35=>(some (y35.1,y35.2,(mset o2_m v2_t.f_Name x30)))))|.ret v=>some v))))
def legal_checker_vars_L0 (n:Nat)  (c_p_Mod:Int) (c_p_Locs:(List S_api_Var)) (c_p_Threads:(List S_api_Thread)) (c_p_Claims:(List S_api_Claim)) (o2_m:(List ((List UInt8)×(List ((List UInt8)×Int))))):Nat→Int→Int→Int→(List ((List UInt8)×Int))→Option (LR (Int×Int×(List ((List UInt8)×Int))) (Int×Int×(List ((List UInt8)×Int))))
  | 0,_,_,_,_=>none
  | k5+1,s1,s2,s3,s4=>(bif decide (s1<((c_p_Locs.length:Nat):Int)) then ((idx c_p_Locs s1).bind fun x14=>((m_legal_checker_must n (decide (s1<6)) 12 x14.f_At c_p_Mod c_p_Locs c_p_Threads c_p_Claims s2 s3 s4 o2_m).bind fun y15=>((m_legal_checker_must n ((mget s4 x14.f_Name 0)==0) 10 x14.f_At c_p_Mod c_p_Locs c_p_Threads c_p_Claims y15.2.1 y15.2.2 s4 o2_m).bind fun y17=>((m_legal_checker_must n (decide (x14.f_N<c_p_Mod)) 11 x14.f_At c_p_Mod c_p_Locs c_p_Threads c_p_Claims y17.2.1 y17.2.2 s4 o2_m).bind fun y19=>(legal_checker_vars_L0 n c_p_Mod c_p_Locs c_p_Threads c_p_Claims o2_m k5 (IntKind.i64.wrap (s1+1)) y19.2.1 y19.2.2 (mset s4 x14.f_Name (IntKind.i64.wrap ((mget s4 x14.f_Name 0)+1)))))))) else (some (.out (s2,s3,s4))))
def m_legal_checker_vars:Nat→Int→(List S_api_Var)→(List S_api_Thread)→(List S_api_Claim)→Int→Int→(List ((List UInt8)×Int))→(List ((List UInt8)×(List ((List UInt8)×Int))))→Option (Int×Int×(List ((List UInt8)×Int)))
  | 0,_,_,_,_,_,_,_,_=>none
  | n+1,c_p_Mod,c_p_Locs,c_p_Threads,c_p_Claims,c_e,c_at,o1_m,o2_m=>((legal_checker_vars_L0 n c_p_Mod c_p_Locs c_p_Threads c_p_Claims o2_m n 0 c_e c_at o1_m).bind fun o12=>match o12 with|.out (x23,x24,x25)=>(some (x23,x24,x25))|.ret v=>some v)
def legal_Check_L0 (n:Nat)  (v0_p:S_api_Prog) (y7:(Int×Int×(List ((List UInt8)×Int)))):Nat→Int→(List ((List UInt8)×(List ((List UInt8)×Int))))→Int→Int→Option (LR (Int×Int×(List ((List UInt8)×(List ((List UInt8)×Int))))) (Int×Int))
  | 0,_,_,_,_=>none
  | k15+1,s11,s12,s13,s14=>(bif decide (s11<((v0_p.f_Threads.length:Nat):Int)) then ((idx v0_p.f_Threads s11).bind fun x24=>((m_legal_checker_thread n s11 x24 v0_p.f_Mod v0_p.f_Locs v0_p.f_Threads v0_p.f_Claims s13 s14 y7.2.2 s12).bind fun y25=>(legal_Check_L0 n v0_p y7 k15 (IntKind.i64.wrap (s11+1)) y25.2.2 y25.1 y25.2.1))) else (some (.out (s13,s14,s12))))
def legal_Check_L1 (n:Nat)  (v0_p:S_api_Prog) (y7:(Int×Int×(List ((List UInt8)×Int)))) (x30:(List ((List UInt8)×(List ((List UInt8)×Int))))):Nat→Int→Int→Int→Option (LR (Int×Int) (Int×Int))
  | 0,_,_,_=>none
  | k34+1,s31,s32,s33=>(bif decide (s31<((v0_p.f_Claims.length:Nat):Int)) then ((idx v0_p.f_Claims s31).bind fun x43=>((m_legal_checker_claim n s31 x43 v0_p.f_Mod v0_p.f_Locs v0_p.f_Threads v0_p.f_Claims s32 s33 y7.2.2 x30).bind fun y44=>(legal_Check_L1 n v0_p y7 x30 k34 (IntKind.i64.wrap (s31+1)) y44.1 y44.2))) else (some (.out (s32,s33))))
def legal_Check_L2 (n:Nat)  (v0_p:S_api_Prog) (y53:(Int×Int×(List ((List UInt8)×Int)))):Nat→Int→(List ((List UInt8)×(List ((List UInt8)×Int))))→Int→Int→Option (LR (Int×Int×(List ((List UInt8)×(List ((List UInt8)×Int))))) (Int×Int))
  | 0,_,_,_,_=>none
  | k61+1,s57,s58,s59,s60=>(bif decide (s57<((v0_p.f_Threads.length:Nat):Int)) then ((idx v0_p.f_Threads s57).bind fun x70=>((m_legal_checker_thread n s57 x70 v0_p.f_Mod v0_p.f_Locs v0_p.f_Threads v0_p.f_Claims s59 s60 y53.2.2 s58).bind fun y71=>(legal_Check_L2 n v0_p y53 k61 (IntKind.i64.wrap (s57+1)) y71.2.2 y71.1 y71.2.1))) else (some (.out (s59,s60,s58))))
def legal_Check_L3 (n:Nat)  (v0_p:S_api_Prog) (y53:(Int×Int×(List ((List UInt8)×Int)))) (x76:(List ((List UInt8)×(List ((List UInt8)×Int))))):Nat→Int→Int→Int→Option (LR (Int×Int) (Int×Int))
  | 0,_,_,_=>none
  | k80+1,s77,s78,s79=>(bif decide (s77<((v0_p.f_Claims.length:Nat):Int)) then ((idx v0_p.f_Claims s77).bind fun x89=>((m_legal_checker_claim n s77 x89 v0_p.f_Mod v0_p.f_Locs v0_p.f_Threads v0_p.f_Claims s78 s79 y53.2.2 x76).bind fun y90=>(legal_Check_L3 n v0_p y53 x76 k80 (IntKind.i64.wrap (s77+1)) y90.1 y90.2))) else (some (.out (s78,s79))))
def m_legal_Check:Nat→S_api_Prog→Option (Int×Int)
  | 0,_=>none
  | n+1,v0_p=>((m_prog_Right n v0_p).bind fun y1=>(bif y1 then (bif decide (2≤v0_p.f_Mod) then ((m_legal_checker_must n (decide (v0_p.f_Mod≤16)) 11 0 v0_p.f_Mod v0_p.f_Locs v0_p.f_Threads v0_p.f_Claims 0 0 ([]:(List ((List UInt8)×Int))) ([]:(List ((List UInt8)×(List ((List UInt8)×Int)))))).bind fun y5=>((m_legal_checker_vars n v0_p.f_Mod v0_p.f_Locs v0_p.f_Threads v0_p.f_Claims y5.2.1 y5.2.2 ([]:(List ((List UInt8)×Int))) ([]:(List ((List UInt8)×(List ((List UInt8)×Int)))))).bind fun y7=>((m_legal_checker_must n (decide (0<((v0_p.f_Threads.length:Nat):Int))) 12 0 v0_p.f_Mod v0_p.f_Locs v0_p.f_Threads v0_p.f_Claims y7.1 y7.2.1 y7.2.2 ([]:(List ((List UInt8)×(List ((List UInt8)×Int)))))).bind fun y9=>((legal_Check_L0 n v0_p y7 n 0 ([]:(List ((List UInt8)×(List ((List UInt8)×Int))))) y9.2.1 y9.2.2).bind fun o22=>match o22 with|.out (x28,x29,x30)=>((legal_Check_L1 n v0_p y7 x30 n 0 x28 x29).bind fun o41=>match o41 with|.out (x47,x48)=>(some (x47,x48))|.ret v=>some v)|.ret v=>some v)))) else ((m_legal_checker_must n false 11 0 v0_p.f_Mod v0_p.f_Locs v0_p.f_Threads v0_p.f_Claims 0 0 ([]:(List ((List UInt8)×Int))) ([]:(List ((List UInt8)×(List ((List UInt8)×Int)))))).bind fun y51=>((m_legal_checker_vars n v0_p.f_Mod v0_p.f_Locs v0_p.f_Threads v0_p.f_Claims y51.2.1 y51.2.2 ([]:(List ((List UInt8)×Int))) ([]:(List ((List UInt8)×(List ((List UInt8)×Int)))))).bind fun y53=>((m_legal_checker_must n (decide (0<((v0_p.f_Threads.length:Nat):Int))) 12 0 v0_p.f_Mod v0_p.f_Locs v0_p.f_Threads v0_p.f_Claims y53.1 y53.2.1 y53.2.2 ([]:(List ((List UInt8)×(List ((List UInt8)×Int)))))).bind fun y55=>((legal_Check_L2 n v0_p y53 n 0 ([]:(List ((List UInt8)×(List ((List UInt8)×Int))))) y55.2.1 y55.2.2).bind fun o68=>match o68 with|.out (x74,x75,x76)=>((legal_Check_L3 n v0_p y53 x76 n 0 x74 x75).bind fun o87=>match o87 with|.out (x93,x94)=>(some (x93,x94))|.ret v=>some v)|.ret v=>some v))))) else (some (8,0))))
def legal_Index_L0 (n:Nat)  (v0_l:(List (List UInt8))) (v1_name:(List UInt8)):Nat→Int→Option (LR Unit Int)
  | 0,_=>none
  | k2+1,s1=>(bif decide (s1<((v0_l.length:Nat):Int)) then ((idx v0_l s1).bind fun x11=>(bif (x11==v1_name) then (some (.ret s1)) else (legal_Index_L0 n v0_l v1_name k2 (IntKind.i64.wrap (s1+1))))) else (some (.out ())))
def m_legal_Index:Nat→(List (List UInt8))→(List UInt8)→Option Int
  | 0,_,_=>none
  | n+1,v0_l,v1_name=>((legal_Index_L0 n v0_l v1_name n 0).bind fun o9=>match o9 with|.out _=>(some (-1))|.ret v=>some v)
def legal_Locs_L0 (n:Nat)  (v0_p:S_api_Prog):Nat→Int→(List (List UInt8))→Option (LR (List (List UInt8)) (List (List UInt8)))
  | 0,_,_=>none
  | k3+1,s1,s2=>(bif decide (s1<((v0_p.f_Locs.length:Nat):Int)) then ((idx v0_p.f_Locs s1).bind fun x12=>(bif decide ((s2.length+1) * 17≤140737488355328) then (legal_Locs_L0 n v0_p k3 (IntKind.i64.wrap (s1+1)) (s2++([x12.f_Name]:List (List UInt8)))) else none)) else (some (.out s2)))
def m_legal_Locs:Nat→S_api_Prog→Option (List (List UInt8))
  | 0,_=>none
  | n+1,v0_p=>((legal_Locs_L0 n v0_p n 0 ([]:List (List UInt8))).bind fun o10=>match o10 with|.out x16=>(some x16)|.ret v=>some v)
def m_law05_parsed:Nat→(List UInt8)→Option S_api_Prog
  | 0,_=>none
  | n+1,v0_s=>((m_ref04_Parse n v0_s).bind fun y1=>(some y1.1))
def m_law05_known:Nat→Option Bool
  | 0=>none
  | n+1=>((m_law05_parsed n ([109,111,100,32,50,59,32,108,111,99,32,120,32,61,32,48,59,32,116,104,114,101,97,100,32,116,32,123,32,108,111,97,100,32,97,32,61,32,120,59,32,125]:List UInt8)).bind fun y1=>((m_legal_Check n y1).bind fun y3=>((m_law05_parsed n ([109,111,100,32,50,59,32,116,104,114,101,97,100,32,116,32,123,32,114,101,103,32,97,59,32,115,101,116,32,97,32,61,32,50,59,32,125]:List UInt8)).bind fun y5=>((m_legal_Check n y5).bind fun y7=>((m_law05_parsed n ([109,111,100,32,50,59,32,116,104,114,101,97,100,32,116,32,123,32,105,102,32,49,32,123,32,98,114,101,97,107,59,32,125,32,125]:List UInt8)).bind fun y9=>((m_legal_Check n y9).bind fun y11=>((m_law05_parsed n (List.append ([109,111,100,32,50,59,32,108,111,99,32,120,32,61,32,48,59,32,116,104,114,101,97,100,32,116,32,123,32,114,101,103,32,97,59,32,108,111,111,112,32]:List UInt8) ([123,32,108,111,97,100,32,97,32,61,32,120,59,32,98,114,101,97,107,59,32,125,32,125,32,97,108,119,97,121,115,32,116,46,97,32,61,61,32,120,59]:List UInt8))).bind fun y13=>((m_legal_Check n y13).bind fun y15=>(bif (y3.1==9) then (bif (y3.2==29) then (bif (y7.1==11) then (bif (y7.2==33) then (bif (y11.1==13) then (bif (y11.2==25) then (bif (y15.1==0) then (bif (y15.2==0) then ((m_legal_Index n ([([97]:List UInt8),([98]:List UInt8)]:List (List UInt8)) ([98]:List UInt8)).bind fun y25=>(bif (y25==1) then ((m_legal_Index n ([]:List (List UInt8)) ([98]:List UInt8)).bind fun y28=>(bif (y28==(-1)) then ((m_law05_parsed n ([109,111,100,32,50,59,32,108,111,99,32,120,32,61,32,48,59]:List UInt8)).bind fun y31=>((m_legal_Locs n y31).bind fun y33=>(some (((y33.length:Nat):Int)==1)))) else (some false))) else (some false))) else (some false)) else (some false)) else (some false)) else (some false)) else (some false)) else (some false)) else (some false)) else (some false))))))))))
def law05_LegalMore_L0 (n:Nat)  (v0_p:S_api_Prog):Nat→Bool→Int→Option (LR Bool Bool)
  | 0,_,_=>none
  | k19+1,s17,s18=>(bif decide (s18<((v0_p.f_Threads.length:Nat):Int)) then (bif s17 then (law05_LegalMore_L0 n v0_p k19 true (IntKind.i64.wrap (s18+1))) else ((idx v0_p.f_Threads s18).bind fun x29=>((m_legal_Index n x29.f_Regs ([102,114,101,115,104,95,110,97,109,101]:List UInt8)).bind fun y30=>(law05_LegalMore_L0 n v0_p k19 (decide (0≤y30)) (IntKind.i64.wrap (s18+1)))))) else (some (.out s17)))
def m_law05_LegalMore:Nat→S_api_Prog→Int→Option Bool
  | 0,_,_=>none
  | n+1,v0_p,v1_n=>((m_ref04_Light n v0_p).bind fun y1=>(bif y1 then ((m_legal_Check n v0_p).bind fun y4=>(bif (y4.1 != 0) then ((m_law05_known n ).bind fun y7=>(some y7)) else (bif decide (v0_p.f_Locs.length * 33≤140737488355328) then (bif decide (v0_p.f_Mod=0) then none else (bif decide ((v0_p.f_Locs.length+1) * 33≤140737488355328) then ((m_legal_Locs n v0_p).bind fun y13=>((m_legal_Index n y13 ([102,114,101,115,104,95,110,97,109,101]:List UInt8)).bind fun y15=>((law05_LegalMore_L0 n v0_p n (decide (0≤y15)) 0).bind fun o26=>match o26 with|.out x33=>((m_legal_Check n (⟨v0_p.f_Mod,(v0_p.f_Locs++([(⟨([102,114,101,115,104,95,110,97,109,101]:List UInt8),(Int.tmod (IntKind.i64.wrap v1_n) v0_p.f_Mod),7⟩:S_api_Var)]:List S_api_Var)),v0_p.f_Threads,v0_p.f_Claims⟩:S_api_Prog)).bind fun y34=>(bif decide (6≤((v0_p.f_Locs.length:Nat):Int)) then (bif (y34.1==12) then (bif (y34.2==7) then ((m_law05_known n ).bind fun y39=>(some y39)) else (some false)) else (some false)) else (bif ((y34.1==0)==(!x33)) then ((m_law05_known n ).bind fun y42=>(some y42)) else (some false))))|.ret v=>some v))) else none)) else none))) else ((m_law05_known n ).bind fun y45=>(some y45))))
end Go.Proofs.Ytpnhafdimkmbbaa
end
section
namespace Go.Proofs.Ytpnhafdimkmbbaa
set_option linter.unusedVariables false
set_option linter.unusedSimpArgs false
theorem idx_get {α : Type} {l : List α} {i : Nat} (h : i < l.length) : idx l (i : Int) = some l[i] := by rw [idx_nat, List.getElem?_eq_getElem h]
theorem wrap_one (k : Nat) (h : k < 4611686018427387904) : IntKind.i64.wrap ((k : Int) + 1) = ((k + 1 : Nat) : Int) := wrap_succ k (by omega)
theorem bif_decide {α : Type} {p : Prop} [Decidable p] (h : p) (a b : α) : (bif decide p then a else b) = a := by rw [decide_eq_true h]; rfl
theorem bif_not {α : Type} {p : Prop} [Decidable p] (h : ¬ p) (a b : α) : (bif decide p then a else b) = b := by rw [decide_eq_false h]; rfl
theorem natEq (a b : Nat) : ((a : Int) == (b : Int)) = (a == b) := by
  by_cases h : a = b
  · subst h; simp
  · have : ¬ (a : Int) = (b : Int) := by omega
    rw [beq_eq_false_iff_ne.2 h, beq_eq_false_iff_ne.2 this]
theorem natNe (a b : Nat) : ((a : Int) != (b : Int)) = !(a == b) := by rw [← natEq]; rfl
end Go.Proofs.Ytpnhafdimkmbbaa
end
section
namespace Go.Proofs.Ytpnhafdimkmbbaa
set_option linter.unusedVariables false
set_option linter.unusedSimpArgs false
theorem loop_list {α σ ρ : Type} (l : List α) (L : Nat → Nat → σ → Option ρ) (F : List α → σ → Option ρ) (Inv : Nat → σ → Prop)
    (h0 : ∀ k s, Inv l.length s → L (k + 1) l.length s = F [] s)
    (h1 : ∀ k i s x, i < l.length → l[i]? = some x → Inv i s → (∀ s', Inv (i + 1) s' → L k (i + 1) s' = F (l.drop (i + 1)) s') → L (k + 1) i s = F (x :: l.drop (i + 1)) s) :
    ∀ (m k i : Nat) (s : σ), i + m = l.length → m < k → Inv i s → L k i s = F (l.drop i) s := by
  intro m
  induction m with
  | zero =>
    intro k i s hi hk hs
    obtain ⟨k, rfl⟩ : ∃ j, k = j + 1 := ⟨k - 1, by omega⟩
    obtain rfl : i = l.length := by omega
    rw [h0 k s hs, List.drop_length]
  | succ m ih =>
    intro k i s hi hk hs
    obtain ⟨k, rfl⟩ : ∃ j, k = j + 1 := ⟨k - 1, by omega⟩
    have hlt : i < l.length := by omega
    rw [h1 k i s l[i] hlt (List.getElem?_eq_getElem hlt) hs (fun s' hs' => ih k (i + 1) s' (by omega) (by omega) hs'), List.drop_eq_getElem_cons hlt]
theorem loop_list0 {α σ ρ : Type} (l : List α) (L : Nat → Nat → σ → Option ρ) (F : List α → σ → Option ρ) (Inv : Nat → σ → Prop) {k : Nat} {s : σ} (hk : l.length < k) (hs : Inv 0 s)
    (h0 : ∀ k s, Inv l.length s → L (k + 1) l.length s = F [] s)
    (h1 : ∀ k i s x, i < l.length → l[i]? = some x → Inv i s → (∀ s', Inv (i + 1) s' → L k (i + 1) s' = F (l.drop (i + 1)) s') → L (k + 1) i s = F (x :: l.drop (i + 1)) s) :
    L k 0 s = F l s := loop_list l L F Inv h0 h1 l.length k 0 s (by omega) hk hs
theorem idx_some {α : Type} {l : List α} {i : Nat} {x : α} (h : l[i]? = some x) : idx l (i : Int) = some x := by rw [idx_nat, h]
theorem op_cases (op : Int) : op < 1 ∨ 15 ≤ op ∨ op = 1 ∨ op = 2 ∨ op = 3 ∨ op = 4 ∨ op = 5 ∨ op = 6 ∨ op = 7 ∨ op = 8 ∨ op = 9 ∨ op = 10 ∨ op = 11 ∨ op = 12 ∨ op = 13 ∨ op = 14 := by omega
theorem u8_range {a : Int} (h : (Lit.int .u8 a).wf = true) : 0 ≤ a ∧ a ≤ 255 := by simpa [Lit.wf, IntKind.min, IntKind.max, IntKind.bits, IntKind.signed] using h
theorem all_list {α : Type} (l : List α) (L : Nat → Nat → Option (LR Unit Bool)) (p : α → Bool) (h0 : ∀ k, L (k + 1) l.length = some (.out ()))
    (h1 : ∀ k i x, i < l.length → l[i]? = some x → L (k + 1) i = bif p x then L k (i + 1) else some (.ret false)) {k : Nat} (hk : l.length < k) : L k 0 = bif l.all p then some (.out ()) else some (.ret false) := by
  refine loop_list0 l (fun k i (_ : Unit) => L k i) (fun l _ => bif l.all p then some (.out ()) else some (.ret false)) (fun _ _ => True) (s := ()) hk trivial (fun k s _ => h0 k) ?_
  intro k i s x hi hx _ ih
  rw [h1 k i x hi hx, ih () trivial, List.all_cons]
  cases p x <;> rfl
theorem map_list {α β ν : Type} (l : List α) (f : α → β) (L : Nat → Nat → List β → Option (LR (List β) ν)) (h0 : ∀ k s, L (k + 1) l.length s = some (.out s))
    (h1 : ∀ k i x s, i < l.length → l[i]? = some x → s.length = i → L (k + 1) i s = L k (i + 1) (s ++ [f x])) {k : Nat} (hk : l.length < k) : L k 0 [] = some (.out (l.map f)) := by
  have := loop_list0 l L (fun l s => some (.out (s ++ l.map f))) (fun i s => s.length = i) (s := []) hk rfl (fun k s _ => by rw [h0 k]; simp) ?_
  · rw [this]; rfl
  · intro k i s x hi hx hs ih
    rw [h1 k i x s hi hx hs, ih _ (by simp [hs])]; simp
theorem any_list {α : Type} (l : List α) (L : Nat → Nat → Option (LR Unit Bool)) (p : α → Bool) (h0 : ∀ k, L (k + 1) l.length = some (.out ()))
    (h1 : ∀ k i x, i < l.length → l[i]? = some x → L (k + 1) i = bif p x then some (.ret true) else L k (i + 1)) {k : Nat} (hk : l.length < k) : L k 0 = bif l.any p then some (.ret true) else some (.out ()) := by
  refine loop_list0 l (fun k i (_ : Unit) => L k i) (fun l _ => bif l.any p then some (.ret true) else some (.out ())) (fun _ _ => True) (s := ()) hk trivial (fun k s _ => h0 k) ?_
  intro k i s x hi hx _ ih
  rw [h1 k i x hi hx, ih () trivial, List.any_cons]
  cases p x <;> rfl
end Go.Proofs.Ytpnhafdimkmbbaa
end
section
namespace Go.Proofs.Ytpnhafdimkmbbaa
set_option linter.unusedVariables false
set_option linter.unusedSimpArgs false
abbrev Nd := S_api_Node
def kidsF (op : Int) : Int := if 1 ≤ op ∧ op ≤ 4 then 0 else if op = 5 then 1 else if 6 ≤ op ∧ op ≤ 14 then 2 else -1
theorem kids_m (n : Nat) (op : Int) : m_expr_kids (n + 1) op = some (kidsF op) := by
  rcases op_cases op with h | h | h | h | h | h | h | h | h | h | h | h | h | h | h | h
  · have : kidsF op = -1 := by unfold kidsF; rw [if_neg (by omega), if_neg (by omega), if_neg (by omega)]
    rw [m_expr_kids, this, bif_not (show ¬ 1 ≤ op by omega), beq_eq_false_iff_ne.2 (show op ≠ 5 by omega), cond_false, bif_not (show ¬ 6 ≤ op by omega)]
  · have : kidsF op = -1 := by unfold kidsF; rw [if_neg (by omega), if_neg (by omega), if_neg (by omega)]
    rw [m_expr_kids, this, bif_decide (show 1 ≤ op by omega), bif_not (show ¬ op ≤ 4 by omega), beq_eq_false_iff_ne.2 (show op ≠ 5 by omega), cond_false, bif_decide (show 6 ≤ op by omega), bif_not (show ¬ op ≤ 14 by omega)]
  all_goals rw [h]; rfl
inductive Tr where
  | leaf (x : Nd)
  | un (x : Nd) (a : Tr)
  | bin (x : Nd) (a b : Tr)
def Tr.flat : Tr → List Nd
  | .leaf x => [x]
  | .un x a => x :: a.flat
  | .bin x a b => x :: (a.flat ++ b.flat)
def Tr.wf : Tr → Prop
  | .leaf x => kidsF x.f_Op = 0
  | .un x a => kidsF x.f_Op = 1 ∧ a.wf
  | .bin x a b => kidsF x.f_Op = 2 ∧ a.wf ∧ b.wf
def Tr.dep : Tr → Nat
  | .leaf _ => 0
  | .un _ a => 1 + a.dep
  | .bin _ a b => 1 + max a.dep b.dep
def endF : List Nd → Nat → Option Nat
  | [], _ => none
  | x :: l, w => if kidsF x.f_Op < 0 then none else if (w : Int) + kidsF x.f_Op - 1 = 0 then some 1 else (endF l ((w : Int) + kidsF x.f_Op - 1).toNat).map (· + 1)
theorem kids_cases (op : Int) : kidsF op = -1 ∨ kidsF op = 0 ∨ kidsF op = 1 ∨ kidsF op = 2 := by
  unfold kidsF
  repeat' split
  all_goals omega
def endS (l : List Nd) (i : Int) : Int := if i < 0 then -1 else match endF (l.drop i.toNat) 1 with
  | some j => i + j
  | none => -1
def outI (d : Int) (r : LR Unit Int) : Int := match r with
  | .out _ => d
  | .ret v => v
theorem end_L (n : Nat) (l : List Nd) (hl : l.length < 1000000) : ∀ (m k i w : Nat), i + m = l.length → m < k → 1 ≤ w → w ≤ i + 2 →
    (expr_End_L0 (n + 1) l k (i : Int) (w : Int)).map (outI (-1)) = some (match endF (l.drop i) w with | some j => (i : Int) + j | none => -1) := by
  intro m
  induction m with
  | zero =>
    intro k i w hi hk hw hb
    obtain ⟨k, rfl⟩ : ∃ j, k = j + 1 := ⟨k - 1, by omega⟩
    rw [expr_End_L0, bif_not (by omega), List.drop_of_length_le (by omega)]; rfl
  | succ m ih =>
    intro k i w hi hk hw hb
    obtain ⟨k, rfl⟩ : ∃ j, k = j + 1 := ⟨k - 1, by omega⟩
    have hlt : i < l.length := by omega
    rw [expr_End_L0, bif_decide (by omega), idx_get hlt, List.drop_eq_getElem_cons hlt, endF, Option.bind_some, kids_m, Option.bind_some, wrap_one i (by omega)]
    rcases kids_cases l[i].f_Op with g | g | g | g
    · rw [g, bif_decide (by omega), if_pos (by omega)]; rfl
    all_goals rw [g, bif_not (by omega), if_neg (by omega)]
    · rw [wrap64 (n := 0 - 1) (by omega), wrap64 (by omega)]
      by_cases c : w = 1
      · subst c; rw [if_pos (by omega)]; rfl
      · rw [if_neg (by omega), beq_eq_false_iff_ne.2 (by omega), cond_false, show (w : Int) + (0 - 1) = ((w - 1 : Nat) : Int) by omega, ih k (i + 1) (w - 1) (by omega) (by omega) (by omega) (by omega), show ((w : Int) + 0 - 1).toNat = w - 1 by omega]
        cases endF (l.drop (i + 1)) (w - 1) with
        | none => rfl
        | some j => exact congrArg some (by show ((i + 1 : Nat) : Int) + (j : Int) = (i : Int) + ((j + 1 : Nat) : Int); omega)
    · rw [wrap64 (n := 1 - 1) (by omega), wrap64 (by omega), if_neg (by omega), beq_eq_false_iff_ne.2 (by omega), cond_false, show (w : Int) + (1 - 1) = (w : Int) by omega, ih k (i + 1) w (by omega) (by omega) (by omega) (by omega), show ((w : Int) + 1 - 1).toNat = w by omega]
      cases endF (l.drop (i + 1)) w with
      | none => rfl
      | some j => exact congrArg some (by show ((i + 1 : Nat) : Int) + (j : Int) = (i : Int) + ((j + 1 : Nat) : Int); omega)
    · rw [wrap64 (n := 2 - 1) (by omega), wrap64 (by omega), if_neg (by omega), beq_eq_false_iff_ne.2 (by omega), cond_false, show (w : Int) + (2 - 1) = ((w + 1 : Nat) : Int) by omega, ih k (i + 1) (w + 1) (by omega) (by omega) (by omega) (by omega), show ((w : Int) + 2 - 1).toNat = w + 1 by omega]
      cases endF (l.drop (i + 1)) (w + 1) with
      | none => rfl
      | some j => exact congrArg some (by show ((i + 1 : Nat) : Int) + (j : Int) = (i : Int) + ((j + 1 : Nat) : Int); omega)
theorem lr_map {τ : Type} {o : Option (LR Unit Int)} {d r : Int} (h : o.map (outI d) = some r) : (o.bind fun o11 => match o11 with | .out _ => some d | .ret v => some v) = some r := by
  obtain ⟨x, rfl, h2⟩ := Option.map_eq_some_iff.1 h
  cases x <;> exact congrArg some h2
theorem end_m (n : Nat) (l : List Nd) (i : Int) (hl : l.length < 1000000) (hn : l.length + 4 < n) : m_expr_End n l i = some (endS l i) := by
  obtain ⟨n, rfl⟩ : ∃ j, n = j + 2 := ⟨n - 2, by omega⟩
  rw [m_expr_End, endS]
  by_cases c : i < 0
  · rw [bif_decide c, if_pos c]
  · rw [bif_not c, if_neg c]
    by_cases c2 : i.toNat ≤ l.length
    · have := end_L n l hl (l.length - i.toNat) (n + 1) i.toNat 1 (by omega) (by omega) (by omega) (by omega)
      rw [show ((i.toNat : Nat) : Int) = i by omega] at this
      exact lr_map (τ := Unit) this
    · have e : expr_End_L0 (n + 1) l (n + 1) i 1 = some (.out ()) := by rw [expr_End_L0, bif_not (by omega)]
      rw [e, List.drop_of_length_le (by omega)]; rfl
def closeF : List Int → List Int
  | [] => []
  | a :: r => if 0 < a - 1 then (a - 1) :: r else closeF r
def depF : List Nd → Int × List Int → Int × List Int
  | [], s => s
  | x :: l, (m, R) => if 0 < kidsF x.f_Op then depF l (if m < (R.length : Int) then (R.length : Int) else m, kidsF x.f_Op :: R) else depF l (if m < (R.length : Int) then (R.length : Int) else m, closeF R)
theorem close_L (n : Nat) : ∀ (R : List Int) (k : Nat), R.length < k → R.length < 1000000 → (∀ v ∈ R, 1 ≤ v ∧ v ≤ 2) → expr_depth_L1 n k R.reverse = some (.out (closeF R).reverse) := by
  intro R
  induction R with
  | nil =>
    intro k hk _ _
    obtain ⟨k, rfl⟩ : ∃ j, k = j + 1 := ⟨k - 1, by omega⟩
    rw [expr_depth_L1, List.reverse_nil]; rfl
  | cons a R ih =>
    intro k hk hl hv
    obtain ⟨k, rfl⟩ : ∃ j, k = j + 1 := ⟨k - 1, by omega⟩
    have ha := hv a (List.mem_cons_self ..)
    rw [List.length_cons] at hl
    have hlen : (a :: R).reverse.length = R.length + 1 := by simp
    have w : IntKind.i64.wrap (((R.length + 1 : Nat) : Int) - 1) = (R.length : Int) := by rw [wrap64 (by omega)]; omega
    have hset : ∀ v : Int, ((a :: R).reverse).set R.length v = R.reverse ++ [v] := by
      intro v; rw [List.reverse_cons, List.set_append_right _ _ (by simp)]; simp
    have g1 : idx (a :: R).reverse (R.length : Int) = some a := by rw [idx_nat, List.reverse_cons, List.getElem?_append_right (by simp)]; simp
    have g2 : ∀ v : Int, idx (R.reverse ++ [v]) (R.length : Int) = some v := by intro v; rw [idx_nat, List.getElem?_append_right (by simp)]; simp
    rw [expr_depth_L1, hlen, bif_decide (by omega), w, g1]
    simp only [Option.bind_some, Int.toNat_natCast, hset, g2]
    rw [wrap64 (n := a - 1) (by omega), closeF]
    by_cases c : 0 < a - 1
    · rw [bif_decide c, if_pos c, List.reverse_cons]
    · have c2 : (decide (0 ≤ (R.length : Int)) && decide ((R.length : Int) ≤ (((R.reverse ++ [a - 1]).length : Nat) : Int))) = true := by
        rw [decide_eq_true (by omega), decide_eq_true (by simp; omega)]; rfl
      have e : List.take R.length (R.reverse ++ [a - 1]) = R.reverse := by
        rw [List.take_append_of_le_length (by simp), List.take_of_length_le (by simp)]
      rw [bif_not c, if_neg c, c2, cond_true, e]
      exact ih k (by rw [List.length_cons] at hk; omega) (by omega) (fun v h => hv v (List.mem_cons_of_mem _ h))
theorem closeF_ok : ∀ (R : List Int), (∀ v ∈ R, 1 ≤ v ∧ v ≤ 2) → (∀ v ∈ closeF R, 1 ≤ v ∧ v ≤ 2) ∧ (closeF R).length ≤ R.length := by
  intro R
  induction R with
  | nil => intro h; exact ⟨h, Nat.le_refl _⟩
  | cons a R ih =>
    intro h
    have ha := h a (List.mem_cons_self ..)
    have hR : ∀ v ∈ R, 1 ≤ v ∧ v ≤ 2 := fun v hv => h v (List.mem_cons_of_mem _ hv)
    rw [closeF]
    split
    · exact ⟨fun v hv => by rcases List.mem_cons.1 hv with rfl | hv; exact ⟨by omega, by omega⟩; exact hR v hv, by simp⟩
    · exact ⟨(ih hR).1, by have := (ih hR).2; simp; omega⟩
theorem depth_L (n : Nat) (l : List Nd) (hl : l.length < 100000) (hn : l.length + 2 < n) {k : Nat} (hk : l.length < k) : expr_depth_L0 n l k 0 0 [] = some (.out ((depF l (0, [])).1, (depF l (0, [])).2.reverse)) := by
  refine loop_list0 l (fun k i (s : Int × List Int) => expr_depth_L0 n l k s.1 (i : Int) s.2.reverse) (fun l s => some (.out ((depF l s).1, (depF l s).2.reverse)))
    (fun i s => s.2.length ≤ i ∧ ∀ v ∈ s.2, 1 ≤ v ∧ v ≤ 2) (s := (0, [])) hk ⟨Nat.le_refl _, by simp⟩ ?_ ?_
  · intro k s hs
    rw [expr_depth_L0, bif_not (by omega)]; rfl
  · rintro k i ⟨m, R⟩ x hi hx ⟨r1, r2⟩ ih
    dsimp only at r1 r2 ⊢
    obtain ⟨n, rfl⟩ : ∃ j, n = j + 1 := ⟨n - 1, by omega⟩
    rw [expr_depth_L0, bif_decide (by omega), idx_some hx, Option.bind_some, kids_m, Option.bind_some, wrap_one i (by omega), List.length_reverse, depF]
    by_cases c : 0 < kidsF x.f_Op
    · rw [bif_decide c, if_pos c, bif_decide (by omega), ← List.reverse_cons]
      refine ih (_, _ :: R) ⟨by simp; omega, fun v hv => ?_⟩
      rcases List.mem_cons.1 hv with rfl | hv
      · rcases kids_cases x.f_Op with g | g | g | g <;> omega
      · exact r2 v hv
    · have hc := closeF_ok R r2
      rw [bif_not c, if_neg c, close_L (n + 1) R (n + 1) (by omega) (by omega) r2, Option.bind_some]
      exact ih (_, closeF R) ⟨by dsimp only; omega, hc.1⟩
end Go.Proofs.Ytpnhafdimkmbbaa
end
section
namespace Go.Proofs.Ytpnhafdimkmbbaa
set_option linter.unusedVariables false
set_option linter.unusedSimpArgs false
def nodeOk (x : Nd) : Bool := !decide (x.f_At < 0) && (if x.f_Op = 1 then decide (0 ≤ x.f_N ∧ x.f_N ≤ 9999) && (x.f_Name == [] && x.f_In == [])
  else if x.f_Op = 2 ∨ x.f_Op = 3 then x.f_N == 0 && (nameB x.f_Name && x.f_In == []) else if x.f_Op = 4 then x.f_N == 0 && (nameB x.f_Name && nameB x.f_In) else x.f_N == 0 && (x.f_Name == [] && x.f_In == []))
theorem fits_m (n : Nat) (x : Nd) : m_expr_fits (n + 2) x = some (nodeOk x) := by
  rw [m_expr_fits, nodeOk]
  by_cases c : x.f_At < 0
  · rw [bif_decide c, decide_eq_true c]; rfl
  rw [bif_not c, decide_eq_false c]
  simp only [m_scan_Name, Option.bind_some, beq_self_eq_true, Bool.true_and, Bool.and_true, Bool.not_false]
  by_cases c1 : x.f_Op = 1
  · rw [if_pos c1, c1]
    simp only [beq_self_eq_true, cond_true]
    cases (x.f_Name == []) <;> cases (x.f_In == []) <;> by_cases h : 0 ≤ x.f_N <;> by_cases h2 : x.f_N ≤ 9999 <;> simp [h, h2]
  rw [if_neg c1, beq_eq_false_iff_ne.2 c1]
  by_cases c4 : x.f_Op = 4
  · rw [if_neg (by omega), if_pos c4, c4]
    simp only [beq_self_eq_true, cond_true, cond_false]
    cases nameB x.f_In <;> cases nameB x.f_Name <;> cases (x.f_N == 0) <;> rfl
  rw [if_neg c4, beq_eq_false_iff_ne.2 c4]
  by_cases c2 : x.f_Op = 2
  · rw [if_pos (.inl c2), c2]
    simp only [beq_self_eq_true, cond_true, cond_false]
    cases nameB x.f_Name <;> cases (x.f_N == 0) <;> cases (x.f_In == []) <;> rfl
  rw [beq_eq_false_iff_ne.2 c2]
  by_cases c3 : x.f_Op = 3
  · rw [if_pos (.inr c3), c3]
    simp only [beq_self_eq_true, cond_true, cond_false]
    cases nameB x.f_Name <;> cases (x.f_N == 0) <;> cases (x.f_In == []) <;> rfl
  rw [if_neg (by omega), beq_eq_false_iff_ne.2 c3]
  rfl
def exprOk (l : List Nd) : Bool := decide (1 ≤ l.length ∧ l.length ≤ 200) && (decide (endF l 1 = some l.length) && (l.all nodeOk && decide ((depF l (0, [])).1 ≤ 30)))
theorem depth_m2 (n : Nat) (l : List Nd) (hl : l.length < 100000) (hn : l.length + 4 < n) : m_expr_depth n l = some (depF l (0, [])).1 := by
  obtain ⟨n, rfl⟩ : ∃ j, n = j + 1 := ⟨n - 1, by omega⟩
  rw [m_expr_depth, depth_L n l hl (by omega) (by omega)]; rfl
theorem endS0 (l : List Nd) (hl : 1 ≤ l.length) : (endS l 0 != (l.length : Int)) = !decide (endF l 1 = some l.length) := by
  have e : endS l 0 = match endF l 1 with | some j => ((j : Nat) : Int) | none => -1 := by
    rw [endS, if_neg (by omega)]
    show (match endF l 1 with | some j => (0 : Int) + (j : Int) | none => -1) = _
    cases endF l 1 with
    | none => rfl
    | some j => simp
  rw [e]
  cases endF l 1 with
  | none =>
    show ((-1 : Int) != (l.length : Int)) = _
    rw [bne_iff_ne.2 (by omega)]; simp
  | some j =>
    show (((j : Nat) : Int) != (l.length : Int)) = _
    rw [natNe]
    by_cases h : j = l.length <;> simp [h]
theorem eright_m (n : Nat) (l : List Nd) (hl : l.length < 100000) (hn : l.length + 20 < n) : m_expr_Right n l = some (exprOk l) := by
  obtain ⟨n, rfl⟩ : ∃ j, n = j + 3 := ⟨n - 3, by omega⟩
  rw [m_expr_Right, exprOk]
  by_cases c1 : l.length = 0
  · rw [beq_iff_eq.2 (show ((l.length : Nat) : Int) = 0 by omega), decide_eq_false (show ¬ (1 ≤ l.length ∧ l.length ≤ 200) by omega)]; rfl
  rw [beq_eq_false_iff_ne.2 (show ((l.length : Nat) : Int) ≠ 0 by omega)]
  by_cases c2 : 200 < (l.length : Int)
  · rw [bif_decide c2, decide_eq_false (show ¬ (1 ≤ l.length ∧ l.length ≤ 200) by omega)]; rfl
  have hL : expr_Right_L0 (n + 2) l (n + 2) 0 = bif l.all nodeOk then some (.out ()) else some (.ret false) := by
    refine all_list l (fun k i => expr_Right_L0 (n + 2) l k (i : Int)) _ (fun k => ?_) (fun k i x hi hx => ?_) (by omega)
    · rw [expr_Right_L0, bif_not (by omega)]
    · rw [expr_Right_L0, bif_decide (by omega), idx_some hx, Option.bind_some, fits_m, Option.bind_some, wrap_one i (by omega)]
  rw [bif_not c2, end_m (n + 2) l 0 (by omega) (by omega), Option.bind_some, endS0 l (by omega), hL, decide_eq_true (show 1 ≤ l.length ∧ l.length ≤ 200 by omega)]
  simp only [cond_false, depth_m2 (n + 2) l hl (by omega)]
  cases decide (endF l 1 = some l.length) with
  | false => rfl
  | true => cases l.all nodeOk <;> rfl
def lightE (l : List Nd) : Bool := decide (l.length ≤ 250) && l.all fun x => decide (x.f_Name.length ≤ 100 ∧ x.f_In.length ≤ 100)
theorem rlightE_m (n : Nat) (l : List Nd) (hn : 260 < n) : m_ref02_Light n l = some (lightE l) := by
  obtain ⟨n, rfl⟩ : ∃ j, n = j + 1 := ⟨n - 1, by omega⟩
  rw [m_ref02_Light, lightE]
  by_cases c : 250 < (l.length : Int)
  · rw [bif_decide c, decide_eq_false (by omega)]; rfl
  have hL : ref02_Light_L0 n l n 0 = bif l.all (fun x => decide (x.f_Name.length ≤ 100 ∧ x.f_In.length ≤ 100)) then some (.out ()) else some (.ret false) := by
    refine all_list l (fun k i => ref02_Light_L0 n l k (i : Int)) _ (fun k => ?_) (fun k i x hi hx => ?_) (by omega)
    · rw [ref02_Light_L0, bif_not (by omega)]
    · rw [ref02_Light_L0, bif_decide (by omega), idx_some hx, Option.bind_some, Option.bind_some, wrap_one i (by omega)]
      by_cases h1 : 100 < (x.f_Name.length : Int)
      · rw [bif_decide h1, bif_not (by omega)]
      · by_cases h2 : 100 < (x.f_In.length : Int)
        · rw [bif_not h1, bif_decide h2, bif_not (by omega)]
        · rw [bif_not h1, bif_not h2, bif_decide (by omega)]
  rw [bif_not c, hL, decide_eq_true (by omega)]
  cases List.all l _ <;> rfl
end Go.Proofs.Ytpnhafdimkmbbaa
end
section
namespace Go.Proofs.Ytpnhafdimkmbbaa
set_option linter.unusedVariables false
set_option linter.unusedSimpArgs false
def isName (x : Nd) : Bool := x.f_Op == 2 || (x.f_Op == 3 || x.f_Op == 4)
theorem filter_list {α τ : Type} (l : List α) (p : α → Bool) (L : Nat → Nat → List α → Option (LR (List α) τ)) (h0 : ∀ k s, L (k + 1) l.length s = some (.out s))
    (h1 : ∀ k i x s, i < l.length → l[i]? = some x → s.length ≤ i → L (k + 1) i s = L k (i + 1) (bif p x then s ++ [x] else s)) {k : Nat} (hk : l.length < k) : L k 0 [] = some (.out (l.filter p)) := by
  have := loop_list0 l L (fun l s => some (.out (s ++ l.filter p))) (fun i s => s.length ≤ i) (s := []) hk (Nat.le_refl _) (fun k s _ => by rw [h0 k]; simp) ?_
  · rw [this]; rfl
  · intro k i s x hi hx hs ih
    rw [h1 k i x s hi hx hs]
    cases hp : p x with
    | true => rw [cond_true, ih _ (by simp; omega)]; simp [hp]
    | false => rw [cond_false, ih _ (by omega)]; simp [hp]
theorem names_m (n : Nat) (l : List Nd) (hl : l.length < 100000) (hn : l.length + 1 < n) : m_expr_Names n l = some (l.filter isName) := by
  obtain ⟨n, rfl⟩ : ∃ j, n = j + 1 := ⟨n - 1, by omega⟩
  have : expr_Names_L0 n l n 0 [] = some (.out (l.filter isName)) := by
    refine filter_list l isName (fun k i s => expr_Names_L0 n l k (i : Int) s) (fun k s => ?_) (fun k i x s hi hx hs => ?_) (by omega)
    · rw [expr_Names_L0, bif_not (by omega)]
    · rw [expr_Names_L0, bif_decide (by omega), idx_some hx, Option.bind_some, wrap_one i (by omega), bif_decide (show (s.length + 1) * 57 ≤ 140737488355328 by omega)]
      unfold isName
      cases (x.f_Op == 2) <;> cases (x.f_Op == 3) <;> cases (x.f_Op == 4) <;> rfl
  rw [m_expr_Names, this]; rfl
end Go.Proofs.Ytpnhafdimkmbbaa
end
section
namespace Go.Proofs.Ytpnhafdimkmbbaa
set_option linter.unusedVariables false
set_option linter.unusedSimpArgs false
abbrev Tk := S_api_Token
def placeF (l : List Tk) (i : Nat) : Int := match l[i]? with
  | some t => t.f_At
  | none => match l[l.length - 1]? with
    | some t => IntKind.i64.wrap (t.f_At + ((t.f_Text.length : Nat) : Int))
    | none => 0
end Go.Proofs.Ytpnhafdimkmbbaa
end
section
namespace Go.Proofs.Ytpnhafdimkmbbaa
set_option linter.unusedVariables false
set_option linter.unusedSimpArgs false
def TkOk (t : Tk) : Prop := 0 ≤ t.f_At ∧ 0 ≤ t.f_N ∧ t.f_N ≤ 9999
end Go.Proofs.Ytpnhafdimkmbbaa
end
section
namespace Go.Proofs.Ytpnhafdimkmbbaa
set_option linter.unusedVariables false
set_option linter.unusedSimpArgs false
def bareR (x : Nd) : Nd := ⟨if x.f_Op = 3 then 2 else x.f_Op, x.f_N, x.f_Name, x.f_In, 0⟩
end Go.Proofs.Ytpnhafdimkmbbaa
end
section
namespace Go.Proofs.Ytpnhafdimkmbbaa
set_option linter.unusedVariables false
set_option linter.unusedSimpArgs false
set_option maxRecDepth 10000
abbrev St := S_api_Stmt
def plnB (x : List Nd) : Bool := (x.filter isName).all fun y => y.f_Op == 2
theorem allP_loop {F : Nat → Int → Option (LR Unit Bool)} (l : List Nd) (h0 : ∀ k i, l.length ≤ i → F (k + 1) (i : Int) = some (.out ())) (h1 : ∀ k i x, i < l.length → l[i]? = some x → F (k + 1) (i : Int) = bif x.f_Op != 2 then some (.ret false) else F k ((i + 1 : Nat) : Int)) : ∀ (m i k : Nat), l.length - i ≤ m → l.length - i < k → F k (i : Int) = some (if (l.drop i).all (fun y => y.f_Op == 2) then .out () else .ret false) := by
  intro m
  induction m with
  | zero =>
    intro i k h hk
    obtain ⟨k, rfl⟩ : ∃ j, k = j + 1 := ⟨k - 1, by omega⟩
    rw [h0 k i (by omega), List.drop_of_length_le (by omega)]; rfl
  | succ m ih =>
    intro i k h hk
    obtain ⟨k, rfl⟩ : ∃ j, k = j + 1 := ⟨k - 1, by omega⟩
    by_cases hi : i < l.length
    · rw [h1 k i _ hi (List.getElem?_eq_getElem hi), ih (i + 1) k (by omega) (by omega), List.drop_eq_getElem_cons hi, List.all_cons]
      by_cases hx : l[i].f_Op = 2
      · simp [hx]
      · have : (l[i].f_Op == 2) = false := by rw [beq_eq_false_iff_ne]; exact hx
        simp [this, bne]
    · rw [h0 k i (by omega), List.drop_of_length_le (by omega)]; rfl
structure Toks (T : Nat) (l : List Tk) : Prop where
  len : l.length < 100000
  ok : ∀ t ∈ l, TkOk t
  txt : ∀ t ∈ l, t.f_Text.length ≤ T
  small : T < 100000
end Go.Proofs.Ytpnhafdimkmbbaa
end
section
namespace Go.Proofs.Ytpnhafdimkmbbaa
set_option linter.unusedVariables false
set_option linter.unusedSimpArgs false
set_option maxRecDepth 10000
theorem Toks.at' {T : Nat} {l : List Tk} (hk : Toks T l) {i : Nat} (h : i < l.length) : placeF l i = (l[i]).f_At := by unfold placeF; rw [List.getElem?_eq_getElem h]
def txt (l : List Tk) (i : Nat) : List UInt8 := match l[i]? with | some t => t.f_Text | none => []
end Go.Proofs.Ytpnhafdimkmbbaa
end
section
namespace Go.Proofs.Ytpnhafdimkmbbaa
set_option linter.unusedVariables false
set_option linter.unusedSimpArgs false
set_option maxRecDepth 10000
def formK (k : Int) : List UInt8 :=
  if k = 2 then [114,61,101,59] else if k = 3 then [114,61,108,59] else if k = 4 then [108,61,101,59] else if k = 5 then [114,61,108,44,101,44,102,59]
  else if k = 6 then [114,61,108,44,101,59] else if k = 7 then [114,61,108,44,101,59] else if k = 9 then [108,113,101,59] else if k = 10 then [101] else if k = 11 then [101] else if k = 12 then [] else [59]
def blockK (k : Int) : Bool := k == 10 || (k == 11 || k == 12)
theorem form_len (k : Int) : (formK k).length < 10 := by unfold formK; repeat' split
                                                         all_goals decide
def wordsL : List (List UInt8) := [[], [115,107,105,112], [115,101,116], [108,111,97,100], [115,116,111,114,101], [99,97,115], [102,97,100,100], [120,99,104,103], [102,101,110,99,101], [97,119,97,105,116], [105,102], [119,104,105,108,101], [108,111,111,112], [98,114,101,97,107]]
end Go.Proofs.Ytpnhafdimkmbbaa
end
section
namespace Go.Proofs.Ytpnhafdimkmbbaa
set_option linter.unusedVariables false
set_option linter.unusedSimpArgs false
set_option maxRecDepth 10000
def kindsL : List S_stmt_kind := match m_stmt_kinds 1 with | some y => y | none => []
end Go.Proofs.Ytpnhafdimkmbbaa
end
section
namespace Go.Proofs.Ytpnhafdimkmbbaa
set_option linter.unusedVariables false
set_option linter.unusedSimpArgs false
set_option maxRecDepth 10000
inductive SF where
  | nil
  | cons (x : St) (a b r : SF)
def SF.flat : SF → List St
  | .nil => []
  | .cons x a b r => x :: (a.flat ++ (b.flat ++ r.flat))
def SF.wf : SF → Prop
  | .nil => True
  | .cons x a b r => x.f_Body = (a.flat.length : Int) ∧ x.f_Else = (b.flat.length : Int) ∧ a.wf ∧ b.wf ∧ r.wf
def SF.dep : SF → Nat
  | .nil => 0
  | .cons x a b r => max (if blockK x.f_Kind then max (1 + a.dep) (1 + b.dep) else 0) r.dep
def dF : Nat → List St → Option Nat
  | 0, _ => none
  | _ + 1, [] => some 0
  | m + 1, x :: t => if 0 ≤ x.f_Body ∧ 0 ≤ x.f_Else ∧ x.f_Body + x.f_Else ≤ (t.length : Int) then
      (dF m (t.take x.f_Body.toNat)).bind fun p => (dF m ((t.drop x.f_Body.toNat).take x.f_Else.toNat)).bind fun q => (dF m (t.drop (x.f_Body.toNat + x.f_Else.toNat))).bind fun z => some (max (if blockK x.f_Kind then max (1 + p) (1 + q) else 0) z)
    else none
theorem of_dF : ∀ (m : Nat) (l : List St) (z : Nat), dF m l = some z → ∃ F : SF, F.wf ∧ F.flat = l ∧ F.dep = z := by
  intro m
  induction m with
  | zero => intro l z h; cases h
  | succ m ih =>
    intro l z h
    cases l with
    | nil => rw [dF] at h; cases h; exact ⟨.nil, trivial, rfl, rfl⟩
    | cons x t =>
      rw [dF] at h
      by_cases c : 0 ≤ x.f_Body ∧ 0 ≤ x.f_Else ∧ x.f_Body + x.f_Else ≤ (t.length : Int)
      · rw [if_pos c] at h
        obtain ⟨p, h1, h⟩ := Option.bind_eq_some_iff.1 h
        obtain ⟨q, h2, h⟩ := Option.bind_eq_some_iff.1 h
        obtain ⟨r, h3, h⟩ := Option.bind_eq_some_iff.1 h
        obtain ⟨A, a1, a2, a3⟩ := ih _ _ h1
        obtain ⟨B, b1, b2, b3⟩ := ih _ _ h2
        obtain ⟨R, r1, r2, r3⟩ := ih _ _ h3
        have hA : A.flat.length = x.f_Body.toNat := by rw [a2, List.length_take]; omega
        have hB : B.flat.length = x.f_Else.toNat := by rw [b2, List.length_take, List.length_drop]; omega
        refine ⟨.cons x A B R, ⟨by omega, by omega, a1, b1, r1⟩, ?_, ?_⟩
        · rw [SF.flat, a2, b2, r2, ← List.drop_drop, List.take_append_drop, List.take_append_drop]
        · rw [SF.dep, a3, b3, r3]; exact Option.some.inj h
      · rw [if_neg c] at h; cases h
def seg (l : List St) (i j : Nat) : List St := (l.take j).drop i
theorem seg_len {l : List St} {i j : Nat} (h : j ≤ l.length) : (seg l i j).length = j - i := by unfold seg; rw [List.length_drop, List.length_take]; omega
theorem seg_cons {l : List St} {i j : Nat} (h : i < j) (hj : j ≤ l.length) : seg l i j = (l[i]'(by omega)) :: seg l (i + 1) j := by
  unfold seg
  rw [List.drop_eq_getElem_cons (by rw [List.length_take]; omega), List.getElem_take]
theorem seg_none {l : List St} {i j : Nat} (h : j ≤ i) : seg l i j = [] := by
  unfold seg; exact List.drop_of_length_le (by rw [List.length_take]; omega)
theorem seg_take {l : List St} {i j k : Nat} (h : i + k ≤ j) : (seg l i j).take k = seg l i (i + k) := by
  unfold seg; rw [List.take_drop, List.take_take]; congr 2; omega
theorem seg_drop {l : List St} {i j k : Nat} : (seg l i j).drop k = seg l (i + k) j := by
  unfold seg; rw [List.drop_drop]
theorem nests_m (n : Nat) (k : Int) : m_stmt_nests (n + 1) k = some (blockK k) := by
  rw [m_stmt_nests, blockK]
  cases k == 10 <;> cases k == 11 <;> cases k == 12 <;> rfl
def depO : Option Nat → Int
  | some z => (z : Int)
  | none => -1
theorem max3_m (a p q : Nat) : max3 (a : Int) ((1 + p : Nat) : Int) ((1 + q : Nat) : Int) = ((max a (max (1 + p) (1 + q)) : Nat) : Int) := by
  unfold max3; repeat' split
  all_goals omega
theorem dep_m (l : List St) (hl : l.length < 1000000) : ∀ (m i j n k a : Nat), m ≤ 1000001 → i ≤ j → j ≤ l.length → j - i < m → 3 * m + 10 ≤ n → m ≤ k → a ≤ 1000001 →
    match dF m (seg l i j) with
    | some z => z < m ∧ stmt_walk_stmt_depth_1_L0 n (m_stmt_depth_1 n) l (j : Int) l k (i : Int) (a : Int) = some (.out ((max a z : Nat) : Int))
    | none => ∃ d, stmt_walk_stmt_depth_1_L0 n (m_stmt_depth_1 n) l (j : Int) l k (i : Int) (a : Int) = some (.ret (false, d)) := by
  intro m
  induction m with
  | zero => intro i j n k a _ _ _ h; omega
  | succ m ih =>
    intro i j n k a hmm hij hj hm hn hk ha
    obtain ⟨k, rfl⟩ : ∃ q, k = q + 1 := ⟨k - 1, by omega⟩
    by_cases c : i < j
    · rw [seg_cons c hj, dF, stmt_walk_stmt_depth_1_L0, bif_decide (by omega), idx_get (show i < l.length by omega), Option.bind_some]
      have hx : l[i]? = some (l[i]'(by omega)) := List.getElem?_eq_getElem (by omega)
      generalize l[i]'(by omega) = x at *
      have hw : IntKind.i64.wrap (IntKind.i64.wrap ((j : Int) - (i : Int)) - 1) = ((j - i - 1 : Nat) : Int) := by
        rw [wrap64 (show -9223372036854775808 ≤ (j : Int) - (i : Int) ∧ _ by omega), wrap64 (by omega)]; omega
      rw [seg_len hj, hw]
      by_cases h1 : x.f_Body < 0
      · rw [bif_decide h1, if_neg (by omega)]; exact ⟨_, rfl⟩
      rw [bif_not h1]
      by_cases h2 : x.f_Else < 0
      · rw [bif_decide h2, if_neg (by omega)]; exact ⟨_, rfl⟩
      rw [bif_not h2]
      by_cases h3 : ((j - i - 1 : Nat) : Int) < x.f_Body
      · rw [bif_decide h3, if_neg (by omega)]; exact ⟨_, rfl⟩
      rw [bif_not h3, wrap64 (show -9223372036854775808 ≤ ((j - i - 1 : Nat) : Int) - x.f_Body ∧ _ by omega)]
      by_cases h4 : ((j - i - 1 : Nat) : Int) - x.f_Body < x.f_Else
      · rw [bif_decide h4, if_neg (by omega)]; exact ⟨_, rfl⟩
      rw [bif_not h4, if_pos ⟨by omega, by omega, by omega⟩]
      obtain ⟨B, hB⟩ : ∃ B : Nat, x.f_Body = B := ⟨x.f_Body.toNat, by omega⟩
      obtain ⟨E, hE⟩ : ∃ E : Nat, x.f_Else = E := ⟨x.f_Else.toNat, by omega⟩
      rw [hB] at h3
      rw [hB, hE] at h4 ⊢
      have w1 : IntKind.i64.wrap (IntKind.i64.wrap ((i : Int) + 1) + (B : Int)) = ((i + 1 + B : Nat) : Int) := by
        rw [wrap64 (show -9223372036854775808 ≤ (i : Int) + 1 ∧ _ by omega), wrap64 (by omega)]; omega
      have w2 : IntKind.i64.wrap (((i + 1 + B : Nat) : Int) + (E : Int)) = ((i + 1 + B + E : Nat) : Int) := by rw [wrap64 (by omega)]; omega
      rw [w1, w2]
      simp only [Int.toNat_natCast]
      rw [seg_take (by omega), seg_drop, seg_take (by omega), seg_drop]
      obtain ⟨n, rfl⟩ : ∃ q, n = q + 3 := ⟨n - 3, by omega⟩
      have dep : ∀ p q : Nat, p ≤ q → q ≤ j → i < p → m_stmt_depth (n + 2) l (p : Int) (q : Int) = some (depO (dF m (seg l p q))) ∧ (∀ z, dF m (seg l p q) = some z → z < m) := by
        intro p q hp hq hi
        have := ih p q n n 0 (by omega) hp (by omega) (by omega) (by omega) (by omega) (by omega)
        rw [m_stmt_depth, m_stmt_walk_stmt_depth_1]
        cases hd : dF m (seg l p q) with
        | some z =>
          rw [hd] at this
          obtain ⟨z1, z2⟩ := this
          rw [show ((0 : Nat) : Int) = 0 from rfl] at z2
          rw [z2]
          refine ⟨?_, fun z' hz => by cases hz; exact z1⟩
          simp [depO]
        | none =>
          rw [hd] at this
          obtain ⟨d, h⟩ := this
          rw [show ((0 : Nat) : Int) = 0 from rfl] at h
          rw [h]; exact ⟨rfl, fun z hz => by cases hz⟩
      obtain ⟨d1, z1⟩ := dep (i + 1) (i + 1 + B) (by omega) (by omega) (by omega)
      obtain ⟨d2, z2⟩ := dep (i + 1 + B) (i + 1 + B + E) (by omega) (by omega) (by omega)
      rw [m_stmt_depth_1, show IntKind.i64.wrap ((i : Int) + 1) = ((i + 1 : Nat) : Int) by rw [wrap64 (by omega)]; omega, d1, Option.bind_some, d2, Option.bind_some, idx_some hx, Option.bind_some, nests_m, Option.bind_some]
      cases hp : dF m (seg l (i + 1) (i + 1 + B)) with
      | none =>
        simp only [depO, Option.bind_none]
        cases blockK x.f_Kind <;> exact ⟨_, rfl⟩
      | some p =>
      have hpm := z1 p hp
      cases hq : dF m (seg l (i + 1 + B) (i + 1 + B + E)) with
      | none =>
        simp only [depO, Option.bind_none, Option.bind_some]
        have : ((p : Int) != -1) = true := by rw [bne_iff_ne]; omega
        cases blockK x.f_Kind <;> simp only [this] <;> exact ⟨_, rfl⟩
      | some q =>
      have hqm := z2 q hq
      simp only [depO, Option.bind_some]
      have e1 : ((p : Int) != -1) = true := by rw [bne_iff_ne]; omega
      have e2 : ((q : Int) != -1) = true := by rw [bne_iff_ne]; omega
      have w3 : IntKind.i64.wrap (1 + (p : Int)) = ((1 + p : Nat) : Int) := by rw [wrap64 (by omega)]; omega
      have w4 : IntKind.i64.wrap (1 + (q : Int)) = ((1 + q : Nat) : Int) := by rw [wrap64 (by omega)]; omega
      rw [e1, e2, w3, w4, max3_m]
      simp only [cond_true]
      have fin : ∀ u : Nat, u ≤ 1000001 → (∀ z, z < m → max u z = max a (max (if blockK x.f_Kind = true then max (1 + p) (1 + q) else 0) z)) → match (dF m (seg l (i + 1 + B + E) j)).bind fun z => some (max (if blockK x.f_Kind = true then max (1 + p) (1 + q) else 0) z) with
          | some z => z < m + 1 ∧ stmt_walk_stmt_depth_1_L0 (n + 3) (m_stmt_depth_1 (n + 3)) l (j : Int) l k ((i + 1 + B + E : Nat) : Int) (u : Int) = some (.out ((max a z : Nat) : Int))
          | none => ∃ d, stmt_walk_stmt_depth_1_L0 (n + 3) (m_stmt_depth_1 (n + 3)) l (j : Int) l k ((i + 1 + B + E : Nat) : Int) (u : Int) = some (.ret (false, d)) := by
        intro u hu hz
        have := ih (i + 1 + B + E) j (n + 3) k u (by omega) (by omega) hj (by omega) (by omega) (by omega) hu
        cases hr : dF m (seg l (i + 1 + B + E) j) with
        | none => rw [hr] at this; exact this
        | some z =>
          rw [hr] at this
          dsimp only at this
          refine ⟨?_, by rw [this.2, hz z this.1]⟩
          have := this.1
          split <;> omega
      rw [show i + 1 + (B + E) = i + 1 + B + E by omega]
      cases hb : blockK x.f_Kind with
      | true =>
        rw [hb] at fin
        exact fin (max a (max (1 + p) (1 + q))) (by omega) (fun z _ => by simp only [if_true]; omega)
      | false =>
        rw [hb] at fin
        exact fin a ha (fun z _ => by simp only [Bool.false_eq_true, if_false]; omega)
    · rw [seg_none (by omega), dF, stmt_walk_stmt_depth_1_L0, bif_not (by omega)]
      exact ⟨by omega, by rw [Nat.max_eq_left (by omega)]⟩
theorem depth_m (l : List St) (hl : l.length < 1000) {n : Nat} (hn : 4000 ≤ n) : m_stmt_Depth n l = some (depO (dF (l.length + 1) l)) := by
  obtain ⟨n, rfl⟩ : ∃ q, n = q + 3 := ⟨n - 3, by omega⟩
  have := dep_m l (by omega) (l.length + 1) 0 l.length n n 0 (by omega) (by omega) (by omega) (by omega) (by omega) (by omega) (by omega)
  have e : seg l 0 l.length = l := by unfold seg; simp
  rw [e] at this
  rw [m_stmt_Depth, m_stmt_depth, m_stmt_walk_stmt_depth_1]
  cases hd : dF (l.length + 1) l with
  | some z =>
    rw [hd] at this
    rw [show (0 : Int) = ((0 : Nat) : Int) from rfl, this.2]; simp [depO]
  | none =>
    rw [hd] at this
    obtain ⟨d, h⟩ := this
    rw [show (0 : Int) = ((0 : Nat) : Int) from rfl, h]; rfl
end Go.Proofs.Ytpnhafdimkmbbaa
end
section
namespace Go.Proofs.Ytpnhafdimkmbbaa
set_option linter.unusedVariables false
set_option linter.unusedSimpArgs false
set_option maxRecDepth 10000
def hasF (f : List UInt8) (c : Int) : Bool := f.any fun b => (b.toNat : Int) == c
theorem has_m (n : Nat) (k : S_stmt_kind) (c : Int) (h : k.f_form.length < 100) (hn : 102 < n) : m_stmt_kind_has n k c = some (hasF k.f_form c) := by
  obtain ⟨n, rfl⟩ : ∃ j, n = j + 1 := ⟨n - 1, by omega⟩
  have : stmt_kind_has_L0 n k c n 0 = bif k.f_form.any (fun b => (b.toNat : Int) == c) then some (.ret true) else some (.out ()) := by
    refine any_list k.f_form (fun q i => stmt_kind_has_L0 n k c q (i : Int)) _ (fun q => ?_) (fun q i x hi hx => ?_) (by omega)
    · rw [stmt_kind_has_L0, bif_not (by omega)]
    · rw [stmt_kind_has_L0, bif_decide (by omega), idx_some hx, Option.bind_some, wrap_one i (by omega)]
  rw [m_stmt_kind_has, this]
  unfold hasF
  cases k.f_form.any (fun b => (b.toNat : Int) == c) <;> rfl
def wordK (k : Int) : List UInt8 := wordsL.getD k.toNat []
theorem of_yes (n : Nat) {k : Int} (h : 1 ≤ k ∧ k ≤ 13) : m_stmt_of (n + 2) k = some (⟨wordK k, formK k, blockK k, k == 10⟩, true) := by
  have c : k = 1 ∨ k = 2 ∨ k = 3 ∨ k = 4 ∨ k = 5 ∨ k = 6 ∨ k = 7 ∨ k = 8 ∨ k = 9 ∨ k = 10 ∨ k = 11 ∨ k = 12 ∨ k = 13 := by omega
  rcases c with rfl | rfl | rfl | rfl | rfl | rfl | rfl | rfl | rfl | rfl | rfl | rfl | rfl <;> rfl
theorem of_not (n : Nat) {k : Int} (h : ¬ (1 ≤ k ∧ k ≤ 13)) : m_stmt_of (n + 2) k = some (⟨[], [], false, false⟩, false) := by
  rw [m_stmt_of, show m_stmt_kinds (n + 1) = some kindsL from rfl, Option.bind_some]
  by_cases c : k < 1
  · rw [bif_decide c]
  · rw [bif_not c, bif_decide (show ((kindsL.length : Nat) : Int) ≤ k by have : kindsL.length = 14 := rfl; omega)]
theorem plain_any (n : Nat) (l : List Nd) (hl : l.length < 100000) (hn : l.length + 30 < n) : m_stmt_plain n l = some (plnB l && exprOk l) := by
  obtain ⟨n, rfl⟩ : ∃ j, n = j + 1 := ⟨n - 1, by omega⟩
  have hf : (l.filter isName).length ≤ l.length := List.length_filter_le ..
  rw [m_stmt_plain, names_m n l (by omega) (by omega), Option.bind_some]
  have := allP_loop (F := fun k i => stmt_plain_L0 n (l.filter isName) k i) (l.filter isName) (fun k i h => by rw [stmt_plain_L0, bif_not (by omega)]) (fun k i y hi hy => by rw [stmt_plain_L0, bif_decide (by omega), idx_some hy, Option.bind_some, wrap_one i (by omega)]) (l.filter isName).length 0 n (by omega) (by omega)
  rw [show ((0 : Nat) : Int) = 0 from rfl] at this
  rw [this, Option.bind_some, List.drop_zero, eright_m n l (by omega) (by omega)]
  unfold plnB
  by_cases c : (l.filter isName).all (fun y => y.f_Op == 2) = true
  · rw [if_pos c, c]; rfl
  · rw [if_neg c]; rw [Bool.not_eq_true] at c; rw [c]; rfl
def fN (f : List UInt8) (c : Int) (s : List UInt8) : Bool := if hasF f c then nameB s else s == []
def fL (f : List UInt8) (c : Int) (l : List Nd) : Bool := if hasF f c then plnB l && exprOk l else (l.length : Int) == 0
def fitsB (x : St) : Bool := decide (1 ≤ x.f_Kind ∧ x.f_Kind ≤ 13) && (!decide (x.f_At < 0) && ((!x.f_Ne || hasF (formK x.f_Kind) 113) && (fN (formK x.f_Kind) 114 x.f_Reg && (fN (formK x.f_Kind) 108 x.f_Loc && (fL (formK x.f_Kind) 101 x.f_E && (fL (formK x.f_Kind) 102 x.f_F && ((blockK x.f_Kind || x.f_Body == 0) && (x.f_Kind == 10 || x.f_Else == 0))))))))
theorem fits1_m (n : Nat) (c : Int) (s w f : List UInt8) (b m : Bool) (hf : f.length < 100) (hn : 104 < n) : m_stmt_fits_1 n c s w f b m = some (fN f c s) := by
  obtain ⟨n, rfl⟩ : ∃ j, n = j + 1 := ⟨n - 1, by omega⟩
  rw [m_stmt_fits_1, has_m n _ c hf (by omega)]
  simp only [Option.bind_some]
  have hs : m_scan_Name n s = some (nameB s) := by
    obtain ⟨n, rfl⟩ : ∃ j, n = j + 1 := ⟨n - 1, by omega⟩
    simp only [m_scan_Name]
  rw [hs]
  unfold fN
  cases hasF f c with
  | false => rfl
  | true => simp only [cond_true, Option.bind_some, if_true]; cases nameB s <;> rfl
theorem fits2_m (n : Nat) (c : Int) (l : List Nd) (w f : List UInt8) (b m : Bool) (hf : f.length < 100) (hl : l.length < 100000) (hn : 104 < n) (hn2 : l.length + 40 < n) : m_stmt_fits_2 n c l w f b m = some (fL f c l) := by
  obtain ⟨n, rfl⟩ : ∃ j, n = j + 1 := ⟨n - 1, by omega⟩
  rw [m_stmt_fits_2, has_m n _ c hf (by omega)]
  simp only [Option.bind_some]
  rw [plain_any n l hl (by omega)]
  unfold fL
  cases hasF f c with
  | false => rfl
  | true => simp only [cond_true, Option.bind_some, if_true]; cases (plnB l && exprOk l) <;> rfl
theorem sfits_m (n : Nat) (x : St) (h1 : x.f_E.length < 100000) (h2 : x.f_F.length < 100000) (hn : 110 < n) (hn1 : x.f_E.length + 50 < n) (hn2 : x.f_F.length + 50 < n) : m_stmt_fits n x = some (fitsB x) := by
  obtain ⟨n, rfl⟩ : ∃ j, n = j + 3 := ⟨n - 3, by omega⟩
  have hfl : (formK x.f_Kind).length < 100 := by have := form_len x.f_Kind; omega
  rw [m_stmt_fits]
  by_cases c : 1 ≤ x.f_Kind ∧ x.f_Kind ≤ 13
  · rw [of_yes n c, Option.bind_some]
    unfold fitsB
    rw [decide_eq_true c]
    dsimp only
    rw [cond_true, has_m (n + 2) _ 113 hfl (by omega), fits1_m (n + 2) 114 _ _ _ _ _ hfl (by omega), fits1_m (n + 2) 108 _ _ _ _ _ hfl (by omega), fits2_m (n + 2) 101 _ _ _ _ _ hfl h1 (by omega) (by omega), fits2_m (n + 2) 102 _ _ _ _ _ hfl h2 (by omega) (by omega)]
    simp only [Option.bind_some]
    cases decide (x.f_At < 0) with
    | true => rfl
    | false =>
    cases x.f_Ne with
    | true =>
      simp only [cond_true, cond_false, Bool.not_true, Bool.not_false, Bool.true_and, Bool.false_or]
      cases hasF (formK x.f_Kind) 113 <;> cases fN (formK x.f_Kind) 114 x.f_Reg <;> cases fN (formK x.f_Kind) 108 x.f_Loc <;> cases fL (formK x.f_Kind) 101 x.f_E <;> cases fL (formK x.f_Kind) 102 x.f_F <;> cases blockK x.f_Kind <;> cases x.f_Body == 0 <;> cases x.f_Kind == 10 <;> rfl
    | false =>
      simp only [cond_true, cond_false, Bool.not_true, Bool.not_false, Bool.true_and, Bool.true_or]
      cases fN (formK x.f_Kind) 114 x.f_Reg <;> cases fN (formK x.f_Kind) 108 x.f_Loc <;> cases fL (formK x.f_Kind) 101 x.f_E <;> cases fL (formK x.f_Kind) 102 x.f_F <;> cases blockK x.f_Kind <;> cases x.f_Body == 0 <;> cases x.f_Kind == 10 <;> rfl
  · rw [of_not n c, Option.bind_some]
    unfold fitsB
    rw [decide_eq_false c]; rfl
def LenS (l : List St) : Prop := ∀ x ∈ l, x.f_E.length ≤ 250 ∧ x.f_F.length ≤ 250
def rightB (l : List St) : Bool := match dF (l.length + 1) l with
  | some z => !decide (30 < z) && (!decide (200 < l.length) && l.all fitsB)
  | none => false
theorem sright_m (n : Nat) (l : List St) (hl : l.length < 1000) (hx : LenS l) (hn : 5000 < n) : m_stmt_Right n l = some (rightB l) := by
  obtain ⟨n, rfl⟩ : ∃ j, n = j + 1 := ⟨n - 1, by omega⟩
  rw [m_stmt_Right, depth_m l hl (by omega), Option.bind_some]
  unfold rightB
  have hL : stmt_Right_L0 n l n 0 = bif l.all fitsB then some (.out ()) else some (.ret false) := by
    refine all_list l (fun q i => stmt_Right_L0 n l q (i : Int)) _ (fun q => ?_) (fun q i x hi hx' => ?_) (by omega)
    · rw [stmt_Right_L0, bif_not (by omega)]
    · have := hx x (List.mem_of_getElem? hx')
      rw [stmt_Right_L0, bif_decide (by omega), idx_some hx', Option.bind_some, sfits_m n x (by omega) (by omega) (by omega) (by omega) (by omega), Option.bind_some, wrap_one i (by omega)]
  rw [hL]
  cases dF (l.length + 1) l with
  | none => rfl
  | some z =>
    show (bif ((z : Int) == -1) then some false else (bif decide (30 < (z : Int)) then some false else (bif decide (200 < ((l.length : Nat) : Int)) then some false else _))) = some (!decide (30 < z) && (!decide (200 < l.length) && l.all fitsB))
    rw [show ((z : Int) == -1) = false by rw [beq_eq_false_iff_ne]; omega, cond_false]
    by_cases c1 : 30 < z
    · rw [bif_decide (by omega), decide_eq_true c1]; rfl
    · rw [bif_not (by omega), decide_eq_false c1]
      by_cases c2 : 200 < l.length
      · rw [bif_decide (by omega), decide_eq_true c2]; rfl
      · rw [bif_not (by omega), decide_eq_false c2]
        cases l.all fitsB <;> rfl
theorem right_tree {l : List St} (h : rightB l = true) : ∃ F : SF, F.wf ∧ F.flat = l ∧ F.dep ≤ 30 ∧ l.length ≤ 200 ∧ ∀ x ∈ l, fitsB x = true := by
  unfold rightB at h
  cases hd : dF (l.length + 1) l with
  | none => rw [hd] at h; cases h
  | some z =>
    rw [hd] at h
    simp only [Bool.and_eq_true, Bool.not_eq_true', decide_eq_false_iff_not, List.all_eq_true] at h
    obtain ⟨F, f1, f2, f3⟩ := of_dF _ _ _ hd
    exact ⟨F, f1, f2, by omega, by omega, h.2.2⟩
end Go.Proofs.Ytpnhafdimkmbbaa
end
section
namespace Go.Proofs.Ytpnhafdimkmbbaa
set_option linter.unusedVariables false
set_option linter.unusedSimpArgs false
set_option maxRecDepth 10000
def SameX (x y : List Nd) : Prop := x.map bareR = y.map bareR ∧ (∀ z ∈ x, z.f_Op ≠ 3) ∧ ∀ z ∈ y, z.f_Op ≠ 3
end Go.Proofs.Ytpnhafdimkmbbaa
end
section
namespace Go.Proofs.Ytpnhafdimkmbbaa
set_option linter.unusedVariables false
set_option linter.unusedSimpArgs false
set_option maxRecDepth 10000
structure SameS (x y : St) : Prop where
  k : x.f_Kind = y.f_Kind
  r : x.f_Reg = y.f_Reg
  l : x.f_Loc = y.f_Loc
  n : x.f_Ne = y.f_Ne
  b : x.f_Body = y.f_Body
  c : x.f_Else = y.f_Else
  e : SameX x.f_E y.f_E
  f : SameX x.f_F y.f_F
def All2 : List St → List St → Prop
  | [], [] => True
  | x :: l, y :: m => SameS x y ∧ All2 l m
  | _, _ => False
theorem All2.len : ∀ {l m : List St}, All2 l m → l.length = m.length
  | [], [], _ => rfl
  | _ :: l, _ :: m, h => by simp [All2.len h.2]
  | [], _ :: _, h => h.elim
  | _ :: _, [], h => h.elim
theorem All2.get : ∀ {l m : List St}, All2 l m → ∀ (i : Nat) x y, l[i]? = some x → m[i]? = some y → SameS x y
  | [], [], _, i, x, y, h, _ => by simp at h
  | a :: l, b :: m, h, 0, x, y, h1, h2 => by
    simp only [List.getElem?_cons_zero, Option.some.injEq] at h1 h2
    subst h1; subst h2; exact h.1
  | a :: l, b :: m, h, i + 1, x, y, h1, h2 => by
    simp only [List.getElem?_cons_succ] at h1 h2
    exact All2.get h.2 i x y h1 h2
  | [], _ :: _, h, _, _, _, _, _ => h.elim
  | _ :: _, [], h, _, _, _, _, _ => h.elim
end Go.Proofs.Ytpnhafdimkmbbaa
end
section
namespace Go.Proofs.Ytpnhafdimkmbbaa
set_option linter.unusedVariables false
set_option linter.unusedSimpArgs false
set_option maxRecDepth 10000
theorem SameX.symm {x y : List Nd} (h : SameX x y) : SameX y x := ⟨h.1.symm, h.2.2, h.2.1⟩
theorem SameS.symm {x y : St} (h : SameS x y) : SameS y x := ⟨h.k.symm, h.r.symm, h.l.symm, h.n.symm, h.b.symm, h.c.symm, h.e.symm, h.f.symm⟩
theorem All2.symm : ∀ {l m : List St}, All2 l m → All2 m l
  | [], [], _ => trivial
  | _ :: l, _ :: m, h => ⟨h.1.symm, All2.symm h.2⟩
  | [], _ :: _, h => h.elim
  | _ :: _, [], h => h.elim
end Go.Proofs.Ytpnhafdimkmbbaa
end
section
namespace Go.Proofs.Ytpnhafdimkmbbaa
set_option linter.unusedVariables false
set_option linter.unusedSimpArgs false
set_option maxRecDepth 10000
def LightX (x : St) : Prop := x.f_Reg.length ≤ 100 ∧ x.f_Loc.length ≤ 100 ∧ lightE x.f_E = true ∧ lightE x.f_F = true
end Go.Proofs.Ytpnhafdimkmbbaa
end
section
namespace Go.Proofs.Ytpnhafdimkmbbaa
set_option linter.unusedVariables false
set_option linter.unusedSimpArgs false
set_option maxRecDepth 10000
abbrev Pg := S_api_Prog
abbrev Th := S_api_Thread
abbrev Cl := S_api_Claim
abbrev Va := S_api_Var
structure BoundT (t : Th) : Prop where
  name : t.f_Name.length ≤ 100
  regs : t.f_Regs.length ≤ 4000
  reg : ∀ r ∈ t.f_Regs, r.length ≤ 100
  body : t.f_Body.length ≤ 250
  st : ∀ x ∈ t.f_Body, LightX x
structure BoundP (p : Pg) : Prop where
  locs : p.f_Locs.length ≤ 4000
  threads : p.f_Threads.length ≤ 4000
  claims : p.f_Claims.length ≤ 4000
  loc : ∀ v ∈ p.f_Locs, v.f_Name.length ≤ 100
  thr : ∀ t ∈ p.f_Threads, BoundT t
  cl : ∀ c ∈ p.f_Claims, lightE c.f_E = true
def numB (n : Int) : Bool := decide (0 ≤ n ∧ n ≤ 9999)
def varOk (v : Va) : Bool := nameB v.f_Name && (numB v.f_N && decide (0 ≤ v.f_At))
def thrOk (t : Th) : Bool := nameB t.f_Name && (decide (0 ≤ t.f_At) && (rightB t.f_Body && t.f_Regs.all nameB))
def clB (l : List Nd) : Bool := (l.filter isName).all fun x => !(x.f_Op == 2)
def clOk (c : Cl) : Bool := clB c.f_E && (decide (1 ≤ c.f_Kind ∧ c.f_Kind ≤ 3) && (exprOk c.f_E && decide (0 ≤ c.f_At)))
def rightP (p : Pg) : Bool := numB p.f_Mod && (p.f_Locs.all varOk && (p.f_Threads.all thrOk && p.f_Claims.all clOk))
theorem num_p (n : Nat) (x : Int) : m_prog_number (n + 1) x = some (numB x) := by
  rw [m_prog_number, numB]
  by_cases h : 0 ≤ x
  · rw [bif_decide h]; by_cases h2 : x ≤ 9999 <;> simp [h, h2]
  · rw [bif_not h]; simp [h]
theorem name_p (n : Nat) (s : List UInt8) : m_scan_Name (n + 1) s = some (nameB s) := by simp only [m_scan_Name]
theorem lr_all {b : Bool} : ((bif b then some (.out ()) else some (.ret false)) : Option (LR Unit Bool)).bind (fun o => match o with | .out _ => some true | .ret v => some v) = some b := by cases b <;> rfl
theorem regs_p (n : Nat) (t : Th) (hr : t.f_Regs.length ≤ 4000) (hn : 4100 < n) : m_prog_all_3 n ((t.f_Regs.length : Nat) : Int) t.f_Name t.f_Regs t.f_Body t.f_At = some (t.f_Regs.all nameB) := by
  obtain ⟨n, rfl⟩ : ∃ j, n = j + 3 := ⟨n - 3, by omega⟩
  have hL : prog_all_3_L0 (n + 2) ((t.f_Regs.length : Nat) : Int) t.f_Name t.f_Regs t.f_Body t.f_At (n + 2) 0 = bif t.f_Regs.all nameB then some (.out ()) else some (.ret false) := by
    refine all_list t.f_Regs (fun q i => prog_all_3_L0 (n + 2) ((t.f_Regs.length : Nat) : Int) t.f_Name t.f_Regs t.f_Body t.f_At q (i : Int)) _ (fun q => ?_) (fun q i x hi hx => ?_) (by omega)
    · rw [prog_all_3_L0, bif_not (by omega)]
    · rw [prog_all_3_L0, bif_decide (by omega), m_prog_thread_1, idx_some hx, Option.bind_some, name_p, Option.bind_some, Option.bind_some, wrap_one i (by omega)]
  rw [m_prog_all_3, hL]; exact lr_all
theorem LightX.lens {l : List St} (h : ∀ x ∈ l, LightX x) : LenS l := by
  intro x hx
  obtain ⟨_, _, h3, h4⟩ := h x hx
  simp only [lightE, Bool.and_eq_true, decide_eq_true_eq] at h3 h4
  exact ⟨h3.1, h4.1⟩
theorem thr_p (n : Nat) (t : Th) (h : BoundT t) (hn : 5100 < n) : m_prog_thread n t = some (thrOk t) := by
  obtain ⟨n, rfl⟩ : ∃ j, n = j + 2 := ⟨n - 2, by omega⟩
  rw [m_prog_thread, name_p, Option.bind_some, sright_m (n + 1) t.f_Body (by have := h.body; omega) (LightX.lens h.st) (by omega), regs_p (n + 1) t h.regs (by omega)]
  unfold thrOk
  by_cases c : 0 ≤ t.f_At
  · rw [bif_decide c, decide_eq_true c]
    cases nameB t.f_Name <;> cases rightB t.f_Body <;> rfl
  · rw [bif_not c, decide_eq_false c]
    cases nameB t.f_Name <;> rfl
theorem clB_L {F : Nat → Int → Option (LR Unit Bool)} (l : List Nd) (h0 : ∀ k, F (k + 1) ((l.length : Nat) : Int) = some (.out ())) (h1 : ∀ k i x, i < l.length → l[i]? = some x → F (k + 1) (i : Int) = bif x.f_Op == 2 then some (.ret false) else F k ((i + 1 : Nat) : Int)) {k : Nat} (hk : l.length < k) : F k 0 = bif l.all (fun x => !(x.f_Op == 2)) then some (.out ()) else some (.ret false) := by
  refine all_list l (fun k i => F k (i : Int)) _ (fun k => h0 k) (fun k i x hi hx => ?_) hk
  rw [h1 k i x hi hx]
  cases x.f_Op == 2 <;> rfl
theorem word_p (n : Nat) (k : Int) : ∃ w, m_prog_word (n + 1) k = some w ∧ (w == ([] : List UInt8)) = !decide (1 ≤ k ∧ k ≤ 3) := by
  by_cases h : 1 ≤ k ∧ k ≤ 3
  · have c : k = 1 ∨ k = 2 ∨ k = 3 := by omega
    rcases c with rfl | rfl | rfl <;> exact ⟨_, rfl, rfl⟩
  · refine ⟨[], ?_, by rw [decide_eq_false h]; rfl⟩
    rw [m_prog_word, beq_eq_false_iff_ne.2 (show k ≠ 1 by omega), beq_eq_false_iff_ne.2 (show k ≠ 2 by omega), beq_eq_false_iff_ne.2 (show k ≠ 3 by omega)]; rfl
theorem cl_p (n : Nat) (c : Cl) (h : lightE c.f_E = true) (hn : 600 < n) : m_prog_claim n c = some (clOk c) := by
  have h0 : c.f_E.length ≤ 250 := by simp only [lightE, Bool.and_eq_true, decide_eq_true_eq] at h; exact h.1
  have hf : (c.f_E.filter isName).length ≤ c.f_E.length := List.length_filter_le ..
  obtain ⟨n, rfl⟩ : ∃ j, n = j + 2 := ⟨n - 2, by omega⟩
  have hL := clB_L (F := fun k i => prog_claim_L0 (n + 1) (c.f_E.filter isName) k i) (c.f_E.filter isName) (fun k => by rw [prog_claim_L0, bif_not (by omega)]) (fun k i y hi hy => by rw [prog_claim_L0, bif_decide (by omega), idx_some hy, Option.bind_some, wrap_one i (by omega)]) (k := n + 1) (by omega)
  obtain ⟨w, w1, w2⟩ := word_p n c.f_Kind
  rw [m_prog_claim, names_m (n + 1) c.f_E (by omega) (by omega), Option.bind_some, hL, w1, eright_m (n + 1) c.f_E (by omega) (by omega)]
  unfold clOk clB
  cases (c.f_E.filter isName).all (fun x => !(x.f_Op == 2)) with
  | false => rfl
  | true =>
    simp only [cond_true, Option.bind_some, w2]
    cases decide (1 ≤ c.f_Kind ∧ c.f_Kind ≤ 3) <;> cases exprOk c.f_E <;> rfl
theorem right_p (n : Nat) (p : Pg) (h : BoundP p) (hn : 6000 < n) : m_prog_Right n p = some (rightP p) := by
  have hl := h.locs
  have ht := h.threads
  have hc := h.claims
  obtain ⟨n, rfl⟩ : ∃ j, n = j + 4 := ⟨n - 4, by omega⟩
  have h1 : m_prog_all (n + 3) ((p.f_Locs.length : Nat) : Int) p.f_Mod p.f_Locs p.f_Threads p.f_Claims = some (p.f_Locs.all varOk) := by
    have hL : prog_all_L0 (n + 2) ((p.f_Locs.length : Nat) : Int) p.f_Mod p.f_Locs p.f_Threads p.f_Claims (n + 2) 0 = bif p.f_Locs.all varOk then some (.out ()) else some (.ret false) := by
      refine all_list p.f_Locs (fun q i => prog_all_L0 (n + 2) ((p.f_Locs.length : Nat) : Int) p.f_Mod p.f_Locs p.f_Threads p.f_Claims q (i : Int)) _ (fun q => ?_) (fun q i x hi hx => ?_) (by omega)
      · rw [prog_all_L0, bif_not (by omega)]
      · rw [prog_all_L0, bif_decide (by omega), m_prog_Right_1, idx_some hx, Option.bind_some, name_p, Option.bind_some, num_p, Option.bind_some, wrap_one i (by omega)]
        unfold varOk
        cases nameB x.f_Name <;> cases numB x.f_N <;> rfl
    rw [m_prog_all, hL]; exact lr_all
  have h2 : m_prog_all_1 (n + 3) ((p.f_Threads.length : Nat) : Int) p.f_Mod p.f_Locs p.f_Threads p.f_Claims = some (p.f_Threads.all thrOk) := by
    have hL : prog_all_1_L0 (n + 2) ((p.f_Threads.length : Nat) : Int) p.f_Mod p.f_Locs p.f_Threads p.f_Claims (n + 2) 0 = bif p.f_Threads.all thrOk then some (.out ()) else some (.ret false) := by
      refine all_list p.f_Threads (fun q i => prog_all_1_L0 (n + 2) ((p.f_Threads.length : Nat) : Int) p.f_Mod p.f_Locs p.f_Threads p.f_Claims q (i : Int)) _ (fun q => ?_) (fun q i x hi hx => ?_) (by omega)
      · rw [prog_all_1_L0, bif_not (by omega)]
      · rw [prog_all_1_L0, bif_decide (by omega), m_prog_Right_2, idx_some hx, Option.bind_some, thr_p _ x (h.thr x (List.mem_of_getElem? hx)) (by omega), Option.bind_some, Option.bind_some, wrap_one i (by omega)]
    rw [m_prog_all_1, hL]; exact lr_all
  have h3 : m_prog_all_2 (n + 3) ((p.f_Claims.length : Nat) : Int) p.f_Mod p.f_Locs p.f_Threads p.f_Claims = some (p.f_Claims.all clOk) := by
    have hL : prog_all_2_L0 (n + 2) ((p.f_Claims.length : Nat) : Int) p.f_Mod p.f_Locs p.f_Threads p.f_Claims (n + 2) 0 = bif p.f_Claims.all clOk then some (.out ()) else some (.ret false) := by
      refine all_list p.f_Claims (fun q i => prog_all_2_L0 (n + 2) ((p.f_Claims.length : Nat) : Int) p.f_Mod p.f_Locs p.f_Threads p.f_Claims q (i : Int)) _ (fun q => ?_) (fun q i x hi hx => ?_) (by omega)
      · rw [prog_all_2_L0, bif_not (by omega)]
      · rw [prog_all_2_L0, bif_decide (by omega), m_prog_Right_3, idx_some hx, Option.bind_some, cl_p _ x (h.cl x (List.mem_of_getElem? hx)) (by omega), Option.bind_some, Option.bind_some, wrap_one i (by omega)]
    rw [m_prog_all_2, hL]; exact lr_all
  rw [m_prog_Right, h1, num_p, h2, h3]
  unfold rightP
  simp only [Option.bind_some]
  cases numB p.f_Mod <;> cases p.f_Locs.all varOk <;> cases p.f_Threads.all thrOk <;> rfl
end Go.Proofs.Ytpnhafdimkmbbaa
end
section
namespace Go.Proofs.Ytpnhafdimkmbbaa
set_option linter.unusedVariables false
set_option linter.unusedSimpArgs false
set_option maxRecDepth 10000
abbrev Chk := Bool × Int × Int
def note (c : Int × Int) (k : Chk) : Int × Int := bif k.1 then c else bif c.1 == 0 then k.2 else c
def foldN (c : Int × Int) (l : List Chk) : Int × Int := l.foldl note c
def badL : List Chk → Option (Int × Int)
  | [] => none
  | k :: l => bif k.1 then badL l else some k.2
def chF (g : Nat → List Chk) : Nat → Nat → List Chk
  | 0, _ => []
  | m + 1, i => g i ++ chF g m (i + 1)
theorem foldN_app (c : Int × Int) (a b : List Chk) : foldN c (a ++ b) = foldN (foldN c a) b := List.foldl_append
theorem foldN_cons (c : Int × Int) (k : Chk) (b : List Chk) : foldN c (k :: b) = foldN (note c k) b := rfl
theorem foldN_nil (c : Int × Int) : foldN c [] = c := rfl
theorem badL_app (a b : List Chk) : badL (a ++ b) = (badL a).or (badL b) := by
  induction a with
  | nil => rfl
  | cons k a ih => simp only [List.cons_append, badL, ih]; cases k.1 <;> rfl
def ErL (l : List Chk) : Prop := ∀ k ∈ l, k.2.1 ≠ 0
theorem foldN_bad : ∀ (l : List Chk) (c : Int × Int), ErL l → foldN c l = bif c.1 == 0 then (badL l).getD c else c
  | [], c, _ => by simp only [foldN_nil, badL]; cases c.1 == 0 <;> rfl
  | k :: l, c, h => by
    have h1 : k.2.1 ≠ 0 := h k (List.mem_cons_self ..)
    rw [foldN_cons, foldN_bad l _ (fun q hq => h q (List.mem_cons_of_mem _ hq))]
    simp only [badL, note]
    cases k.1 with
    | true => rfl
    | false =>
      simp only [cond_false]
      cases hc : c.1 == 0 with
      | true => rw [cond_true, beq_eq_false_iff_ne.2 h1]; rfl
      | false => rw [cond_false, hc]; rfl
theorem fold_loop {σ ρ ν : Type} (N : Nat) (g : Nat → List Chk) (L : Nat → Nat → σ → Option (LR ρ ν)) (Inv : Nat → (Int × Int) → σ → Prop) (out : σ → ρ)
    (h0 : ∀ k s c, Inv N c s → L (k + 1) N s = some (.out (out s)))
    (h1 : ∀ k i s c, i < N → Inv i c s → ∃ s', Inv (i + 1) (foldN c (g i)) s' ∧ L (k + 1) i s = L k (i + 1) s') :
    ∀ (m k i : Nat) (s : σ) (c : Int × Int), i + m = N → m < k → Inv i c s → ∃ s', Inv N (foldN c (chF g m i)) s' ∧ L k i s = some (.out (out s')) := by
  intro m
  induction m with
  | zero =>
    intro k i s c hi hk hs
    obtain ⟨k, rfl⟩ : ∃ j, k = j + 1 := ⟨k - 1, by omega⟩
    obtain rfl : i = N := by omega
    exact ⟨s, hs, h0 k s c hs⟩
  | succ m ih =>
    intro k i s c hi hk hs
    obtain ⟨k, rfl⟩ : ∃ j, k = j + 1 := ⟨k - 1, by omega⟩
    obtain ⟨s', a1, a2⟩ := h1 k i s c (by omega) hs
    obtain ⟨s2, b1, b2⟩ := ih k (i + 1) s' _ (by omega) (by omega) a1
    exact ⟨s2, by rw [chF, foldN_app]; exact b1, a2.trans b2⟩
abbrev Mi := List (List UInt8 × Int)
abbrev Mm := List (List UInt8 × Mi)
theorem must_m (n : Nat) (so : Bool) (e a md : Int) (l : List Va) (t : List Th) (c : List Cl) (ce ca : Int) (m1 : Mi) (m2 : Mm) : m_legal_checker_must (n + 1) so e a md l t c ce ca m1 m2 = some ((note (ce, ca) (so, e, a)).1 == 0, note (ce, ca) (so, e, a)) := by
  rw [m_legal_checker_must]
  cases so with
  | true => rfl
  | false => cases h : ce == 0 <;> simp [note, h]
def nodeC (kn : Nd → Bool) (md : Int) (x : Nd) : List Chk := bif x.f_Op == 1 then [(decide (x.f_N < md), 11, x.f_At)] else bif x.f_Op == 2 || (x.f_Op == 3 || x.f_Op == 4) then [(kn x, 9, x.f_At)] else []
def nodesC (kn : Nd → Bool) (md : Int) (l : List Nd) : List Chk := l.flatMap (nodeC kn md)
def knC (m1 : Mi) (m2 : Mm) (x : Nd) : Bool := bif x.f_Op == 3 then decide (0 < mget m1 x.f_Name 0) else decide (0 < mget (mget m2 x.f_In []) x.f_Name 0)
def knB (m : Mi) (x : Nd) : Bool := decide (0 < mget m x.f_Name 0)
theorem claim1_m (n : Nat) (x : Nd) (md : Int) (l : List Va) (t : List Th) (c : List Cl) (ce ca : Int) (m1 : Mi) (m2 : Mm) : m_legal_checker_claim_1 (n + 1) x md l t c ce ca m1 m2 = some (knC m1 m2 x) := by
  rw [m_legal_checker_claim_1, knC]; cases x.f_Op == 3 <;> rfl
theorem nodes0_m (n : Nat) (l : List Nd) (md : Int) (lo : List Va) (t : List Th) (cl : List Cl) (ce ca : Int) (m1 : Mi) (m2 : Mm) (hl : l.length ≤ 1000) (hn : 1010 < n) : m_legal_checker_nodes n l md lo t cl ce ca m1 m2 = some (foldN (ce, ca) (nodesC (knC m1 m2) md l)) := by
  obtain ⟨n, rfl⟩ : ∃ j, n = j + 2 := ⟨n - 2, by omega⟩
  have := loop_list0 l (fun k i (s : Int × Int) => legal_checker_nodes_L0 (n + 1) l md lo t cl m1 m2 k (i : Int) s.1 s.2) (fun l s => some (.out (foldN s (nodesC (knC m1 m2) md l)))) (fun _ _ => True) (k := n + 1) (s := (ce, ca)) (by omega) trivial (fun k s _ => by rw [legal_checker_nodes_L0, bif_not (by omega)]; rfl) (fun k i s x hi hx _ ih => by
    have ih' : ∀ c : Int × Int, legal_checker_nodes_L0 (n + 1) l md lo t cl m1 m2 k ((i + 1 : Nat) : Int) c.1 c.2 = _ := fun c => ih c trivial
    rw [legal_checker_nodes_L0, bif_decide (by omega), idx_some hx, Option.bind_some]
    simp only [must_m, claim1_m, Option.bind_some, wrap_one i (show i < 4611686018427387904 by omega), ih']
    rw [show nodesC (knC m1 m2) md (x :: l.drop (i + 1)) = nodeC (knC m1 m2) md x ++ nodesC (knC m1 m2) md (l.drop (i + 1)) from List.flatMap_cons, foldN_app]
    rw [nodeC]
    cases x.f_Op == 1 with
    | true => rfl
    | false => cases x.f_Op == 2 <;> cases x.f_Op == 3 <;> cases x.f_Op == 4 <;> rfl)
  rw [m_legal_checker_nodes]
  rw [show ((0 : Nat) : Int) = 0 from rfl] at this
  rw [this]; rfl
theorem nodes1_m (n : Nat) (l : List Nd) (md : Int) (lo : List Va) (t : List Th) (cl : List Cl) (ce ca : Int) (m1 : Mi) (m2 : Mm) (m : Mi) (hl : l.length ≤ 1000) (hn : 1010 < n) : m_legal_checker_nodes_1 n l md lo t cl ce ca m1 m2 m = some (foldN (ce, ca) (nodesC (knB m) md l)) := by
  obtain ⟨n, rfl⟩ : ∃ j, n = j + 2 := ⟨n - 2, by omega⟩
  have := loop_list0 l (fun k i (s : Int × Int) => legal_checker_nodes_1_L0 (n + 1) l md lo t cl m1 m2 m k (i : Int) s.1 s.2) (fun l s => some (.out (foldN s (nodesC (knB m) md l)))) (fun _ _ => True) (k := n + 1) (s := (ce, ca)) (by omega) trivial (fun k s _ => by rw [legal_checker_nodes_1_L0, bif_not (by omega)]; rfl) (fun k i s x hi hx _ ih => by
    have ih' : ∀ c : Int × Int, legal_checker_nodes_1_L0 (n + 1) l md lo t cl m1 m2 m k ((i + 1 : Nat) : Int) c.1 c.2 = _ := fun c => ih c trivial
    rw [legal_checker_nodes_1_L0, bif_decide (by omega), idx_some hx, Option.bind_some]
    simp only [must_m, m_legal_checker_body_1z, Option.bind_some, wrap_one i (show i < 4611686018427387904 by omega), ih']
    rw [show nodesC (knB m) md (x :: l.drop (i + 1)) = nodeC (knB m) md x ++ nodesC (knB m) md (l.drop (i + 1)) from List.flatMap_cons, foldN_app]
    rw [nodeC]
    cases x.f_Op == 1 with
    | true => rfl
    | false => cases x.f_Op == 2 <;> cases x.f_Op == 3 <;> cases x.f_Op == 4 <;> rfl)
  rw [m_legal_checker_nodes_1]
  rw [show ((0 : Nat) : Int) = 0 from rfl] at this
  rw [this]; rfl
theorem nodes2_m (n : Nat) (l : List Nd) (md : Int) (lo : List Va) (t : List Th) (cl : List Cl) (ce ca : Int) (m1 : Mi) (m2 : Mm) (m : Mi) (hl : l.length ≤ 1000) (hn : 1010 < n) : m_legal_checker_nodes_2 n l md lo t cl ce ca m1 m2 m = some (foldN (ce, ca) (nodesC (knB m) md l)) := by
  obtain ⟨n, rfl⟩ : ∃ j, n = j + 2 := ⟨n - 2, by omega⟩
  have := loop_list0 l (fun k i (s : Int × Int) => legal_checker_nodes_2_L0 (n + 1) l md lo t cl m1 m2 m k (i : Int) s.1 s.2) (fun l s => some (.out (foldN s (nodesC (knB m) md l)))) (fun _ _ => True) (k := n + 1) (s := (ce, ca)) (by omega) trivial (fun k s _ => by rw [legal_checker_nodes_2_L0, bif_not (by omega)]; rfl) (fun k i s x hi hx _ ih => by
    have ih' : ∀ c : Int × Int, legal_checker_nodes_2_L0 (n + 1) l md lo t cl m1 m2 m k ((i + 1 : Nat) : Int) c.1 c.2 = _ := fun c => ih c trivial
    rw [legal_checker_nodes_2_L0, bif_decide (by omega), idx_some hx, Option.bind_some]
    simp only [must_m, m_legal_checker_body_1_1, Option.bind_some, wrap_one i (show i < 4611686018427387904 by omega), ih']
    rw [show nodesC (knB m) md (x :: l.drop (i + 1)) = nodeC (knB m) md x ++ nodesC (knB m) md (l.drop (i + 1)) from List.flatMap_cons, foldN_app]
    rw [nodeC]
    cases x.f_Op == 1 with
    | true => rfl
    | false => cases x.f_Op == 2 <;> cases x.f_Op == 3 <;> cases x.f_Op == 4 <;> rfl)
  rw [m_legal_checker_nodes_2]
  rw [show ((0 : Nat) : Int) = 0 from rfl] at this
  rw [this]; rfl
def untl (l : List St) : Nat → Int
  | 0 => 0
  | i + 1 => match l[i]? with
    | some x => bif x.f_Kind == 11 || x.f_Kind == 12 then (if untl l i < (i : Int) + 1 + x.f_Body then (i : Int) + 1 + x.f_Body else untl l i) else untl l i
    | none => untl l i
def stC (rk : Nd → Bool) (rr lk : List UInt8 → Bool) (md : Int) (l : List St) (i : Nat) : List Chk := match l[i]? with
  | some x => (bif x.f_Kind == 13 then [(decide ((i : Int) < untl l i), 13, x.f_At)] else []) ++ ((x.f_Reg == [] || rr x.f_Reg, 9, x.f_At) :: (x.f_Loc == [] || lk x.f_Loc, 9, x.f_At) :: (nodesC rk md x.f_E ++ nodesC rk md x.f_F))
  | none => []
def BodyOk (l : List St) : Prop := l.length ≤ 1000 ∧ ∀ x ∈ l, 0 ≤ x.f_Body ∧ x.f_Body ≤ 1000 ∧ x.f_E.length ≤ 1000 ∧ x.f_F.length ≤ 1000
theorem body1_m (n : Nat) (th : Th) (md : Int) (lo : List Va) (t : List Th) (cl : List Cl) (ce ca : Int) (m1 : Mi) (m2 : Mm) (m : Mi) (h : BodyOk th.f_Body) (hn : 1020 < n) : m_legal_checker_body n th md lo t cl ce ca m1 m2 m = some (foldN (ce, ca) (chF (stC (knB m) (fun r => decide (0 < mget m r 0)) (fun r => decide (0 < mget m1 r 0)) md th.f_Body) th.f_Body.length 0)) := by
  obtain ⟨hl, hb⟩ := h
  obtain ⟨n, rfl⟩ : ∃ j, n = j + 2 := ⟨n - 2, by omega⟩
  obtain ⟨s', ⟨a1, a2⟩, a3⟩ := fold_loop th.f_Body.length (stC (knB m) (fun r => decide (0 < mget m r 0)) (fun r => decide (0 < mget m1 r 0)) md th.f_Body) (fun k i (s : Int × Int × Int) => legal_checker_body_L0 (n + 1) th md lo t cl m1 m2 m k s.1 (i : Int) s.2.1 s.2.2) (fun i c s => s.1 = untl th.f_Body i ∧ s.2 = c) (fun s => (s.2.1, s.2.2))
    (fun k s c _ => by rw [legal_checker_body_L0, bif_not (by omega)]) (fun k i s c hi hs => by
      obtain ⟨u, d⟩ := s
      obtain ⟨rfl, rfl⟩ := hs
      have hx : th.f_Body[i]? = some (th.f_Body[i]'hi) := List.getElem?_eq_getElem hi
      obtain ⟨hb1, hb2, hb3, hb4⟩ := hb _ (List.getElem_mem hi)
      generalize th.f_Body[i]'hi = x at *
      refine ⟨(untl th.f_Body (i + 1), foldN d (stC (knB m) (fun r => decide (0 < mget m r 0)) (fun r => decide (0 < mget m1 r 0)) md th.f_Body i)), ⟨rfl, rfl⟩, ?_⟩
      dsimp only
      have w1 : IntKind.i64.wrap (((i + 1 : Nat) : Int) + x.f_Body) = (i : Int) + 1 + x.f_Body := by rw [wrap64 (by omega)]; omega
      rw [legal_checker_body_L0, bif_decide (by omega), idx_some hx, Option.bind_some]
      simp only [must_m, nodes1_m (n + 1) x.f_E md lo t cl _ _ m1 m2 m hb3 (by omega), nodes1_m (n + 1) x.f_F md lo t cl _ _ m1 m2 m hb4 (by omega), Option.bind_some, wrap_one i (show i < 4611686018427387904 by omega), w1]
      rw [untl, stC, hx]
      dsimp only
      by_cases k1 : x.f_Kind = 11
      · rw [k1]; cases x.f_Reg == [] <;> cases x.f_Loc == [] <;> (simp only [foldN_app, foldN_cons]; rfl)
      by_cases k2 : x.f_Kind = 12
      · rw [k2]; cases x.f_Reg == [] <;> cases x.f_Loc == [] <;> (simp only [foldN_app, foldN_cons]; rfl)
      rw [beq_eq_false_iff_ne.2 k1, beq_eq_false_iff_ne.2 k2]
      cases x.f_Kind == 13 <;> cases x.f_Reg == [] <;> cases x.f_Loc == [] <;> (simp only [foldN_app, foldN_cons]; rfl)) th.f_Body.length (n + 1) 0 (0, ce, ca) (ce, ca) (by omega) (by omega) ⟨rfl, rfl⟩
  rw [m_legal_checker_body]
  dsimp only at a3
  rw [show ((0 : Nat) : Int) = 0 from rfl] at a3
  rw [a3, Option.bind_some]
  dsimp only
  rw [← a2]
theorem body2_m (n : Nat) (th : Th) (md : Int) (lo : List Va) (t : List Th) (cl : List Cl) (ce ca : Int) (m1 : Mi) (m2 : Mm) (m : Mi) (h : BodyOk th.f_Body) (hn : 1020 < n) : m_legal_checker_body_1 n th md lo t cl ce ca m1 m2 m = some (foldN (ce, ca) (chF (stC (knB m) (fun r => decide (0 < mget m r 0)) (fun r => decide (0 < mget m1 r 0)) md th.f_Body) th.f_Body.length 0)) := by
  obtain ⟨hl, hb⟩ := h
  obtain ⟨n, rfl⟩ : ∃ j, n = j + 2 := ⟨n - 2, by omega⟩
  obtain ⟨s', ⟨a1, a2⟩, a3⟩ := fold_loop th.f_Body.length (stC (knB m) (fun r => decide (0 < mget m r 0)) (fun r => decide (0 < mget m1 r 0)) md th.f_Body) (fun k i (s : Int × Int × Int) => legal_checker_body_1_L0 (n + 1) th md lo t cl m1 m2 m k s.1 (i : Int) s.2.1 s.2.2) (fun i c s => s.1 = untl th.f_Body i ∧ s.2 = c) (fun s => (s.2.1, s.2.2))
    (fun k s c _ => by rw [legal_checker_body_1_L0, bif_not (by omega)]) (fun k i s c hi hs => by
      obtain ⟨u, d⟩ := s
      obtain ⟨rfl, rfl⟩ := hs
      have hx : th.f_Body[i]? = some (th.f_Body[i]'hi) := List.getElem?_eq_getElem hi
      obtain ⟨hb1, hb2, hb3, hb4⟩ := hb _ (List.getElem_mem hi)
      generalize th.f_Body[i]'hi = x at *
      refine ⟨(untl th.f_Body (i + 1), foldN d (stC (knB m) (fun r => decide (0 < mget m r 0)) (fun r => decide (0 < mget m1 r 0)) md th.f_Body i)), ⟨rfl, rfl⟩, ?_⟩
      dsimp only
      have w1 : IntKind.i64.wrap (((i + 1 : Nat) : Int) + x.f_Body) = (i : Int) + 1 + x.f_Body := by rw [wrap64 (by omega)]; omega
      rw [legal_checker_body_1_L0, bif_decide (by omega), idx_some hx, Option.bind_some]
      simp only [must_m, nodes2_m (n + 1) x.f_E md lo t cl _ _ m1 m2 m hb3 (by omega), nodes2_m (n + 1) x.f_F md lo t cl _ _ m1 m2 m hb4 (by omega), Option.bind_some, wrap_one i (show i < 4611686018427387904 by omega), w1]
      rw [untl, stC, hx]
      dsimp only
      by_cases k1 : x.f_Kind = 11
      · rw [k1]; cases x.f_Reg == [] <;> cases x.f_Loc == [] <;> (simp only [foldN_app, foldN_cons]; rfl)
      by_cases k2 : x.f_Kind = 12
      · rw [k2]; cases x.f_Reg == [] <;> cases x.f_Loc == [] <;> (simp only [foldN_app, foldN_cons]; rfl)
      rw [beq_eq_false_iff_ne.2 k1, beq_eq_false_iff_ne.2 k2]
      cases x.f_Kind == 13 <;> cases x.f_Reg == [] <;> cases x.f_Loc == [] <;> (simp only [foldN_app, foldN_cons]; rfl)) th.f_Body.length (n + 1) 0 (0, ce, ca) (ce, ca) (by omega) (by omega) ⟨rfl, rfl⟩
  rw [m_legal_checker_body_1]
  dsimp only at a3
  rw [show ((0 : Nat) : Int) = 0 from rfl] at a3
  rw [a3, Option.bind_some]
  dsimp only
  rw [← a2]
end Go.Proofs.Ytpnhafdimkmbbaa
end
section
namespace Go.Proofs.Ytpnhafdimkmbbaa
set_option linter.unusedVariables false
set_option linter.unusedSimpArgs false
set_option maxRecDepth 10000
theorem mget_mset {ν : Type} : ∀ (m : List (List UInt8 × ν)) (x s : List UInt8) (v z : ν), mget (mset m x v) s z = if s = x then v else mget m s z
  | [], x, s, v, z => by simp only [mset, mget]
  | p :: m, x, s, v, z => by
    rw [mset]
    by_cases h : x = p.1
    · subst h
      rw [if_pos rfl, mget, mget]
      by_cases h2 : s = p.1
      · rw [if_pos h2, if_pos h2]
      · rw [if_neg h2, if_neg h2, if_neg h2]
    · rw [if_neg h, mget, mget, mget_mset m x s v z]
      by_cases h2 : s = p.1
      · rw [if_pos h2, if_pos h2, if_neg (by rw [h2]; exact fun e => h e.symm)]
      · rw [if_neg h2, if_neg h2]
theorem mhas_mset {ν : Type} : ∀ (m : List (List UInt8 × ν)) (x s : List UInt8) (v : ν), mhas (mset m x v) s = (decide (s = x) || mhas m s)
  | [], x, s, v => by simp only [mset, mhas]; by_cases h : s = x <;> simp [h]
  | p :: m, x, s, v => by
    rw [mset]
    by_cases h : x = p.1
    · subst h
      rw [if_pos rfl, mhas, mhas]
      by_cases h2 : s = p.1 <;> simp [h2]
    · rw [if_neg h, mhas, mhas, mhas_mset m x s v]
      by_cases h2 : s = p.1
      · simp [h2]
      · simp [h2]
def Cnt (m : Mi) (l : List (List UInt8)) (b : Nat) : Prop := ∀ s, 0 ≤ mget m s 0 ∧ mget m s 0 ≤ (b : Int) ∧ (0 < mget m s 0 ↔ s ∈ l)
theorem Cnt.nil : Cnt [] [] 0 := fun s => ⟨Int.le_refl _, Int.le_refl _, by simp [mget]⟩
theorem Cnt.step {m : Mi} {l : List (List UInt8)} {b : Nat} (h : Cnt m l b) (hb : b < 1000000) (x : List UInt8) : Cnt (mset m x (IntKind.i64.wrap (mget m x 0 + 1))) (l ++ [x]) (b + 1) := by
  intro s
  obtain ⟨h1, h2, h3⟩ := h s
  obtain ⟨k1, k2, k3⟩ := h x
  rw [mget_mset, wrap64 (by omega)]
  by_cases e : s = x
  · subst e; rw [if_pos rfl]; exact ⟨by omega, by omega, by constructor; · simp
                                                            · intro _; omega⟩
  · rw [if_neg e]; refine ⟨h1, by omega, ?_⟩
    rw [h3]; simp [e]
theorem Cnt.has {m : Mi} {l : List (List UInt8)} {b : Nat} (h : Cnt m l b) (s : List UInt8) : decide (0 < mget m s 0) = l.contains s := by
  rw [Bool.eq_iff_iff, decide_eq_true_eq, List.contains_iff_mem]; exact (h s).2.2
theorem Cnt.no {m : Mi} {l : List (List UInt8)} {b : Nat} (h : Cnt m l b) (s : List UInt8) : (mget m s 0 == 0) = !l.contains s := by
  rw [← h.has s, Bool.eq_iff_iff, beq_iff_eq, Bool.not_eq_true', decide_eq_false_iff_not]
  have := (h s).1; omega
theorem take_snoc {α : Type} {l : List α} {i : Nat} {x : α} (h : l[i]? = some x) : l.take (i + 1) = l.take i ++ [x] := by rw [List.take_add_one, h]; rfl
def nmL (l : List Va) : List (List UInt8) := l.map S_api_Var.f_Name
def nmT (l : List Th) : List (List UInt8) := l.map S_api_Thread.f_Name
theorem nmL_at {l : List Va} {i : Nat} {x : Va} (h : l[i]? = some x) : (nmL l)[i]? = some x.f_Name := by rw [nmL, List.getElem?_map, h]; rfl
def locC (md : Int) (l : List Va) (i : Nat) : List Chk := match l[i]? with
  | some v => [(decide ((i : Int) < 6), 12, v.f_At), (!((nmL l).take i).contains v.f_Name, 10, v.f_At), (decide (v.f_N < md), 11, v.f_At)]
  | none => []
theorem vars_m (n : Nat) (md : Int) (l : List Va) (t : List Th) (c : List Cl) (ce ca : Int) (hl : l.length ≤ 5000) (hn : 5010 < n) : ∃ m, Cnt m (nmL l) l.length ∧ m_legal_checker_vars n md l t c ce ca [] [] = some ((foldN (ce, ca) (chF (locC md l) l.length 0)).1, (foldN (ce, ca) (chF (locC md l) l.length 0)).2, m) := by
  obtain ⟨n, rfl⟩ : ∃ j, n = j + 2 := ⟨n - 2, by omega⟩
  obtain ⟨s', ⟨a1, a2⟩, a3⟩ := fold_loop l.length (locC md l) (fun k i (s : Int × Int × Mi) => legal_checker_vars_L0 (n + 1) md l t c [] k (i : Int) s.1 s.2.1 s.2.2) (fun i c s => (s.1, s.2.1) = c ∧ Cnt s.2.2 ((nmL l).take i) i) (fun s => s)
    (fun k s c _ => by rw [legal_checker_vars_L0, bif_not (by omega)]) (fun k i s d hi hs => by
      obtain ⟨e, a, m⟩ := s
      obtain ⟨rfl, hm⟩ := hs
      dsimp only at hm
      have hx : l[i]? = some (l[i]'hi) := List.getElem?_eq_getElem hi
      generalize l[i]'hi = x at *
      refine ⟨((foldN (e, a) (locC md l i)).1, (foldN (e, a) (locC md l i)).2, mset m x.f_Name (IntKind.i64.wrap (mget m x.f_Name 0 + 1))), ⟨rfl, ?_⟩, ?_⟩
      · rw [take_snoc (nmL_at hx)]; exact hm.step (by omega) _
      · dsimp only
        rw [legal_checker_vars_L0, bif_decide (by omega), idx_some hx, Option.bind_some]
        simp only [must_m, Option.bind_some, wrap_one i (show i < 4611686018427387904 by omega), hm.no]
        rw [locC, hx]; rfl) l.length (n + 1) 0 (ce, ca, []) (ce, ca) (by omega) (by omega) ⟨rfl, Cnt.nil⟩
  rw [show ((0 : Nat) : Int) = 0 from rfl] at a3
  refine ⟨s'.2.2, ?_, ?_⟩
  · rw [List.take_of_length_le (by simp [nmL])] at a2; exact a2
  · rw [m_legal_checker_vars, a3, Option.bind_some, ← a1]
def regC (rg lo : List (List UInt8)) (a : Int) (i : Nat) : List Chk := match rg[i]? with
  | some r => [(!(rg.take i).contains r && !lo.contains r, 10, a)]
  | none => []
theorem regs_m (n : Nat) (th : Th) (md : Int) (l : List Va) (t : List Th) (c : List Cl) (ce ca : Int) (m1 : Mi) (m2 : Mm) {lo : List (List UInt8)} {b : Nat} (h1 : Cnt m1 lo b) (hl : th.f_Regs.length ≤ 5000) (hn : 5010 < n) : ∃ m, Cnt m th.f_Regs th.f_Regs.length ∧ legal_checker_thread_L0 n th md l t c m1 m2 n 0 ce ca [] = some (.out ((foldN (ce, ca) (chF (regC th.f_Regs lo th.f_At) th.f_Regs.length 0)).1, (foldN (ce, ca) (chF (regC th.f_Regs lo th.f_At) th.f_Regs.length 0)).2, m)) := by
  obtain ⟨n, rfl⟩ : ∃ j, n = j + 1 := ⟨n - 1, by omega⟩
  obtain ⟨s', ⟨a1, a2⟩, a3⟩ := fold_loop th.f_Regs.length (regC th.f_Regs lo th.f_At) (fun k i (s : Int × Int × Mi) => legal_checker_thread_L0 (n + 1) th md l t c m1 m2 k (i : Int) s.1 s.2.1 s.2.2) (fun i c s => (s.1, s.2.1) = c ∧ Cnt s.2.2 (th.f_Regs.take i) i) (fun s => s)
    (fun k s c _ => by rw [legal_checker_thread_L0, bif_not (by omega)]) (fun k i s d hi hs => by
      obtain ⟨e, a, m⟩ := s
      obtain ⟨rfl, hm⟩ := hs
      dsimp only at hm
      have hx : th.f_Regs[i]? = some (th.f_Regs[i]'hi) := List.getElem?_eq_getElem hi
      generalize th.f_Regs[i]'hi = x at *
      refine ⟨((foldN (e, a) (regC th.f_Regs lo th.f_At i)).1, (foldN (e, a) (regC th.f_Regs lo th.f_At i)).2, mset m x (IntKind.i64.wrap (mget m x 0 + 1))), ⟨rfl, ?_⟩, ?_⟩
      · rw [take_snoc hx]; exact hm.step (by omega) _
      · dsimp only
        have hb := hm x
        have e1 : (mget (mset m x (IntKind.i64.wrap (mget m x 0 + 1))) x 0 == 1) = !(th.f_Regs.take i).contains x := by
          rw [mget_mset, if_pos rfl, wrap64 (by omega), ← hm.no x, Bool.eq_iff_iff, beq_iff_eq, beq_iff_eq]; omega
        rw [legal_checker_thread_L0, bif_decide (by omega), idx_some hx, Option.bind_some, e1]
        simp only [must_m, Option.bind_some, wrap_one i (show i < 4611686018427387904 by omega), h1.no]
        rw [regC, hx]
        dsimp only
        cases (th.f_Regs.take i).contains x <;> rfl) th.f_Regs.length (n + 1) 0 (ce, ca, []) (ce, ca) (by omega) (by omega) ⟨rfl, Cnt.nil⟩
  rw [show ((0 : Nat) : Int) = 0 from rfl] at a3
  refine ⟨s'.2.2, ?_, ?_⟩
  · rw [List.take_of_length_le (Nat.le_refl _)] at a2; exact a2
  · rw [a3, ← a1]
def TM (m : Mm) (l : List Th) : Prop := ∀ s, mhas m s = (nmT l).contains s ∧ match l.find? (fun t => t.f_Name == s) with
  | some t => ∃ b, Cnt (mget m s []) t.f_Regs b
  | none => mget m s [] = []
theorem TM.nil : TM [] [] := fun s => ⟨rfl, rfl⟩
theorem find_none {l : List Th} {s : List UInt8} : l.find? (fun t => t.f_Name == s) = none ↔ (nmT l).contains s = false := by
  rw [List.find?_eq_none, ← Bool.not_eq_true, List.contains_iff_mem, nmT, List.mem_map]
  constructor
  · rintro h ⟨t, ht, e⟩; exact h t ht (by rw [e]; simp)
  · rintro h t ht e; exact h ⟨t, ht, by simpa using e⟩
theorem TM.step {m : Mm} {l : List Th} (h : TM m l) (t : Th) {r : Mi} {b : Nat} (hr : Cnt r t.f_Regs b) : TM (if mhas m t.f_Name then m else mset m t.f_Name r) (l ++ [t]) := by
  intro s
  obtain ⟨h1, h2⟩ := h s
  have hc : (nmT (l ++ [t])).contains s = ((nmT l).contains s || decide (s = t.f_Name)) := by
    rw [Bool.eq_iff_iff, List.contains_iff_mem, Bool.or_eq_true, List.contains_iff_mem, decide_eq_true_eq]; simp [nmT]
  rw [List.find?_append]
  by_cases c : mhas m t.f_Name = true
  · rw [if_pos c]
    refine ⟨?_, ?_⟩
    · rw [hc, h1]; by_cases e : s = t.f_Name
      · subst e; rw [← h1, c]; rfl
      · simp [e]
    · cases hf : l.find? (fun t => t.f_Name == s) with
      | some u => rw [hf] at h2; exact h2
      | none =>
        rw [hf] at h2
        have e : (t.f_Name == s) = false := by
          rw [beq_eq_false_iff_ne]; intro e
          have := find_none.1 hf
          rw [← h1, ← e, c] at this; cases this
        simp only [List.find?_cons, e, List.find?_nil, Option.none_or]
        exact h2
  · rw [if_neg c]
    refine ⟨?_, ?_⟩
    · rw [hc, mhas_mset, h1, Bool.or_comm]
    · rw [mget_mset]
      by_cases e : s = t.f_Name
      · subst e
        have hf : l.find? (fun u => u.f_Name == t.f_Name) = none := find_none.2 (by rw [← h1]; simpa using c)
        rw [hf, if_pos rfl]
        simp only [List.find?_cons, beq_self_eq_true, Option.none_or]
        exact ⟨b, hr⟩
      · rw [if_neg e]
        cases hf : l.find? (fun t => t.f_Name == s) with
        | some u => rw [hf] at h2; exact h2
        | none =>
          rw [hf] at h2
          simp only [List.find?_cons, beq_eq_false_iff_ne.2 (Ne.symm e), List.find?_nil, Option.none_or]
          exact h2
def thrC (md : Int) (lo : List (List UInt8)) (l : List Th) (i : Nat) : List Chk := match l[i]? with
  | some t => (decide ((i : Int) < 4), 12, t.f_At) :: (!((nmT l).take i).contains t.f_Name, 10, t.f_At) :: (decide (((t.f_Regs.length : Nat) : Int) ≤ 6), 12, t.f_At) :: (chF (regC t.f_Regs lo t.f_At) t.f_Regs.length 0 ++ chF (stC (fun x => t.f_Regs.contains x.f_Name) t.f_Regs.contains lo.contains md t.f_Body) t.f_Body.length 0)
  | none => []
theorem thread_m (n : Nat) (i : Nat) (th : Th) (md : Int) (l : List Va) (t : List Th) (c : List Cl) (ce ca : Int) (m1 : Mi) (m2 : Mm) {lo : List (List UInt8)} {b : Nat} (h1 : Cnt m1 lo b) (h2 : TM m2 (t.take i)) (hx : t[i]? = some th) (hr : th.f_Regs.length ≤ 5000) (hb : BodyOk th.f_Body) (hn : 5020 < n) :
    ∃ m2', TM m2' (t.take (i + 1)) ∧ m_legal_checker_thread n (i : Int) th md l t c ce ca m1 m2 = some ((foldN (ce, ca) (thrC md lo t i)).1, (foldN (ce, ca) (thrC md lo t i)).2, m2') := by
  obtain ⟨n, rfl⟩ : ∃ j, n = j + 2 := ⟨n - 2, by omega⟩
  have e2 : mhas m2 th.f_Name = ((nmT t).take i).contains th.f_Name := by rw [(h2 th.f_Name).1, nmT, nmT, List.map_take]
  obtain ⟨r, r1, r2⟩ := regs_m (n + 1) th md l t c (note (note (note (ce, ca) (decide ((i : Int) < 4), 12, th.f_At)) (!((nmT t).take i).contains th.f_Name, 10, th.f_At)) (decide (((th.f_Regs.length : Nat) : Int) ≤ 6), 12, th.f_At)).1 (note (note (note (ce, ca) (decide ((i : Int) < 4), 12, th.f_At)) (!((nmT t).take i).contains th.f_Name, 10, th.f_At)) (decide (((th.f_Regs.length : Nat) : Int) ≤ 6), 12, th.f_At)).2 m1 m2 h1 hr (by omega)
  refine ⟨if mhas m2 th.f_Name then m2 else mset m2 th.f_Name r, ?_, ?_⟩
  · rw [take_snoc hx]; exact h2.step th r1
  · rw [m_legal_checker_thread]
    simp only [must_m, Option.bind_some, e2]
    rw [r2]
    simp only [Option.bind_some]
    rw [body1_m (n + 1) th md l t c _ _ m1 m2 r hb (by omega), body2_m (n + 1) th md l t c _ _ m1 (mset m2 th.f_Name r) r hb (by omega)]
    simp only [Option.bind_some]
    have k1 : (fun s => decide (0 < mget r s 0)) = th.f_Regs.contains := funext fun s => r1.has s
    have k2 : (fun s => decide (0 < mget m1 s 0)) = lo.contains := funext fun s => h1.has s
    have k3 : knB r = fun x => th.f_Regs.contains x.f_Name := funext fun x => r1.has x.f_Name
    rw [k1, k2, k3, thrC, hx]
    simp only [foldN_cons, foldN_app]
    cases ((nmT t).take i).contains th.f_Name <;> rfl
def ofB (t : List Th) (x : Nd) : Bool := match t.find? (fun t => t.f_Name == x.f_In) with
  | some t => t.f_Regs.contains x.f_Name
  | none => false
def clN (lo : List (List UInt8)) (t : List Th) (x : Nd) : Bool := bif x.f_Op == 3 then lo.contains x.f_Name else ofB t x
def clmC (md : Int) (lo : List (List UInt8)) (t : List Th) (l : List Cl) (i : Nat) : List Chk := match l[i]? with
  | some c => (decide ((i : Int) < 8), 12, c.f_At) :: nodesC (clN lo t) md c.f_E
  | none => []
theorem knC_is {m1 : Mi} {m2 : Mm} {lo : List (List UInt8)} {b : Nat} {t : List Th} (h1 : Cnt m1 lo b) (h2 : TM m2 t) : knC m1 m2 = clN lo t := by
  funext x
  rw [knC, clN, h1.has]
  have h := (h2 x.f_In).2
  rw [ofB]
  cases hf : t.find? (fun t => t.f_Name == x.f_In) with
  | some u => rw [hf] at h; obtain ⟨b, h⟩ := h; rw [h.has]
  | none => rw [hf] at h; dsimp only at h; rw [h]; rfl
def checks (p : Pg) : List Chk := (decide (2 ≤ p.f_Mod ∧ p.f_Mod ≤ 16), 11, 0) :: (chF (locC p.f_Mod p.f_Locs) p.f_Locs.length 0 ++ (decide (0 < ((p.f_Threads.length : Nat) : Int)), 12, 0) :: (chF (thrC p.f_Mod (nmL p.f_Locs) p.f_Threads) p.f_Threads.length 0 ++ chF (clmC p.f_Mod (nmL p.f_Locs) p.f_Threads p.f_Claims) p.f_Claims.length 0))
theorem right_body {l : List St} (h : rightB l = true) (hx : ∀ x ∈ l, LightX x) : BodyOk l := by
  obtain ⟨F, f1, f2, _, f4, _⟩ := right_tree h
  have key : ∀ F : SF, F.wf → ∀ x ∈ F.flat, 0 ≤ x.f_Body ∧ x.f_Body ≤ (F.flat.length : Int) := by
    intro F
    induction F with
    | nil => intro _ x hx; cases hx
    | cons y a b r ia ib ir =>
      rintro ⟨h1, h2, ha, hb, hr⟩ x hx
      simp only [SF.flat, List.mem_cons, List.mem_append] at hx
      simp only [SF.flat, List.length_cons, List.length_append]
      rcases hx with rfl | hx | hx | hx
      · omega
      · have := ia ha x hx; omega
      · have := ib hb x hx; omega
      · have := ir hr x hx; omega
  refine ⟨by omega, fun x h => ?_⟩
  have := key F f1 x (by rw [f2]; exact h)
  rw [f2] at this
  obtain ⟨_, _, h3, h4⟩ := hx x h
  simp only [lightE, Bool.and_eq_true, decide_eq_true_eq] at h3 h4
  exact ⟨this.1, by omega, by omega, by omega⟩
theorem right_bodies {p : Pg} (hp : BoundP p) (h : rightP p = true) : ∀ t ∈ p.f_Threads, BodyOk t.f_Body := by
  intro t ht
  simp only [rightP, Bool.and_eq_true, List.all_eq_true] at h
  have := h.2.2.1 t ht
  simp only [thrOk, Bool.and_eq_true] at this
  exact right_body this.2.2.1 (hp.thr t ht).st
theorem L2_L0 (n : Nat) (p : Pg) (y : Int × Int × Mi) : ∀ (k : Nat) (i : Int) (m : Mm) (a b : Int), legal_Check_L2 n p y k i m a b = legal_Check_L0 n p y k i m a b := by
  intro k
  induction k with
  | zero => intros; rfl
  | succ k ih => intros; rw [legal_Check_L2, legal_Check_L0]; simp only [ih]
theorem L3_L1 (n : Nat) (p : Pg) (y : Int × Int × Mi) (q : Mm) : ∀ (k : Nat) (i : Int) (a b : Int), legal_Check_L3 n p y q k i a b = legal_Check_L1 n p y q k i a b := by
  intro k
  induction k with
  | zero => intros; rfl
  | succ k ih => intros; rw [legal_Check_L3, legal_Check_L1]; simp only [ih]
theorem threads_L (n : Nat) (p : Pg) (hp : BoundP p) (hb : ∀ t ∈ p.f_Threads, BodyOk t.f_Body) {m1 : Mi} {b : Nat} (h1 : Cnt m1 (nmL p.f_Locs) b) (a0 a1 : Int) (c : Int × Int) (hn : 5030 < n) : ∃ m2, TM m2 p.f_Threads ∧
    legal_Check_L0 n p (a0, a1, m1) n 0 [] c.1 c.2 = some (.out ((foldN c (chF (thrC p.f_Mod (nmL p.f_Locs) p.f_Threads) p.f_Threads.length 0)).1, (foldN c (chF (thrC p.f_Mod (nmL p.f_Locs) p.f_Threads) p.f_Threads.length 0)).2, m2)) := by
  have ht := hp.threads
  obtain ⟨s', ⟨a1, a2⟩, a3⟩ := fold_loop p.f_Threads.length (thrC p.f_Mod (nmL p.f_Locs) p.f_Threads) (fun k i (s : Int × Int × Mm) => legal_Check_L0 n p (a0, a1, m1) k (i : Int) s.2.2 s.1 s.2.1) (fun i c s => (s.1, s.2.1) = c ∧ TM s.2.2 (p.f_Threads.take i)) (fun s => s)
    (fun k s c _ => by rw [legal_Check_L0, bif_not (by omega)]) (fun k i s d hi hs => by
      obtain ⟨e, a, m⟩ := s
      obtain ⟨rfl, hm⟩ := hs
      dsimp only at hm
      have hx : p.f_Threads[i]? = some (p.f_Threads[i]'hi) := List.getElem?_eq_getElem hi
      have hmem := List.getElem_mem hi
      generalize p.f_Threads[i]'hi = x at *
      have hreg := (hp.thr x hmem).regs
      obtain ⟨m', t1, t2⟩ := thread_m n i x p.f_Mod p.f_Locs p.f_Threads p.f_Claims e a m1 m h1 hm hx (by omega) (hb x hmem) (by omega)
      refine ⟨((foldN (e, a) (thrC p.f_Mod (nmL p.f_Locs) p.f_Threads i)).1, (foldN (e, a) (thrC p.f_Mod (nmL p.f_Locs) p.f_Threads i)).2, m'), ⟨rfl, t1⟩, ?_⟩
      dsimp only
      rw [legal_Check_L0, bif_decide (by omega), idx_some hx, Option.bind_some, t2, Option.bind_some, wrap_one i (by omega)]) p.f_Threads.length n 0 (c.1, c.2, []) c (by omega) (by omega) ⟨rfl, TM.nil⟩
  rw [show ((0 : Nat) : Int) = 0 from rfl] at a3
  rw [List.take_of_length_le (Nat.le_refl _)] at a2
  refine ⟨s'.2.2, a2, ?_⟩
  rw [a3, ← a1]
theorem lclaim_m (n : Nat) (i : Nat) (x : Cl) (md : Int) (l : List Va) (t : List Th) (c : List Cl) (ce ca : Int) (m1 : Mi) (m2 : Mm) {lo : List (List UInt8)} {b : Nat} (h1 : Cnt m1 lo b) (h2 : TM m2 t) (hx : c[i]? = some x) (he : x.f_E.length ≤ 1000) (hn : 1020 < n) : m_legal_checker_claim n (i : Int) x md l t c ce ca m1 m2 = some (foldN (ce, ca) (clmC md lo t c i)) := by
  obtain ⟨n, rfl⟩ : ∃ j, n = j + 2 := ⟨n - 2, by omega⟩
  rw [m_legal_checker_claim, must_m, Option.bind_some]
  rw [nodes0_m (n + 1) x.f_E md l t c _ _ m1 m2 he (by omega), Option.bind_some, knC_is h1 h2, clmC, hx]
  rfl
theorem claims_L (n : Nat) (p : Pg) (hp : BoundP p) {m1 : Mi} {m2 : Mm} {b : Nat} (h1 : Cnt m1 (nmL p.f_Locs) b) (h2 : TM m2 p.f_Threads) (a0 a1 : Int) (c : Int × Int) (hn : 5030 < n) :
    legal_Check_L1 n p (a0, a1, m1) m2 n 0 c.1 c.2 = some (.out (foldN c (chF (clmC p.f_Mod (nmL p.f_Locs) p.f_Threads p.f_Claims) p.f_Claims.length 0))) := by
  have hc := hp.claims
  have he : ∀ x ∈ p.f_Claims, x.f_E.length ≤ 1000 := by
    intro x hx
    have := hp.cl x hx
    simp only [lightE, Bool.and_eq_true, decide_eq_true_eq] at this
    omega
  obtain ⟨s', a1, a3⟩ := fold_loop p.f_Claims.length (clmC p.f_Mod (nmL p.f_Locs) p.f_Threads p.f_Claims) (fun k i (s : Int × Int) => legal_Check_L1 n p (a0, a1, m1) m2 k (i : Int) s.1 s.2) (fun i c s => s = c) (fun s => s)
    (fun k s c _ => by rw [legal_Check_L1, bif_not (by omega)]) (fun k i s d hi hs => by
      subst hs
      have hx : p.f_Claims[i]? = some (p.f_Claims[i]'hi) := List.getElem?_eq_getElem hi
      have hmem := List.getElem_mem hi
      generalize p.f_Claims[i]'hi = x at *
      refine ⟨_, rfl, ?_⟩
      rw [legal_Check_L1, bif_decide (by omega), idx_some hx, Option.bind_some, lclaim_m n i x p.f_Mod p.f_Locs p.f_Threads p.f_Claims s.1 s.2 m1 m2 h1 h2 hx (he x hmem) (by omega), Option.bind_some, wrap_one i (by omega)]) p.f_Claims.length n 0 c c (by omega) (by omega) rfl
  subst a1; exact a3
theorem check_p (n : Nat) (p : Pg) (hp : BoundP p) (hn : 6100 < n) : m_legal_Check n p = some (bif rightP p then foldN (0, 0) (checks p) else (8, 0)) := by
  have hl := hp.locs
  obtain ⟨n, rfl⟩ : ∃ j, n = j + 2 := ⟨n - 2, by omega⟩
  rw [m_legal_Check, right_p (n + 1) p hp (by omega), Option.bind_some]
  cases hr : rightP p with
  | false => rfl
  | true =>
    have hb := right_bodies hp hr
    have main : ∀ c0 : Int × Int, ∃ m, Cnt m (nmL p.f_Locs) p.f_Locs.length ∧ m_legal_checker_vars (n + 1) p.f_Mod p.f_Locs p.f_Threads p.f_Claims c0.1 c0.2 [] [] = some ((foldN c0 (chF (locC p.f_Mod p.f_Locs) p.f_Locs.length 0)).1, (foldN c0 (chF (locC p.f_Mod p.f_Locs) p.f_Locs.length 0)).2, m) := fun c0 => vars_m (n + 1) p.f_Mod p.f_Locs p.f_Threads p.f_Claims c0.1 c0.2 (by omega) (by omega)
    rw [cond_true, cond_true]
    simp only [must_m, Option.bind_some]
    by_cases c : 2 ≤ p.f_Mod
    · rw [bif_decide c]
      obtain ⟨m, m1, m2⟩ := main (note (0, 0) (decide (p.f_Mod ≤ 16), 11, 0))
      rw [m2, Option.bind_some]
      dsimp only
      obtain ⟨q, q1, q2⟩ := threads_L (n + 1) p hp hb m1 (foldN (note (0, 0) (decide (p.f_Mod ≤ 16), 11, 0)) (chF (locC p.f_Mod p.f_Locs) p.f_Locs.length 0)).1 (foldN (note (0, 0) (decide (p.f_Mod ≤ 16), 11, 0)) (chF (locC p.f_Mod p.f_Locs) p.f_Locs.length 0)).2 (note (foldN (note (0, 0) (decide (p.f_Mod ≤ 16), 11, 0)) (chF (locC p.f_Mod p.f_Locs) p.f_Locs.length 0)) (decide (0 < ((p.f_Threads.length : Nat) : Int)), 12, 0)) (by omega)
      rw [q2, Option.bind_some]
      dsimp only
      rw [(claims_L (n + 1) p hp m1 q1 _ _ _ (by omega)), Option.bind_some, checks]
      simp only [foldN_cons, foldN_app, c, true_and]
    · rw [bif_not c]
      obtain ⟨m, m1, m2⟩ := main (note (0, 0) (false, 11, 0))
      rw [m2, Option.bind_some]
      dsimp only
      obtain ⟨q, q1, q2⟩ := threads_L (n + 1) p hp hb m1 (foldN (note (0, 0) (false, 11, 0)) (chF (locC p.f_Mod p.f_Locs) p.f_Locs.length 0)).1 (foldN (note (0, 0) (false, 11, 0)) (chF (locC p.f_Mod p.f_Locs) p.f_Locs.length 0)).2 (note (foldN (note (0, 0) (false, 11, 0)) (chF (locC p.f_Mod p.f_Locs) p.f_Locs.length 0)) (decide (0 < ((p.f_Threads.length : Nat) : Int)), 12, 0)) (by omega)
      rw [L2_L0, q2, Option.bind_some]
      dsimp only
      rw [L3_L1, (claims_L (n + 1) p hp m1 q1 _ _ _ (by omega)), Option.bind_some, checks]
      simp only [foldN_cons, foldN_app, c, false_and, decide_false]
end Go.Proofs.Ytpnhafdimkmbbaa
end
section
namespace Go.Proofs.Ytpnhafdimkmbbaa
set_option linter.unusedVariables false
set_option linter.unusedSimpArgs false
set_option maxRecDepth 10000
def posF (s : List UInt8) : List (List UInt8) → Nat → Int
  | [], _ => -1
  | x :: l, i => bif x == s then (i : Int) else posF s l (i + 1)
theorem pos_neg (s : List UInt8) : ∀ (l : List (List UInt8)) (b : Nat), decide (posF s l b < 0) = !l.contains s
  | [], b => rfl
  | x :: l, b => by
    rw [posF, List.contains_cons, Bool.not_or, ← pos_neg s l (b + 1)]
    cases hx : x == s with
    | true =>
      rw [beq_iff_eq] at hx
      subst hx; simp
    | false =>
      have : (s == x) = false := by rw [beq_eq_false_iff_ne] at hx ⊢; exact fun e => hx e.symm
      rw [this]; rfl
theorem index_loop {F : Nat → Int → Option (LR Unit Int)} (s : List UInt8) (l : List (List UInt8)) (h0 : ∀ k, F (k + 1) ((l.length : Nat) : Int) = some (.out ())) (h1 : ∀ k i x, i < l.length → l[i]? = some x → F (k + 1) (i : Int) = bif x == s then some (.ret (i : Int)) else F k ((i + 1 : Nat) : Int)) :
    ∀ (m i k : Nat), i + m = l.length → m < k → (F k (i : Int)).bind (fun o => match o with | .out _ => some (-1) | .ret v => some v) = some (posF s (l.drop i) i) := by
  intro m
  induction m with
  | zero =>
    intro i k hi hk
    obtain ⟨k, rfl⟩ : ∃ j, k = j + 1 := ⟨k - 1, by omega⟩
    obtain rfl : i = l.length := by omega
    rw [h0, List.drop_length]; rfl
  | succ m ih =>
    intro i k hi hk
    obtain ⟨k, rfl⟩ : ∃ j, k = j + 1 := ⟨k - 1, by omega⟩
    have hlt : i < l.length := by omega
    rw [h1 k i l[i] hlt (List.getElem?_eq_getElem hlt), List.drop_eq_getElem_cons hlt, posF]
    cases l[i] == s with
    | true => rfl
    | false => exact ih (i + 1) k (by omega) (by omega)
theorem ErL_nodes (kn : Nd → Bool) (md : Int) (l : List Nd) : ErL (nodesC kn md l) := by
  intro k hk
  obtain ⟨x, _, hx⟩ := List.mem_flatMap.1 hk
  unfold nodeC at hx
  revert hx
  cases x.f_Op == 1
  · cases x.f_Op == 2 || (x.f_Op == 3 || x.f_Op == 4)
    · intro h; cases h
    · intro h; rw [cond_false, cond_true, List.mem_singleton] at h; rw [h]; show (9 : Int) ≠ 0; decide
  · intro h; rw [cond_true, List.mem_singleton] at h; rw [h]; show (11 : Int) ≠ 0; decide
theorem badL_mem : ∀ (l : List Chk) (b : Int × Int), badL l = some b → ∃ k ∈ l, k.2 = b ∧ k.1 = false
  | [], b, h => by cases h
  | k :: l, b, h => by
    rw [badL] at h
    cases hk : k.1 with
    | true =>
      rw [hk] at h
      obtain ⟨q, q1, q2⟩ := badL_mem l b h
      exact ⟨q, List.mem_cons_of_mem _ q1, q2⟩
    | false => rw [hk] at h; exact ⟨k, List.mem_cons_self .., Option.some.inj h, hk⟩
theorem badL_ne {l : List Chk} (h : ErL l) {b : Int × Int} (e : badL l = some b) : (b.1 != 0) = true := by
  obtain ⟨k, k1, k2, _⟩ := badL_mem l b e
  rw [← k2, bne_iff_ne]; exact h k k1
theorem bad_cases (l : List Chk) (h : ErL l) : (badL l = none ∧ (badL l).getD (0, 0) = (0, 0)) ∨ ∃ b, badL l = some b ∧ (b.1 != 0) = true ∧ (badL l).getD (0, 0) = b := by
  cases hb : badL l with
  | none => exact .inl ⟨rfl, rfl⟩
  | some b => exact .inr ⟨b, rfl, badL_ne h hb, rfl⟩
end Go.Proofs.Ytpnhafdimkmbbaa
end
section
namespace Go.Proofs.Ytpnhafdimkmbbaa
set_option linter.unusedVariables false
set_option linter.unusedSimpArgs false
set_option maxRecDepth 10000
theorem ErL_ch (g : Nat → List Chk) (h : ∀ i, ErL (g i)) : ∀ m i, ErL (chF g m i)
  | 0, i => fun k hk => by cases hk
  | m + 1, i => fun k hk => by
    rw [chF, List.mem_append] at hk
    rcases hk with hk | hk
    · exact h i k hk
    · exact ErL_ch g h m (i + 1) k hk
theorem ErL_app {a b : List Chk} (h1 : ErL a) (h2 : ErL b) : ErL (a ++ b) := fun k hk => by
  rcases List.mem_append.1 hk with h | h
  · exact h1 k h
  · exact h2 k h
theorem ErL_cons {k : Chk} {b : List Chk} (h1 : k.2.1 ≠ 0) (h2 : ErL b) : ErL (k :: b) := fun q hq => by
  rcases List.mem_cons.1 hq with h | h
  · rw [h]; exact h1
  · exact h2 q h
theorem ErL_nil : ErL [] := fun k hk => by cases hk
theorem ErL_loc (md : Int) (l : List Va) (i : Nat) : ErL (locC md l i) := by
  unfold locC
  cases l[i]? with
  | none => exact ErL_nil
  | some v => exact ErL_cons (show (12 : Int) ≠ 0 by decide) (ErL_cons (show (10 : Int) ≠ 0 by decide) (ErL_cons (show (11 : Int) ≠ 0 by decide) ErL_nil))
theorem ErL_reg (rg lo : List (List UInt8)) (a : Int) (i : Nat) : ErL (regC rg lo a i) := by
  unfold regC
  cases rg[i]? with
  | none => exact ErL_nil
  | some r => exact ErL_cons (show (10 : Int) ≠ 0 by decide) ErL_nil
theorem ErL_st (rk : Nd → Bool) (rr lk : List UInt8 → Bool) (md : Int) (l : List St) (i : Nat) : ErL (stC rk rr lk md l i) := by
  unfold stC
  cases l[i]? with
  | none => exact ErL_nil
  | some x =>
    refine ErL_app ?_ (ErL_cons (show (9 : Int) ≠ 0 by decide) (ErL_cons (show (9 : Int) ≠ 0 by decide) (ErL_app (ErL_nodes _ _ _) (ErL_nodes _ _ _))))
    cases x.f_Kind == 13
    · exact ErL_nil
    · exact ErL_cons (show (13 : Int) ≠ 0 by decide) ErL_nil
theorem ErL_thr (md : Int) (lo : List (List UInt8)) (l : List Th) (i : Nat) : ErL (thrC md lo l i) := by
  unfold thrC
  cases l[i]? with
  | none => exact ErL_nil
  | some t => exact ErL_cons (show (12 : Int) ≠ 0 by decide) (ErL_cons (show (10 : Int) ≠ 0 by decide) (ErL_cons (show (12 : Int) ≠ 0 by decide) (ErL_app (ErL_ch _ (ErL_reg _ _ _) _ _) (ErL_ch _ (ErL_st _ _ _ _ _) _ _))))
theorem ErL_clm (md : Int) (lo : List (List UInt8)) (t : List Th) (l : List Cl) (i : Nat) : ErL (clmC md lo t l i) := by
  unfold clmC
  cases l[i]? with
  | none => exact ErL_nil
  | some c => exact ErL_cons (show (12 : Int) ≠ 0 by decide) (ErL_nodes _ _ _)
theorem ErL_checks (p : Pg) : ErL (checks p) := ErL_cons (show (11 : Int) ≠ 0 by decide) (ErL_app (ErL_ch _ (ErL_loc _ _) _ _) (ErL_cons (show (12 : Int) ≠ 0 by decide) (ErL_app (ErL_ch _ (ErL_thr _ _ _) _ _) (ErL_ch _ (ErL_clm _ _ _ _) _ _))))
def checkR (p : Pg) : Int × Int := bif rightP p then (badL (checks p)).getD (0, 0) else (8, 0)
theorem check_p2 (n : Nat) (p : Pg) (hp : BoundP p) (hn : 6100 < n) : m_legal_Check n p = some (checkR p) := by
  rw [check_p n p hp hn, checkR, foldN_bad _ _ (ErL_checks p)]; rfl
end Go.Proofs.Ytpnhafdimkmbbaa
end
section
namespace Go.Proofs.Ytpnhafdimkmbbaa
set_option linter.unusedVariables false
set_option linter.unusedSimpArgs false
set_option maxRecDepth 10000
def lgX (x : St) : Bool := !decide (100 < ((x.f_Reg.length : Nat) : Int)) && (!decide (100 < ((x.f_Loc.length : Nat) : Int)) && (lightE x.f_E && lightE x.f_F))
theorem lgX_is {x : St} (h : lgX x = true) : LightX x := by
  simp only [lgX, Bool.and_eq_true, Bool.not_eq_true', decide_eq_false_iff_not] at h
  exact ⟨by omega, by omega, h.2.2.1, h.2.2.2⟩
theorem light3_s (n : Nat) (l : List St) (hn : 400 < n) : m_ref03_Light n l = some (!decide (60 < ((l.length : Nat) : Int)) && l.all lgX) := by
  obtain ⟨n, rfl⟩ : ∃ j, n = j + 1 := ⟨n - 1, by omega⟩
  rw [m_ref03_Light]
  by_cases c : 60 < ((l.length : Nat) : Int)
  · rw [bif_decide c, decide_eq_true c]; rfl
  have hL : ref03_Light_L0 n l n 0 = bif l.all lgX then some (.out ()) else some (.ret false) := by
    refine all_list l (fun k i => ref03_Light_L0 n l k (i : Int)) _ (fun k => ?_) (fun k i x hi hx => ?_) (by omega)
    · rw [ref03_Light_L0, bif_not (by omega)]
    · rw [ref03_Light_L0, bif_decide (by omega)]
      simp only [idx_some hx, Option.bind_some, rlightE_m n x.f_E (by omega), rlightE_m n x.f_F (by omega), wrap_one i (show i < 4611686018427387904 by omega)]
      unfold lgX
      cases decide (100 < ((x.f_Reg.length : Nat) : Int)) <;> cases decide (100 < ((x.f_Loc.length : Nat) : Int)) <;> cases lightE x.f_E <;> cases lightE x.f_F <;> rfl
  rw [bif_not c, decide_eq_false c, hL]
  cases l.all lgX <;> rfl
def lgT (t : Th) : Bool := !decide (100 < ((t.f_Name.length : Nat) : Int)) && (!decide (20 < ((t.f_Regs.length : Nat) : Int)) && ((!decide (60 < ((t.f_Body.length : Nat) : Int)) && t.f_Body.all lgX) && t.f_Regs.all (fun r => !decide (100 < ((r.length : Nat) : Int)))))
def lgP (p : Pg) : Bool := !decide (20 < ((p.f_Locs.length : Nat) : Int)) && (!decide (8 < ((p.f_Threads.length : Nat) : Int)) && (!decide (12 < ((p.f_Claims.length : Nat) : Int)) && (p.f_Locs.all (fun v => !decide (100 < ((v.f_Name.length : Nat) : Int))) && (p.f_Threads.all lgT && p.f_Claims.all (fun c => lightE c.f_E)))))
theorem light4_m (n : Nat) (p : Pg) (hn : 1000 < n) : m_ref04_Light n p = some (lgP p) := by
  obtain ⟨n, rfl⟩ : ∃ j, n = j + 1 := ⟨n - 1, by omega⟩
  rw [m_ref04_Light, lgP]
  by_cases c1 : 20 < ((p.f_Locs.length : Nat) : Int)
  · rw [bif_decide c1, decide_eq_true c1]; rfl
  by_cases c2 : 8 < ((p.f_Threads.length : Nat) : Int)
  · rw [bif_not c1, bif_decide c2, decide_eq_true c2, decide_eq_false c1]; rfl
  by_cases c3 : 12 < ((p.f_Claims.length : Nat) : Int)
  · rw [bif_not c1, bif_not c2, bif_decide c3, decide_eq_true c3, decide_eq_false c1, decide_eq_false c2]; rfl
  have hA : ref04_Light_L0 n p n 0 = bif p.f_Locs.all (fun v => !decide (100 < ((v.f_Name.length : Nat) : Int))) then some (.out ()) else some (.ret false) := by
    refine all_list p.f_Locs (fun k i => ref04_Light_L0 n p k (i : Int)) _ (fun k => ?_) (fun k i x hi hx => ?_) (by omega)
    · rw [ref04_Light_L0, bif_not (by omega)]
    · rw [ref04_Light_L0, bif_decide (by omega), idx_some hx, Option.bind_some, wrap_one i (by omega)]
      cases decide (100 < ((x.f_Name.length : Nat) : Int)) <;> rfl
  have hB : ref04_Light_L1 n p n 0 = bif p.f_Threads.all lgT then some (.out ()) else some (.ret false) := by
    refine all_list p.f_Threads (fun k i => ref04_Light_L1 n p k (i : Int)) _ (fun k => ?_) (fun k i x hi hx => ?_) (by omega)
    · rw [ref04_Light_L1, bif_not (by omega)]
    · rw [ref04_Light_L1, bif_decide (by omega), idx_some hx, Option.bind_some, light3_s n x.f_Body (by omega), wrap_one i (by omega)]
      unfold lgT
      by_cases d2 : 20 < ((x.f_Regs.length : Nat) : Int)
      · rw [bif_decide d2, decide_eq_true d2]; cases decide (100 < ((x.f_Name.length : Nat) : Int)) <;> rfl
      have hR : ref04_Light_L2 n x n 0 = bif x.f_Regs.all (fun r => !decide (100 < ((r.length : Nat) : Int))) then some (.out ()) else some (.ret false) := by
        refine all_list x.f_Regs (fun k i => ref04_Light_L2 n x k (i : Int)) _ (fun k => ?_) (fun k i y hi hy => ?_) (by omega)
        · rw [ref04_Light_L2, bif_not (by omega)]
        · rw [ref04_Light_L2, bif_decide (by omega), idx_some hy, Option.bind_some, wrap_one i (by omega)]
          cases decide (100 < ((y.length : Nat) : Int)) <;> rfl
      rw [bif_not d2, decide_eq_false d2, hR]
      simp only [Option.bind_some]
      cases decide (100 < ((x.f_Name.length : Nat) : Int)) <;> cases (!decide (60 < ((x.f_Body.length : Nat) : Int)) && x.f_Body.all lgX) <;> cases x.f_Regs.all (fun r => !decide (100 < ((r.length : Nat) : Int))) <;> rfl
  have hC : ref04_Light_L3 n p n 0 = bif p.f_Claims.all (fun c => lightE c.f_E) then some (.out ()) else some (.ret false) := by
    refine all_list p.f_Claims (fun k i => ref04_Light_L3 n p k (i : Int)) _ (fun k => ?_) (fun k i x hi hx => ?_) (by omega)
    · rw [ref04_Light_L3, bif_not (by omega)]
    · rw [ref04_Light_L3, bif_decide (by omega), idx_some hx, Option.bind_some, rlightE_m n x.f_E (by omega), Option.bind_some, wrap_one i (by omega)]
  rw [bif_not c1, bif_not c2, bif_not c3, decide_eq_false c1, decide_eq_false c2, decide_eq_false c3, hA, hB, hC]
  cases p.f_Locs.all (fun v => !decide (100 < ((v.f_Name.length : Nat) : Int))) <;> cases p.f_Threads.all lgT <;> cases p.f_Claims.all (fun c => lightE c.f_E) <;> rfl
theorem lgP_bound {p : Pg} (h : lgP p = true) : BoundP p ∧ p.f_Locs.length ≤ 20 := by
  simp only [lgP, lgT, Bool.and_eq_true, Bool.not_eq_true', decide_eq_false_iff_not, List.all_eq_true] at h
  obtain ⟨h1, h2, h3, h4, h5, h6⟩ := h
  refine ⟨⟨by omega, by omega, by omega, fun v hv => ?_, fun t ht => ?_, h6⟩, by omega⟩
  · have := h4 v hv; omega
  · obtain ⟨a1, a2, ⟨a3, a4⟩, a5⟩ := h5 t ht
    exact ⟨by omega, by omega, fun r hr => by have := a5 r hr; omega, by omega, fun x hx => lgX_is (a4 x hx)⟩
end Go.Proofs.Ytpnhafdimkmbbaa
end
section
namespace Go.Proofs.Ytpnhafdimkmbbaa
set_option linter.unusedVariables false
set_option linter.unusedSimpArgs false
set_option maxRecDepth 10000
theorem badL_none : ∀ l : List Chk, badL l = none ↔ ∀ k ∈ l, k.1 = true
  | [] => ⟨fun _ k hk => (by cases hk), fun _ => rfl⟩
  | k :: l => by
    rw [badL, List.forall_mem_cons, ← badL_none l]
    cases k.1 <;> simp
theorem mem_chF (g : Nat → List Chk) (k : Chk) : ∀ m i, k ∈ chF g m i ↔ ∃ j, i ≤ j ∧ j < i + m ∧ k ∈ g j
  | 0, i => by
    constructor
    · intro h; cases h
    · rintro ⟨j, h1, h2, _⟩; omega
  | m + 1, i => by
    rw [chF, List.mem_append, mem_chF g k m (i + 1)]
    constructor
    · rintro (h | ⟨j, h1, h2, h3⟩)
      · exact ⟨i, by omega, by omega, h⟩
      · exact ⟨j, by omega, by omega, h3⟩
    · rintro ⟨j, h1, h2, h3⟩
      by_cases e : j = i
      · rw [e] at h3; exact .inl h3
      · exact .inr ⟨j, by omega, by omega, h3⟩
def Good (p : Pg) : Prop := rightP p = true ∧ ∀ k ∈ checks p, k.1 = true
theorem check_good {p : Pg} (h : Good p) : checkR p = (0, 0) := by
  unfold checkR
  rw [h.1, (badL_none _).2 h.2]; rfl
theorem check_bad {p : Pg} (h : ¬ Good p) : ((checkR p).1 == 0) = false := by
  rw [beq_eq_false_iff_ne]
  unfold checkR
  cases hr : rightP p with
  | false => rw [cond_false]; decide
  | true =>
    rw [cond_true]
    rcases bad_cases _ (ErL_checks p) with ⟨e1, _⟩ | ⟨b, e1, e2, e3⟩
    · exact absurd ⟨hr, (badL_none _).1 e1⟩ h
    · rw [e3]; rw [bne_iff_ne] at e2; exact e2
theorem good_iff (p : Pg) : ((checkR p).1 = 0) ↔ Good p := by
  constructor
  · intro h
    by_cases g : Good p
    · exact g
    · have := check_bad g; rw [h] at this; cases this
  · intro h; rw [check_good h]
theorem mem_checks (p : Pg) (k : Chk) : k ∈ checks p ↔ k = (decide (2 ≤ p.f_Mod ∧ p.f_Mod ≤ 16), 11, 0) ∨ (∃ j, j < p.f_Locs.length ∧ k ∈ locC p.f_Mod p.f_Locs j) ∨ k = (decide (0 < ((p.f_Threads.length : Nat) : Int)), 12, 0) ∨ (∃ j, j < p.f_Threads.length ∧ k ∈ thrC p.f_Mod (nmL p.f_Locs) p.f_Threads j) ∨ ∃ j, j < p.f_Claims.length ∧ k ∈ clmC p.f_Mod (nmL p.f_Locs) p.f_Threads p.f_Claims j := by
  unfold checks
  rw [List.mem_cons, List.mem_append, List.mem_cons, List.mem_append, mem_chF, mem_chF, mem_chF]
  simp only [Nat.zero_le, true_and, Nat.zero_add]
end Go.Proofs.Ytpnhafdimkmbbaa
end
