/- Parts of the proofs: what they lean on. Conditions: none. -/
import Derived.Test.YtgelgahilfojdaaGreatProg
import Derived.Test.YtgelgahilfojdaaGreatGenS11
section
namespace Go.Proofs.YtgelgahilfojdaaGreat
set_option linter.unusedVariables false
structure S_api_Var where
  f_Name : (List UInt8)
  f_N : Int
  f_At : Int
  deriving DecidableEq, Inhabited
def c_api_Var (x : S_api_Var) : List AV := [AV.str (x.f_Name), AV.int .i64 (x.f_N), AV.int .i64 (x.f_At)]
structure S_api_Node where
  f_Op : Int
  f_N : Int
  f_Name : (List UInt8)
  f_In : (List UInt8)
  f_At : Int
  deriving DecidableEq, Inhabited
def c_api_Node (x : S_api_Node) : List AV := [AV.int .i64 (x.f_Op), AV.int .i64 (x.f_N), AV.str (x.f_Name), AV.str (x.f_In), AV.int .i64 (x.f_At)]
structure S_api_Stmt where
  f_Kind : Int
  f_Reg : (List UInt8)
  f_Loc : (List UInt8)
  f_E : (List S_api_Node)
  f_F : (List S_api_Node)
  f_Ne : Bool
  f_Body : Int
  f_Else : Int
  f_At : Int
  deriving DecidableEq, Inhabited
def c_api_Stmt (x : S_api_Stmt) : List AV := [AV.int .i64 (x.f_Kind), AV.str (x.f_Reg), AV.str (x.f_Loc), AV.sl 5 (List.map c_api_Node (x.f_E)), AV.sl 5 (List.map c_api_Node (x.f_F)), AV.bool (x.f_Ne), AV.int .i64 (x.f_Body), AV.int .i64 (x.f_Else), AV.int .i64 (x.f_At)]
structure S_api_Thread where
  f_Name : (List UInt8)
  f_Regs : (List (List UInt8))
  f_Body : (List S_api_Stmt)
  f_At : Int
  deriving DecidableEq, Inhabited
def c_api_Thread (x : S_api_Thread) : List AV := [AV.str (x.f_Name), AV.sl 1 (List.map encS (x.f_Regs)), AV.sl 9 (List.map c_api_Stmt (x.f_Body)), AV.int .i64 (x.f_At)]
structure S_api_Claim where
  f_Kind : Int
  f_E : (List S_api_Node)
  f_At : Int
  deriving DecidableEq, Inhabited
def c_api_Claim (x : S_api_Claim) : List AV := [AV.int .i64 (x.f_Kind), AV.sl 5 (List.map c_api_Node (x.f_E)), AV.int .i64 (x.f_At)]
structure S_api_Prog where
  f_Mod : Int
  f_Locs : (List S_api_Var)
  f_Threads : (List S_api_Thread)
  f_Claims : (List S_api_Claim)
  deriving DecidableEq, Inhabited
structure S_api_Token where
  f_Kind : Int
  f_Text : (List UInt8)
  f_N : Int
  f_At : Int
  deriving DecidableEq, Inhabited
def c_api_Token (x : S_api_Token) : List AV := [AV.int .i64 (x.f_Kind), AV.str (x.f_Text), AV.int .i64 (x.f_N), AV.int .i64 (x.f_At)]
structure S_ref02_got where
  f_l : (List S_api_Node)
  f_to : Int
  f_e : Int
  f_at : Int
  deriving DecidableEq, Inhabited
structure S_stmt_kind where
  f_word : (List UInt8)
  f_form : (List UInt8)
  f_body : Bool
  f_more : Bool
  deriving DecidableEq, Inhabited
def c_stmt_kind (x : S_stmt_kind) : List AV := [AV.str (x.f_word), AV.str (x.f_form), AV.bool (x.f_body), AV.bool (x.f_more)]
theorem ls : (∀ {α β : Type} {f : α → β} {l : List α}, (l.map f).length = l.length) ∧ (∀ {α β : Type} (f : α → β) (l : List α), List.take l.length (List.map f l) = List.map f l) ∧ Program.cellsOf Tryz.prog 125 = 1 ∧ Program.cellsOf Tryz.prog 57 = 3 ∧ Program.cellsOf Tryz.prog 85 = 5 ∧ Program.cellsOf Tryz.prog 82 = 9 ∧ Program.cellsOf Tryz.prog 52 = 4 ∧ Program.cellsOf Tryz.prog 70 = 4 ∧ Program.cellsOf Tryz.prog 48 = 3 ∧ Program.cellsOf Tryz.prog 46 = 4 ∧ Program.cellsOf Tryz.prog 3 = 1 ∧ Program.cellsOf Tryz.prog 145 = 4 ∧ Program.cellsOf Tryz.prog 9 = 1 ∧ Program.cellsOf Tryz.prog 5 = 1 :=
  ⟨List.length_map .., take_map_len, by kernel_rfl, by kernel_rfl, by kernel_rfl, by kernel_rfl, by kernel_rfl, by kernel_rfl, by kernel_rfl, by kernel_rfl, by kernel_rfl, by kernel_rfl, by kernel_rfl, by kernel_rfl⟩
theorem lt : (∀ {α β : Type} (f : α → β) (l : List α), List.take l.length (List.map f l) = List.map f l) ∧ Program.cellsOf Tryz.prog 125 = 1 ∧ Program.cellsOf Tryz.prog 57 = 3 ∧ Program.cellsOf Tryz.prog 85 = 5 ∧ Program.cellsOf Tryz.prog 82 = 9 ∧ Program.cellsOf Tryz.prog 52 = 4 ∧ Program.cellsOf Tryz.prog 70 = 4 ∧ Program.cellsOf Tryz.prog 48 = 3 ∧ Program.cellsOf Tryz.prog 46 = 4 ∧ Program.cellsOf Tryz.prog 3 = 1 ∧ Program.cellsOf Tryz.prog 145 = 4 ∧ Program.cellsOf Tryz.prog 9 = 1 ∧ Program.cellsOf Tryz.prog 5 = 1 :=
  ls.2
theorem cq {ρ : Type} {cont : Tm → Hp → Option ρ} {tm tm' : Tm} {hp hp' : Hp} {r : Option ρ} (h : cont tm' hp' = r) (h1 : tm = tm' := by first | rfl | (simp only [ls] <;> rfl) | (simp only [ls, List.map_append, List.map_cons, List.map_nil, List.append_nil, List.length_set, length_copyL] <;> rfl)) (h2 : hp = hp' := by first | rfl | (simp only [ls] <;> rfl) | (simp only [ls, List.map_append, List.map_cons, List.map_nil, List.append_nil, List.length_set, length_copyL] <;> rfl)) : cont tm hp = r := cont_eq h h1 h2
theorem kq {ρ : Type} {K : Ex → Tm → Hp → Option ρ} {e : Ex} {tm tm' : Tm} {hp hp' : Hp} {r : Option ρ} (h : K e tm' hp' = r) (h1 : tm = tm' := by first | rfl | (simp only [ls] <;> rfl) | (simp only [ls, List.map_append, List.map_cons, List.map_nil, List.append_nil, List.length_set, length_copyL] <;> rfl)) (h2 : hp = hp' := by first | rfl | (simp only [ls] <;> rfl) | (simp only [ls, List.map_append, List.map_cons, List.map_nil, List.append_nil, List.length_set, length_copyL] <;> rfl)) : K e tm hp = r := kont_eq h h1 h2
theorem fq {ρ : Type} {x y z : Option ρ} (h : x = y := by first | rfl | (simp only [length_copyL, List.length_set] <;> rfl) | (simp only [ls] <;> rfl)) (h2 : y = z := by first | rfl | (simp only [List.map_take, List.map_drop]; done) | (simp only [List.map_take, List.map_drop] <;> rfl) | (simp only [ls, List.drop_zero, List.length_set, length_copyL] <;> rfl)) : x = z := h.trans h2
theorem c0 : ((0 : Nat) : Int) = 0 := rfl
theorem rq {ρ : Type} {x z : Option ρ} (h : x = z := by first | rfl | (simp only [ls] <;> rfl)) : x = z := h
abbrev iA (x : Int) : AV := .int .i64 x
abbrev bA (x : Bool) : AV := .bool x
abbrev sA (x : List UInt8) : AV := .str x
theorem sj {α : Type} {a r : α} (h : some a = some r) : a = r := Option.some.inj h
theorem lq {ρ σ τ ν : Type} {body : Tm → Hp → (Ex → Tm → Hp → Option ρ) → Option ρ} {keep : Nat → List Nat} {h0 : Nat} {K : Ex → Tm → Hp → Option ρ} {r : Option ρ} (id : Nat) (tmOf : σ → (Nat → Nat) → Tm) (hpOf : σ → (Nat → Nat) → Hp) (tmX : τ → (Nat → Nat) → Tm) (hpX : τ → (Nat → Nat) → Hp) (encR : ν → ρ) (L : Nat → σ → Option (LR τ ν)) (hL : ∀ s, L 0 s = none) (o : LR τ ν) (n : Nat) (s : σ) (a : Nat → Nat) {tm : Tm} {hp : Hp} (h : L n s = some o)
    (hround : ∀ (k : Nat) (s : σ) (a : Nat → Nat) (K' : Ex → Tm → Hp → Option ρ) (cont : Tm → Hp → Option ρ), (∀ tm hp, K' .ret tm hp = K .ret tm hp) → (∀ s' a', L k s' = some o → cont (tmOf s' a') (hpOf s' a') = r) → L (k + 1) s = some o → LRes K' id tmX hpX encR r o →
      forceL force (fun tm => forceHp (fun hp => body tm hp (fun e tm hp => forceL force (fun tm => forceHp (fun hp => match e with
        | .normal => cont tm hp
        | .exit id => K' (.exit id) tm hp
        | .ret => K' .ret tm hp) (waneHp h0 hp)) (keepTm (keep (exMode e)) h0 hp 0 tm))) (hpOf s a)) (tmOf s a) = r)
    (hx : LRes K id tmX hpX encR r o)
    (h1 : tm = tmOf s a := by first | rfl | (simp only [ls] <;> rfl) | (simp only [ls, List.map_append, List.map_cons, List.map_nil, List.append_nil, List.length_set, length_copyL] <;> rfl)) (h2 : hp = hpOf s a := by first | rfl | (simp only [ls] <;> rfl) | (simp only [ls, List.map_append, List.map_cons, List.map_nil, List.append_nil, List.length_set, length_copyL] <;> rfl)) : rounds body keep h0 n tm hp K = r :=
  rounds_sim id tmOf hpOf tmX hpX encR L hL o hround n s a tm hp h hx h1 h2
theorem lrc {ρ τ ν : Type} {K : Ex → Tm → Hp → Option ρ} {id : Nat} {tmX : τ → (Nat → Nat) → Tm} {hpX : τ → (Nat → Nat) → Hp} {encR : ν → ρ} {r : Option ρ} {o : LR τ ν} (h1 : ∀ v, o = .ret v → r = some (encR v)) (h2 : ∀ t a, o = .out t → K (.exit id) (tmX t a) (hpX t a) = r) : LRes K id tmX hpX encR r o := by
  cases o with
  | out t => exact fun a => h2 t a rfl
  | ret v => exact h1 v rfl
theorem nn {α : Type} {r : α} {P : Prop} : (none : Option α) = some r → P := fun h => by cases h
theorem chk_k {α : Type} {c : Bool} {a : Option α} {r : α} {G : Prop} (h1 : c = true → a = some r → G) : (bif c then a else none) = some r → G := fun h => chk_some2 h h1
theorem br {α ρ : Type} {c : Bool} {a b : Option α} {r : α} {L L1 L2 R : ρ} (k1 : a = some r → L1 = R) (k2 : b = some r → L2 = R) (w1 : c = true → L = L1 := by (intro hc; simp only [hc, ls]; (conv => lhs; whnf); try exact rfl)) (w2 : c = false → L = L2 := by (intro hc; simp only [hc, ls]; (conv => lhs; whnf); try exact rfl)) : (bif c then a else b) = some r → L = R := by
  cases c
  · exact fun h => (w2 rfl).trans (k2 h)
  · exact fun h => (w1 rfl).trans (k1 h)
theorem il {α ρ : Type} {i j : Int} {a b : Option α} {r : α} {L R : ρ} (k1 : i = j → a = some r → L = R) (k2 : b = some r → L = R) : (bif decide (i = j) then a else b) = some r → L = R := by
  by_cases h : i = j
  · rw [decide_eq_true h]; exact k1 h
  · rw [decide_eq_false h]; exact k2
theorem bt {α ρ : Type} {c : Bool} {a : Option α} {r : α} {L L1 R : ρ} (k1 : a = some r → L1 = R) (w1 : c = true → L = L1 := by (intro hc; simp only [hc, ls]; (conv => lhs; whnf); try exact rfl)) : (bif c then a else none) = some r → L = R := by
  cases c
  · exact fun h => nn h
  · exact fun h => (w1 rfl).trans (k1 h)
theorem bf {α ρ : Type} {c : Bool} {b : Option α} {r : α} {L L2 R : ρ} (k2 : b = some r → L2 = R) (w2 : c = false → L = L2 := by (intro hc; simp only [hc, ls]; (conv => lhs; whnf); try exact rfl)) : (bif c then none else b) = some r → L = R := by
  cases c
  · exact fun h => (w2 rfl).trans (k2 h)
  · exact fun h => nn h
theorem cp {α ρ : Type} {c : Bool} {a : Option α} {r : α} {L L1 R : ρ} (k1 : a = some r → L1 = R) (w1 : c = true → ∀ q, L1 = q → L = q := by (intro hc q hq; refine bif_pos hc ?_; (try simp only [ls]); (conv => lhs; whnf); exact hq)) : (bif c then a else none) = some r → L = R := chk_k fun hc h => w1 hc _ (k1 h)
theorem cn {α ρ : Type} {c : Bool} {a : Option α} {r : α} {L L1 R : ρ} (k1 : a = some r → L1 = R) (w1 : c = true → ∀ q, L1 = q → L = q := by (intro hc q hq; refine bif_pos (app_nil hc (by simp only [List.length_map, take_map_len]) (by kernel_rfl)) ?_; (try simp only [ls]); (conv => lhs; whnf); exact hq)) : (bif c then a else none) = some r → L = R := chk_k fun hc h => w1 hc _ (k1 h)
theorem sl {α : Type} (f : α → List AV) (l : List α) (i j : Nat) : List.drop i (List.take j (List.map f l)) = List.map f (List.drop i (List.take j l)) := by rw [List.map_drop, List.map_take]
theorem cs {α ρ : Type} {c : Bool} {a : Option α} {r : α} {E : Prop} {L L1 R : ρ} (e : E) (k1 : a = some r → L1 = R) (w1 : c = true → E → ∀ q, L1 = q → L = q := by (intro hc he q hq; (try simp only [ls]); refine bif_pos hc ?_; simp only [he, ls]; (conv => lhs; whnf); exact hq)) : (bif c then a else none) = some r → L = R := chk_k fun hc h => w1 hc e _ (k1 h)
theorem ixs {β ρ : Type} {l : List UInt8} {i : Int} {g : UInt8 → Option β} {r : β} {L : ρ} {L1 : UInt8 → ρ} {R : ρ} (k : ∀ x, g x = some r → L1 x = R) (w : ∀ x, idx l i = some x → ∀ q, L1 x = q → L = q := by (intro x hx q hq; refine bif_pos (idx_in hx) ?_; simp only [idx_str hx, ls]; (conv => lhs; whnf); exact hq)) : (idx l i).bind g = some r → L = R := fun h => bind_some2 h fun x hx h2 => w x hx _ (k x h2)
theorem ix {α β ρ : Type} {l : List α} {i : Int} {g : α → Option β} {r : β} {L : ρ} {L1 : α → ρ} {R : ρ} (k : ∀ x, g x = some r → L1 x = R) (w : ∀ x, idx l i = some x → ∀ q, L1 x = q → L = q := by (intro x hx q hq; refine bif_pos (by first | exact idx_in hx | exact idx_in' hx | (have z := idx_in hx; simp only [ls] at z ⊢; exact z)) ?_; simp only [idx_nth hx, ls]; (conv => lhs; whnf); exact hq)) : (idx l i).bind g = some r → L = R := fun h => bind_some2 h fun x hx h2 => w x hx _ (k x h2)
theorem ca {α β ρ : Type} {P : Program} {H : Hints} {X : Ext} {call : CallT} {n : Nat} {m : Option α} {g : α → Option β} {r : β} {f : FuncId} {a : List AV} {p : Hp} {v : α → Option (AV × Hp)} {L : ρ} {L1 : α → ρ} {R : ρ} (hc : ∀ g l h, call false g l h = callN P H X n g l h) (hk : ∀ y, m = some y → callN P H X n f a p = v y) (k : ∀ y, g y = some r → L1 y = R) (w : ∀ y, call false f a p = v y → L = L1 y := by (intro y hk; (first | simp only [hk] | rewrite [hk] | (simp only [ls]; simp only [hk])); (conv => lhs; whnf); try exact rfl)) : m.bind g = some r → L = R := fun h => bind_some2 h fun y hy h2 => (w y ((hc _ _ _).trans (hk y hy))).trans (k y h2)
theorem tw {α β ρ : Type} {P : Program} {H : Hints} {X : Ext} {call : CallT} {n : Nat} {m : Option α} {g : α → Option β} {r : β} {f : FuncId} {a : List AV} {v v' : α → Option (AV × Hp)} {L : ρ} {L1 : α → ρ} {R : ρ} (hc : ∀ g l h, call false g l h = callN P H X n g l h) (hk : ∀ y, m = some y → callN P H X n f a [] = v y) (ht : ∀ y, call false f a [] = v y → adoCall P true call f a = v' y) (k : ∀ y, g y = some r → L1 y = R) (w : ∀ y, (∀ b, b = true → adoCall P b call f a = v' y) → L = L1 y := by (intro y hk; (try simp only [ls]); (rewrite [hk]; rotate_left; (first | rfl | kernel_rfl)); (try simp only [ls]); (conv => lhs; whnf); try exact rfl)) : m.bind g = some r → L = R := fun h => bind_some2 h fun y hy h2 => (w y (fun b hb => by subst hb; exact ht y ((hc _ _ _).trans (hk y hy)))).trans (k y h2)
theorem nb {γ α ρ : Type} {l : List γ} {a b : Option α} {r : α} {L L1 L2 R : ρ} (k1 : a = some r → L1 = R) (k2 : b = some r → L2 = R) (w1 : l = [] → L = L1 := by (intro hc; simp only [hc, ls, List.map_nil]; (conv => lhs; whnf); try exact rfl)) (w2 : decide (l.length = 0) = false → L = L2 := by (intro hc; simp only [hc, ls]; (conv => lhs; whnf); try exact rfl)) : (bif decide (l.length = 0) then a else b) = some r → L = R := by
  by_cases h : l.length = 0
  · rw [decide_eq_true h]; exact fun e => (w1 (List.eq_nil_of_length_eq_zero h)).trans (k1 e)
  · rw [decide_eq_false h]; exact fun e => (w2 (decide_eq_false h)).trans (k2 e)
theorem rj {α β ρ : Type} {m : Option α} {k : α → Option β} {r : β} {run : (Tm → Hp → Option ρ) → Option ρ} {K : Tm → Hp → Option ρ} {R : Option ρ} (T : α → Tm) (hp : α → Hp) (h1 : ∀ (K : Tm → Hp → Option ρ) b, m = some b → run K = K (T b) (hp b)) (h2 : ∀ b, k b = some r → K (T b) (hp b) = R) : m.bind k = some r → joinR run K = R := fun h => bind_some2 h fun b hb hk => (joinR_eq run K).trans ((h1 K b hb).trans (h2 b hk))
theorem cr {α β ρ : Type} {P : Program} {H : Hints} {X : Ext} {call : CallT} {n : Nat} {m : Option α} {g : α → Option β} {r : β} {f : FuncId} {a : List AV} {p : Hp} {v : α → Option (AV × Hp)} {L : ρ} {L1 : α → ρ} {R : ρ} (hc : ∀ g l h, call false g l h = callN P H X n g l h) (hk : ∀ y, m = some y → callN P H X n f a p = v y) (k : ∀ y, g y = some r → L1 y = R) (w : ∀ y, call false f a p = v y → L = L1 y := by (intro y hk; (try simp only [List.length_nil, List.map_nil] at hk); (try simp only [List.length_nil, List.map_nil]); (try simp only [List.drop_zero, ls]); (first | simp only [hk] | rewrite [hk]); (try simp only [ls]); (conv => lhs; whnf); try exact rfl)) : m.bind g = some r → L = R := ca hc hk k w
theorem ap {α : Type} (f : α → List AV) (a : List (List AV)) (l : List α) (y : List (List AV)) (m : List α) (ha : a = List.map f l := by rfl) (hy : y = List.map f m := by rfl) : a ++ y = List.map f (l ++ m) ∧ a.length + y.length = (l ++ m).length ∧ l.length + y.length = (l ++ m).length ∧ l.length + m.length = (l ++ m).length ∧ a.length + m.length = (l ++ m).length := by
  subst ha; subst hy; simp
theorem ar {α ρ : Type} {c : Bool} {a : Option α} {r : α} {E : Prop} {L L1 R : ρ} (e : E) (k1 : a = some r → L1 = R) (w1 : c = true → E → ∀ q, L1 = q → L = q := by (intro hc he q hq; (first | refine bif_pos (app_row hc (by first | rfl | simp only [List.length_map]) (by first | rfl | simp only [List.length_map]) (by first | rfl | simp only [List.length_map, take_map_len]) (by kernel_rfl)) ?_ | refine bif_pos (app_row2 hc (by first | rfl | simp only [List.length_map]) (by first | rfl | simp only [List.length_map, take_map_len]) (by kernel_rfl)) ?_ | skip); (try simp only [lt]); (try simp only [he]); (try simp only [ls, c0]); (try simp only [he]); (try simp only [ls]); (conv => lhs; whnf); exact hq)) : (bif c then a else none) = some r → L = R := chk_k fun hc h => w1 hc e _ (k1 h)
theorem ao {α ρ : Type} {a : Option α} {r : α} {E : Prop} {L L1 R : ρ} (e : E) (k1 : a = some r → L1 = R) (w1 : E → L = L1 := by (intro he; (try simp only [lt]); (try simp only [he]); (try simp only [ls, c0]); (try simp only [he]); (conv => lhs; whnf); try exact rfl)) : a = some r → L = R := fun h => (w1 e).trans (k1 h)
theorem rz {α ρ : Type} {a r : α} {L R : ρ} (k : a = r → L = R := by (intro e; cases e; first | rfl | (simp only [ls] <;> rfl))) : some a = some r → L = R := fun h => k (sj h)
end Go.Proofs.YtgelgahilfojdaaGreat
end
section
namespace Go.Proofs.YtgelgahilfojdaaGreat
set_option linter.unusedVariables false
set_option linter.unusedSimpArgs false
theorem bs_inj {a b : List UInt8} (h : bs a = bs b) : a = b := by
  have := congrArg (fun x : ByteArray => x.data.toList) h
  simpa [bs] using this
end Go.Proofs.YtgelgahilfojdaaGreat
end
section
namespace Go.Proofs.YtgelgahilfojdaaGreat
set_option linter.unusedVariables false
set_option linter.unusedSimpArgs false
set_option maxRecDepth 100000
set_option maxHeartbeats 4000000
noncomputable abbrev CN := callN Tryz.prog HH XT
def ref01_gap_L1 (n:Nat)  (v0_s:(List UInt8)):Nat→Int→Option (LR Int Int)
  | 0,_=>none
  | k22+1,s21=>(bif decide (s21<((v0_s.length:Nat):Int)) then ((idx v0_s s21).bind fun x31=>(bif ((x31.toNat:Int) != 10) then (ref01_gap_L1 n v0_s k22 (IntKind.i64.wrap (s21+1))) else (some (.out s21)))) else (some (.out s21)))
def ref01_gap_L0 (n:Nat)  (v0_s:(List UInt8)):Nat→Int→Option (LR Int Int)
  | 0,_=>none
  | k2+1,s1=>(bif decide (s1<((v0_s.length:Nat):Int)) then ((idx v0_s s1).bind fun x11=>(bif ((x11.toNat:Int)==32) then (ref01_gap_L0 n v0_s k2 (IntKind.i64.wrap (s1+1))) else ((idx v0_s s1).bind fun x13=>(bif ((x13.toNat:Int)==9) then (ref01_gap_L0 n v0_s k2 (IntKind.i64.wrap (s1+1))) else ((idx v0_s s1).bind fun x15=>(bif ((x15.toNat:Int)==10) then (ref01_gap_L0 n v0_s k2 (IntKind.i64.wrap (s1+1))) else ((idx v0_s s1).bind fun x17=>(bif ((x17.toNat:Int)==13) then (ref01_gap_L0 n v0_s k2 (IntKind.i64.wrap (s1+1))) else ((idx v0_s s1).bind fun x19=>(bif ((x19.toNat:Int)==35) then ((ref01_gap_L1 n v0_s n s1).bind fun o29=>match o29 with|.out x34=>(ref01_gap_L0 n v0_s k2 x34)|.ret v=>some (.ret v)) else (some (.ret s1)))))))))))) else (some (.out s1)))
def m_ref01_gap:Nat→(List UInt8)→Int→Option Int
  | 0,_,_=>none
  | n+1,v0_s,v1_at=>((ref01_gap_L0 n v0_s n v1_at).bind fun o9=>match o9 with|.out x37=>(some x37)|.ret v=>some v)
def m_ref01_digit:Nat→Int→Option Bool
  | 0,_=>none
  | n+1,v0_c=>(bif decide (48≤v0_c) then (some (decide (v0_c≤57))) else (some false))
def m_ref01_letter:Nat→Int→Option Bool
  | 0,_=>none
  | n+1,v0_c=>(bif decide (97≤v0_c) then (bif decide (v0_c≤122) then (some true) else (bif decide (65≤v0_c) then (bif decide (v0_c≤90) then (some true) else (some (v0_c==95))) else (some (v0_c==95)))) else (bif decide (65≤v0_c) then (bif decide (v0_c≤90) then (some true) else (some (v0_c==95))) else (some (v0_c==95))))
def m_ref01_signs:Nat→Option (List (List UInt8))
  | 0=>none
  | n+1=>(some ([([61,61]:List UInt8),([33,61]:List UInt8),([60,61]:List UInt8),([38,38]:List UInt8),([124,124]:List UInt8),([59]:List UInt8),([44]:List UInt8),([123]:List UInt8),([125]:List UInt8),([40]:List UInt8),([41]:List UInt8),([46]:List UInt8),([61]:List UInt8),([43]:List UInt8),([45]:List UInt8),([42]:List UInt8),([33]:List UInt8),([60]:List UInt8)]:List (List UInt8)))
def ref01_one_L0 (n:Nat)  (v0_s:(List UInt8)) (v1_at:Int):Nat→Int→Option (LR Int (S_api_Token×Int))
  | 0,_=>none
  | k2+1,s1=>(bif decide (s1<((v0_s.length:Nat):Int)) then ((idx v0_s s1).bind fun x11=>((m_ref01_letter n (x11.toNat:Int)).bind fun y12=>(bif y12 then (ref01_one_L0 n v0_s v1_at k2 (IntKind.i64.wrap (s1+1))) else (bif decide (v1_at<s1) then ((idx v0_s s1).bind fun x16=>((m_ref01_digit n (x16.toNat:Int)).bind fun y17=>(bif y17 then (ref01_one_L0 n v0_s v1_at k2 (IntKind.i64.wrap (s1+1))) else (some (.out s1))))) else (some (.out s1)))))) else (some (.out s1)))
def ref01_one_L1 (n:Nat)  (v0_s:(List UInt8)):Nat→Int→Int→Option (LR (Int×Int) (S_api_Token×Int))
  | 0,_,_=>none
  | k27+1,s25,s26=>(bif decide (s25<((v0_s.length:Nat):Int)) then ((idx v0_s s25).bind fun x36=>((m_ref01_digit n (x36.toNat:Int)).bind fun y37=>(bif y37 then ((idx v0_s s25).bind fun x40=>(ref01_one_L1 n v0_s k27 (IntKind.i64.wrap (s25+1)) (if 10000<(IntKind.i64.wrap ((IntKind.i64.wrap (10 * s26))+(IntKind.i64.wrap (IntKind.u8.wrap ((x40.toNat:Int) - 48))))) then 10000 else (IntKind.i64.wrap ((IntKind.i64.wrap (10 * s26))+(IntKind.i64.wrap (IntKind.u8.wrap ((x40.toNat:Int) - 48)))))))) else (some (.out (s25,s26)))))) else (some (.out (s25,s26))))
def ref01_one_L2 (n:Nat)  (v0_s:(List UInt8)) (v1_at:Int) (y47:(List (List UInt8))):Nat→Int→Option (LR Unit (S_api_Token×Int))
  | 0,_=>none
  | k50+1,s49=>(bif decide (s49<((y47.length:Nat):Int)) then ((idx y47 s49).bind fun x59=>(bif decide ((IntKind.i64.wrap (v1_at+((x59.length:Nat):Int)))≤((v0_s.length:Nat):Int)) then (bif (decide (0≤(IntKind.i64.wrap (v1_at+((x59.length:Nat):Int))))&&decide ((IntKind.i64.wrap (v1_at+((x59.length:Nat):Int)))≤((v0_s.length:Nat):Int))&&decide (0≤v1_at)&&decide (v1_at≤(IntKind.i64.wrap (v1_at+((x59.length:Nat):Int))))) then ((idx y47 s49).bind fun x62=>(bif ((List.drop (v1_at.toNat) (List.take ((IntKind.i64.wrap (v1_at+((x59.length:Nat):Int))).toNat) v0_s))==x62) then ((idx y47 s49).bind fun x64=>(some (.ret ((⟨3,x64,0,v1_at⟩:S_api_Token),0)))) else (ref01_one_L2 n v0_s v1_at y47 k50 (IntKind.i64.wrap (s49+1))))) else none) else (ref01_one_L2 n v0_s v1_at y47 k50 (IntKind.i64.wrap (s49+1))))) else (some (.out ())))
def m_ref01_one:Nat→(List UInt8)→Int→Option (S_api_Token×Int)
  | 0,_,_=>none
  | n+1,v0_s,v1_at=>((ref01_one_L0 n v0_s v1_at n v1_at).bind fun o9=>match o9 with|.out x21=>(bif decide (v1_at<x21) then (bif decide (16<(IntKind.i64.wrap (x21 - v1_at))) then (some ((⟨0,([]:List UInt8),0,0⟩:S_api_Token),2)) else (bif (decide (0≤x21)&&decide (x21≤((v0_s.length:Nat):Int))&&decide (0≤v1_at)&&decide (v1_at≤x21)) then (some ((⟨1,(List.drop (v1_at.toNat) (List.take (x21.toNat) v0_s)),0,v1_at⟩:S_api_Token),0)) else none)) else ((ref01_one_L1 n v0_s n x21 0).bind fun o34=>match o34 with|.out (x42,x43)=>(bif decide (v1_at<x42) then (bif decide (9999<x43) then (some ((⟨0,([]:List UInt8),0,0⟩:S_api_Token),4)) else (bif (decide (0≤x42)&&decide (x42≤((v0_s.length:Nat):Int))&&decide (0≤v1_at)&&decide (v1_at≤x42)) then (some ((⟨2,(List.drop (v1_at.toNat) (List.take (x42.toNat) v0_s)),x43,v1_at⟩:S_api_Token),0)) else none)) else ((m_ref01_signs n ).bind fun y47=>((ref01_one_L2 n v0_s v1_at y47 n 0).bind fun o57=>match o57 with|.out _=>(some ((⟨0,([]:List UInt8),0,0⟩:S_api_Token),3))|.ret v=>some v)))|.ret v=>some v))|.ret v=>some v)
def ref01_Scan_L0 (n:Nat)  (v0_s:(List UInt8)):Nat→Int→(List S_api_Token)→Option (LR (List S_api_Token) ((List S_api_Token)×Int×Int))
  | 0,_,_=>none
  | k6+1,s4,s5=>(bif decide (s4<((v0_s.length:Nat):Int)) then ((m_ref01_one n v0_s s4).bind fun y15=>(bif (y15.2 != 0) then (some (.ret (([]:List S_api_Token),y15.2,s4))) else (bif decide ((s5.length+1) * 41≤140737488355328) then ((m_ref01_gap n v0_s (IntKind.i64.wrap (s4+((y15.1.f_Text.length:Nat):Int)))).bind fun y20=>(ref01_Scan_L0 n v0_s k6 y20 (s5++([y15.1]:List S_api_Token)))) else none))) else (some (.out s5)))
def m_ref01_Scan:Nat→(List UInt8)→Option ((List S_api_Token)×Int×Int)
  | 0,_=>none
  | n+1,v0_s=>(bif decide (20000<((v0_s.length:Nat):Int)) then (some (([]:List S_api_Token),2,20000)) else ((m_ref01_gap n v0_s 0).bind fun y2=>((ref01_Scan_L0 n v0_s n y2 ([]:List S_api_Token)).bind fun o13=>match o13 with|.out x23=>(some (x23,0,0))|.ret v=>some v)))
def m_ref01_words:Nat→Option (List (List UInt8))
  | 0=>none
  | n+1=>(some ([([109,111,100]:List UInt8),([108,111,99]:List UInt8),([116,104,114,101,97,100]:List UInt8),([114,101,103]:List UInt8),([115,107,105,112]:List UInt8),([115,101,116]:List UInt8),([108,111,97,100]:List UInt8),([115,116,111,114,101]:List UInt8),([99,97,115]:List UInt8),([102,97,100,100]:List UInt8),([120,99,104,103]:List UInt8),([102,101,110,99,101]:List UInt8),([97,119,97,105,116]:List UInt8),([105,102]:List UInt8),([101,108,115,101]:List UInt8),([119,104,105,108,101]:List UInt8),([108,111,111,112]:List UInt8),([98,114,101,97,107]:List UInt8),([102,111,114,97,108,108]:List UInt8),([101,120,105,115,116,115]:List UInt8),([97,108,119,97,121,115]:List UInt8)]:List (List UInt8)))
def ref01_Keyword_L0 (n:Nat)  (v0_s:(List UInt8)) (y1:(List (List UInt8))):Nat→Int→Option (LR Unit Bool)
  | 0,_=>none
  | k4+1,s3=>(bif decide (s3<((y1.length:Nat):Int)) then ((idx y1 s3).bind fun x13=>(bif (x13==v0_s) then (some (.ret true)) else (ref01_Keyword_L0 n v0_s y1 k4 (IntKind.i64.wrap (s3+1))))) else (some (.out ())))
def m_ref01_Keyword:Nat→(List UInt8)→Option Bool
  | 0,_=>none
  | n+1,v0_s=>((m_ref01_words n ).bind fun y1=>((ref01_Keyword_L0 n v0_s y1 n 0).bind fun o11=>match o11 with|.out _=>(some false)|.ret v=>some v))
def ref01_Name_L0 (n:Nat)  (v0_s:(List UInt8)):Nat→Int→Option (LR Unit Bool)
  | 0,_=>none
  | k11+1,s10=>(bif decide (s10<((v0_s.length:Nat):Int)) then ((idx v0_s s10).bind fun x20=>((m_ref01_letter n (x20.toNat:Int)).bind fun y21=>(bif y21 then (ref01_Name_L0 n v0_s k11 (IntKind.i64.wrap (s10+1))) else ((idx v0_s s10).bind fun x24=>((m_ref01_digit n (x24.toNat:Int)).bind fun y25=>(bif y25 then (ref01_Name_L0 n v0_s k11 (IntKind.i64.wrap (s10+1))) else (some (.ret false)))))))) else (some (.out ())))
def m_ref01_Name:Nat→(List UInt8)→Option Bool
  | 0,_=>none
  | n+1,v0_s=>(bif decide (((v0_s.length:Nat):Int)<1) then (some false) else (bif decide (16<((v0_s.length:Nat):Int)) then (some false) else ((idx v0_s 0).bind fun x3=>((m_ref01_letter n (x3.toNat:Int)).bind fun y4=>(bif y4 then ((m_ref01_Keyword n v0_s).bind fun y7=>(bif y7 then (some false) else ((ref01_Name_L0 n v0_s n 0).bind fun o18=>match o18 with|.out _=>(some true)|.ret v=>some v))) else (some false))))))
def m_ref01_Digits:Nat→Int→Option (List UInt8)
  | 0,_=>none
  | n+1,v0_n=>(bif decide (v0_n<10) then (some ([UInt8.ofNat (IntKind.u8.wrap (IntKind.i64.wrap (48+v0_n))).toNat]:List UInt8)) else (((m_ref01_Digits n) (IntKind.i64.wrap (Int.tdiv v0_n 10))).bind fun y2=>(bif decide (y2.length+(([UInt8.ofNat (IntKind.u8.wrap (IntKind.i64.wrap (48+(Int.tmod v0_n 10)))).toNat]:List UInt8)).length≤140737488355328) then (some (y2++([UInt8.ofNat (IntKind.u8.wrap (IntKind.i64.wrap (48+(Int.tmod v0_n 10)))).toNat]:List UInt8))) else none)))
def m_ref02_kids:Nat→Int→Option Int
  | 0,_=>none
  | n+1,v0_op=>(bif decide (1≤v0_op) then (bif decide (v0_op≤4) then (some 0) else (bif (v0_op==5) then (some 1) else (bif decide (6≤v0_op) then (bif decide (v0_op≤14) then (some 2) else (some (-1))) else (some (-1))))) else (bif (v0_op==5) then (some 1) else (bif decide (6≤v0_op) then (bif decide (v0_op≤14) then (some 2) else (some (-1))) else (some (-1)))))
def ref02_End_L0 (n:Nat)  (v0_l:(List S_api_Node)):Nat→Int→Int→Option (LR Unit Int)
  | 0,_,_=>none
  | k4+1,s2,s3=>(bif decide (s3<((v0_l.length:Nat):Int)) then ((idx v0_l s3).bind fun x13=>((m_ref02_kids n x13.f_Op).bind fun y14=>(bif decide (y14<0) then (some (.ret (-1))) else (bif ((IntKind.i64.wrap ((IntKind.i64.wrap (s2 - 1))+y14))==0) then (some (.ret (IntKind.i64.wrap (s3+1)))) else (ref02_End_L0 n v0_l k4 (IntKind.i64.wrap ((IntKind.i64.wrap (s2 - 1))+y14)) (IntKind.i64.wrap (s3+1))))))) else (some (.out ())))
def m_ref02_End:Nat→(List S_api_Node)→Int→Option Int
  | 0,_,_=>none
  | n+1,v0_l,v1_i=>(bif decide (v1_i<0) then (some (-1)) else ((ref02_End_L0 n v0_l n 1 v1_i).bind fun o11=>match o11 with|.out _=>(some (-1))|.ret v=>some v))
def ref02_deep_L0 (n:Nat) (rec_ref02_deep:(List S_api_Node)→Int→Option Int) (v0_l:(List S_api_Node)) (v1_i:Int):Nat→Int→Int→Int→Option (LR Int Int)
  | 0,_,_,_=>none
  | k4+1,s1,s2,s3=>((idx v0_l v1_i).bind fun x12=>((m_ref02_kids n x12.f_Op).bind fun y13=>(bif decide (s3<y13) then ((rec_ref02_deep v0_l s2).bind fun y16=>((m_ref02_End n v0_l s2).bind fun y18=>(ref02_deep_L0 n rec_ref02_deep v0_l v1_i k4 (if s1<(IntKind.i64.wrap (1+y16)) then (IntKind.i64.wrap (1+y16)) else s1) y18 (IntKind.i64.wrap (s3+1))))) else (some (.out s1)))))
def m_ref02_deep:Nat→(List S_api_Node)→Int→Option Int
  | 0,_,_=>none
  | n+1,v0_l,v1_i=>((ref02_deep_L0 n (m_ref02_deep n) v0_l v1_i n 0 (IntKind.i64.wrap (v1_i+1)) 0).bind fun o11=>match o11 with|.out x21=>(some x21)|.ret v=>some v)
def m_ref02_floors:Nat→Option (List (List Int))
  | 0=>none
  | n+1=>(some ([([14]:List Int),([13]:List Int),([9,10,11,12]:List Int),([6,7]:List Int),([8]:List Int)]:List (List Int)))
def m_ref02_Is:Nat→(List S_api_Token)→Int→(List UInt8)→Option Bool
  | 0,_,_,_=>none
  | n+1,v0_l,v1_i,v2_sign=>(bif decide (v1_i<((v0_l.length:Nat):Int)) then ((idx v0_l v1_i).bind fun x2=>(bif (x2.f_Kind==3) then ((idx v0_l v1_i).bind fun x4=>(some (x4.f_Text==v2_sign))) else (some false))) else (some false))
def m_ref02_Place:Nat→(List S_api_Token)→Int→Option Int
  | 0,_,_=>none
  | n+1,v0_l,v1_i=>(bif decide (v1_i<((v0_l.length:Nat):Int)) then ((idx v0_l v1_i).bind fun x2=>(some x2.f_At)) else (bif (((v0_l.length:Nat):Int)==0) then (some 0) else ((idx v0_l (IntKind.i64.wrap (((v0_l.length:Nat):Int) - 1))).bind fun x4=>((idx v0_l (IntKind.i64.wrap (((v0_l.length:Nat):Int) - 1))).bind fun x5=>(some (IntKind.i64.wrap (x4.f_At+((x5.f_Text.length:Nat):Int))))))))
def m_ref02_fail:Nat→(List S_api_Token)→Int→Option S_ref02_got
  | 0,_,_=>none
  | n+1,v0_l,v1_i=>(bif decide (((v0_l.length:Nat):Int)≤v1_i) then ((m_ref02_Place n v0_l v1_i).bind fun y2=>(some (⟨([]:List S_api_Node),0,6,y2⟩:S_ref02_got))) else ((m_ref02_Place n v0_l v1_i).bind fun y4=>(some (⟨([]:List S_api_Node),0,5,y4⟩:S_ref02_got))))
def m_ref02_sign:Nat→Int→Option (List UInt8)
  | 0,_=>none
  | n+1,v0_op=>((idx ([([33]:List UInt8),([43]:List UInt8),([45]:List UInt8),([42]:List UInt8),([61,61]:List UInt8),([33,61]:List UInt8),([60]:List UInt8),([60,61]:List UInt8),([38,38]:List UInt8),([124,124]:List UInt8)]:List (List UInt8)) (IntKind.i64.wrap (v0_op - 5))).bind fun x1=>(some x1))
def ref02_which_L0 (n:Nat)  (v0_l:(List S_api_Token)) (v1_i:Int) (v2_ops:(List Int)):Nat→Int→Option (LR Unit Int)
  | 0,_=>none
  | k2+1,s1=>(bif decide (s1<((v2_ops.length:Nat):Int)) then ((idx v2_ops s1).bind fun x11=>((m_ref02_sign n x11).bind fun y12=>((m_ref02_Is n v0_l v1_i y12).bind fun y14=>(bif y14 then ((idx v2_ops s1).bind fun x17=>(some (.ret x17))) else (ref02_which_L0 n v0_l v1_i v2_ops k2 (IntKind.i64.wrap (s1+1))))))) else (some (.out ())))
def m_ref02_which:Nat→(List S_api_Token)→Int→(List Int)→Option Int
  | 0,_,_,_=>none
  | n+1,v0_l,v1_i,v2_ops=>((ref02_which_L0 n v0_l v1_i v2_ops n 0).bind fun o9=>match o9 with|.out _=>(some 0)|.ret v=>some v)
def ref02_floor_L0 (n:Nat) (rec_ref02_floor:(List S_api_Token)→Int→Int→Int→Option S_ref02_got) (v0_l:(List S_api_Token)) (v2_in:Int) (v3_n:Int):Nat→(List S_api_Node)→Int→Int→Int→Option (LR ((List S_api_Node)×Int×Int×Int) S_ref02_got)
  | 0,_,_,_,_=>none
  | k10+1,s6,s7,s8,s9=>(bif (s8==0) then ((m_ref02_floors n ).bind fun y19=>((idx y19 v3_n).bind fun x21=>((m_ref02_which n v0_l s7 x21).bind fun y22=>(bif (y22==0) then (some (.ret (⟨s6,s7,s8,s9⟩:S_ref02_got))) else ((rec_ref02_floor v0_l (IntKind.i64.wrap (s7+1)) v2_in (IntKind.i64.wrap (v3_n+1))).bind fun y25=>(bif (y25.f_e != 0) then (some (.ret y25)) else ((idx v0_l s7).bind fun x28=>(bif decide (((([(⟨y22,0,([]:List UInt8),([]:List UInt8),x28.f_At⟩:S_api_Node)]:List S_api_Node)).length+s6.length) * 57≤140737488355328) then (bif decide ((((([(⟨y22,0,([]:List UInt8),([]:List UInt8),x28.f_At⟩:S_api_Node)]:List S_api_Node)++s6)).length+y25.f_l.length) * 57≤140737488355328) then (bif (v3_n==2) then (some (.ret (⟨((([(⟨y22,0,([]:List UInt8),([]:List UInt8),x28.f_At⟩:S_api_Node)]:List S_api_Node)++s6)++y25.f_l),y25.f_to,0,0⟩:S_ref02_got))) else (ref02_floor_L0 n rec_ref02_floor v0_l v2_in v3_n k10 ((([(⟨y22,0,([]:List UInt8),([]:List UInt8),x28.f_At⟩:S_api_Node)]:List S_api_Node)++s6)++y25.f_l) y25.f_to 0 0)) else none) else none)))))))) else (some (.out (s6,s7,s8,s9))))
mutual
def m_ref02_floor:Nat→(List S_api_Token)→Int→Int→Int→Option S_ref02_got
  | 0,_,_,_,_=>none
  | n+1,v0_l,v1_i,v2_in,v3_n=>(bif (v3_n==5) then (((m_ref02_prim n) v0_l v1_i v2_in).bind fun y2=>(some y2)) else (((m_ref02_floor n) v0_l v1_i v2_in (IntKind.i64.wrap (v3_n+1))).bind fun y4=>((ref02_floor_L0 n (m_ref02_floor n) v0_l v2_in v3_n n y4.f_l y4.f_to y4.f_e y4.f_at).bind fun o17=>match o17 with|.out (x35,x36,x37,x38)=>(some (⟨x35,x36,x37,x38⟩:S_ref02_got))|.ret v=>some v)))
def m_ref02_prim:Nat→(List S_api_Token)→Int→Int→Option S_ref02_got
  | 0,_,_,_=>none
  | n+1,v0_l,v1_i,v2_in=>(bif decide (((v0_l.length:Nat):Int)≤v1_i) then ((m_ref02_fail n v0_l v1_i).bind fun y2=>(some y2)) else ((idx v0_l v1_i).bind fun x4=>((m_ref02_Is n v0_l v1_i ([40]:List UInt8)).bind fun y5=>(bif y5 then (bif decide (30≤v2_in) then (some (⟨([]:List S_api_Node),0,7,x4.f_At⟩:S_ref02_got)) else ((m_ref02_Is n v0_l v1_i ([33]:List UInt8)).bind fun y9=>(bif y9 then (((m_ref02_prim n) v0_l (IntKind.i64.wrap (v1_i+1)) (IntKind.i64.wrap (v2_in+1))).bind fun y12=>(bif (y12.f_e==0) then (bif decide (((([(⟨5,0,([]:List UInt8),([]:List UInt8),x4.f_At⟩:S_api_Node)]:List S_api_Node)).length+y12.f_l.length) * 57≤140737488355328) then (some (⟨(([(⟨5,0,([]:List UInt8),([]:List UInt8),x4.f_At⟩:S_api_Node)]:List S_api_Node)++y12.f_l),y12.f_to,y12.f_e,y12.f_at⟩:S_ref02_got)) else none) else (some y12))) else ((m_ref02_Is n v0_l v1_i ([40]:List UInt8)).bind fun y17=>(bif y17 then (((m_ref02_floor n) v0_l (IntKind.i64.wrap (v1_i+1)) (IntKind.i64.wrap (v2_in+1)) 0).bind fun y20=>(bif (y20.f_e==0) then ((m_ref02_Is n v0_l y20.f_to ([41]:List UInt8)).bind fun y23=>(bif y23 then (some (⟨y20.f_l,IntKind.i64.wrap (y20.f_to+1),y20.f_e,y20.f_at⟩:S_ref02_got)) else ((m_ref02_fail n v0_l y20.f_to).bind fun y26=>(some y26)))) else (some (⟨y20.f_l,IntKind.i64.wrap (y20.f_to+1),y20.f_e,y20.f_at⟩:S_ref02_got)))) else (bif (x4.f_Kind==2) then (some (⟨([(⟨1,x4.f_N,([]:List UInt8),([]:List UInt8),x4.f_At⟩:S_api_Node)]:List S_api_Node),IntKind.i64.wrap (v1_i+1),0,0⟩:S_ref02_got)) else (bif (x4.f_Kind != 1) then ((m_ref02_fail n v0_l v1_i).bind fun y30=>(some y30)) else ((m_ref01_Name n x4.f_Text).bind fun y32=>(bif y32 then ((m_ref02_Is n v0_l (IntKind.i64.wrap (v1_i+1)) ([46]:List UInt8)).bind fun y35=>(bif y35 then (bif decide (((v0_l.length:Nat):Int)≤(IntKind.i64.wrap (v1_i+2))) then ((m_ref02_fail n v0_l (IntKind.i64.wrap (v1_i+2))).bind fun y39=>(some y39)) else ((idx v0_l (IntKind.i64.wrap (v1_i+2))).bind fun x41=>(bif (x41.f_Kind != 1) then ((m_ref02_fail n v0_l (IntKind.i64.wrap (v1_i+2))).bind fun y43=>(some y43)) else ((idx v0_l (IntKind.i64.wrap (v1_i+2))).bind fun x45=>((m_ref01_Name n x45.f_Text).bind fun y46=>(bif y46 then ((idx v0_l (IntKind.i64.wrap (v1_i+2))).bind fun x49=>(some (⟨([(⟨4,0,x49.f_Text,x4.f_Text,x4.f_At⟩:S_api_Node)]:List S_api_Node),IntKind.i64.wrap (v1_i+3),0,0⟩:S_ref02_got))) else ((m_ref02_fail n v0_l (IntKind.i64.wrap (v1_i+2))).bind fun y50=>(some y50)))))))) else (some (⟨([(⟨2,0,x4.f_Text,([]:List UInt8),x4.f_At⟩:S_api_Node)]:List S_api_Node),IntKind.i64.wrap (v1_i+1),0,0⟩:S_ref02_got)))) else ((m_ref02_fail n v0_l v1_i).bind fun y52=>(some y52))))))))))) else ((m_ref02_Is n v0_l v1_i ([33]:List UInt8)).bind fun y54=>(bif y54 then (bif decide (30≤v2_in) then (some (⟨([]:List S_api_Node),0,7,x4.f_At⟩:S_ref02_got)) else ((m_ref02_Is n v0_l v1_i ([33]:List UInt8)).bind fun y58=>(bif y58 then (((m_ref02_prim n) v0_l (IntKind.i64.wrap (v1_i+1)) (IntKind.i64.wrap (v2_in+1))).bind fun y61=>(bif (y61.f_e==0) then (bif decide (((([(⟨5,0,([]:List UInt8),([]:List UInt8),x4.f_At⟩:S_api_Node)]:List S_api_Node)).length+y61.f_l.length) * 57≤140737488355328) then (some (⟨(([(⟨5,0,([]:List UInt8),([]:List UInt8),x4.f_At⟩:S_api_Node)]:List S_api_Node)++y61.f_l),y61.f_to,y61.f_e,y61.f_at⟩:S_ref02_got)) else none) else (some y61))) else ((m_ref02_Is n v0_l v1_i ([40]:List UInt8)).bind fun y66=>(bif y66 then (((m_ref02_floor n) v0_l (IntKind.i64.wrap (v1_i+1)) (IntKind.i64.wrap (v2_in+1)) 0).bind fun y69=>(bif (y69.f_e==0) then ((m_ref02_Is n v0_l y69.f_to ([41]:List UInt8)).bind fun y72=>(bif y72 then (some (⟨y69.f_l,IntKind.i64.wrap (y69.f_to+1),y69.f_e,y69.f_at⟩:S_ref02_got)) else ((m_ref02_fail n v0_l y69.f_to).bind fun y75=>(some y75)))) else (some (⟨y69.f_l,IntKind.i64.wrap (y69.f_to+1),y69.f_e,y69.f_at⟩:S_ref02_got)))) else (bif (x4.f_Kind==2) then (some (⟨([(⟨1,x4.f_N,([]:List UInt8),([]:List UInt8),x4.f_At⟩:S_api_Node)]:List S_api_Node),IntKind.i64.wrap (v1_i+1),0,0⟩:S_ref02_got)) else (bif (x4.f_Kind != 1) then ((m_ref02_fail n v0_l v1_i).bind fun y79=>(some y79)) else ((m_ref01_Name n x4.f_Text).bind fun y81=>(bif y81 then ((m_ref02_Is n v0_l (IntKind.i64.wrap (v1_i+1)) ([46]:List UInt8)).bind fun y84=>(bif y84 then (bif decide (((v0_l.length:Nat):Int)≤(IntKind.i64.wrap (v1_i+2))) then ((m_ref02_fail n v0_l (IntKind.i64.wrap (v1_i+2))).bind fun y88=>(some y88)) else ((idx v0_l (IntKind.i64.wrap (v1_i+2))).bind fun x90=>(bif (x90.f_Kind != 1) then ((m_ref02_fail n v0_l (IntKind.i64.wrap (v1_i+2))).bind fun y92=>(some y92)) else ((idx v0_l (IntKind.i64.wrap (v1_i+2))).bind fun x94=>((m_ref01_Name n x94.f_Text).bind fun y95=>(bif y95 then ((idx v0_l (IntKind.i64.wrap (v1_i+2))).bind fun x98=>(some (⟨([(⟨4,0,x98.f_Text,x4.f_Text,x4.f_At⟩:S_api_Node)]:List S_api_Node),IntKind.i64.wrap (v1_i+3),0,0⟩:S_ref02_got))) else ((m_ref02_fail n v0_l (IntKind.i64.wrap (v1_i+2))).bind fun y99=>(some y99)))))))) else (some (⟨([(⟨2,0,x4.f_Text,([]:List UInt8),x4.f_At⟩:S_api_Node)]:List S_api_Node),IntKind.i64.wrap (v1_i+1),0,0⟩:S_ref02_got)))) else ((m_ref02_fail n v0_l v1_i).bind fun y101=>(some y101))))))))))) else ((m_ref02_Is n v0_l v1_i ([33]:List UInt8)).bind fun y103=>(bif y103 then (((m_ref02_prim n) v0_l (IntKind.i64.wrap (v1_i+1)) (IntKind.i64.wrap (v2_in+1))).bind fun y106=>(bif (y106.f_e==0) then (bif decide (((([(⟨5,0,([]:List UInt8),([]:List UInt8),x4.f_At⟩:S_api_Node)]:List S_api_Node)).length+y106.f_l.length) * 57≤140737488355328) then (some (⟨(([(⟨5,0,([]:List UInt8),([]:List UInt8),x4.f_At⟩:S_api_Node)]:List S_api_Node)++y106.f_l),y106.f_to,y106.f_e,y106.f_at⟩:S_ref02_got)) else none) else (some y106))) else ((m_ref02_Is n v0_l v1_i ([40]:List UInt8)).bind fun y111=>(bif y111 then (((m_ref02_floor n) v0_l (IntKind.i64.wrap (v1_i+1)) (IntKind.i64.wrap (v2_in+1)) 0).bind fun y114=>(bif (y114.f_e==0) then ((m_ref02_Is n v0_l y114.f_to ([41]:List UInt8)).bind fun y117=>(bif y117 then (some (⟨y114.f_l,IntKind.i64.wrap (y114.f_to+1),y114.f_e,y114.f_at⟩:S_ref02_got)) else ((m_ref02_fail n v0_l y114.f_to).bind fun y120=>(some y120)))) else (some (⟨y114.f_l,IntKind.i64.wrap (y114.f_to+1),y114.f_e,y114.f_at⟩:S_ref02_got)))) else (bif (x4.f_Kind==2) then (some (⟨([(⟨1,x4.f_N,([]:List UInt8),([]:List UInt8),x4.f_At⟩:S_api_Node)]:List S_api_Node),IntKind.i64.wrap (v1_i+1),0,0⟩:S_ref02_got)) else (bif (x4.f_Kind != 1) then ((m_ref02_fail n v0_l v1_i).bind fun y124=>(some y124)) else ((m_ref01_Name n x4.f_Text).bind fun y126=>(bif y126 then ((m_ref02_Is n v0_l (IntKind.i64.wrap (v1_i+1)) ([46]:List UInt8)).bind fun y129=>(bif y129 then (bif decide (((v0_l.length:Nat):Int)≤(IntKind.i64.wrap (v1_i+2))) then ((m_ref02_fail n v0_l (IntKind.i64.wrap (v1_i+2))).bind fun y133=>(some y133)) else ((idx v0_l (IntKind.i64.wrap (v1_i+2))).bind fun x135=>(bif (x135.f_Kind != 1) then ((m_ref02_fail n v0_l (IntKind.i64.wrap (v1_i+2))).bind fun y137=>(some y137)) else ((idx v0_l (IntKind.i64.wrap (v1_i+2))).bind fun x139=>((m_ref01_Name n x139.f_Text).bind fun y140=>(bif y140 then ((idx v0_l (IntKind.i64.wrap (v1_i+2))).bind fun x143=>(some (⟨([(⟨4,0,x143.f_Text,x4.f_Text,x4.f_At⟩:S_api_Node)]:List S_api_Node),IntKind.i64.wrap (v1_i+3),0,0⟩:S_ref02_got))) else ((m_ref02_fail n v0_l (IntKind.i64.wrap (v1_i+2))).bind fun y144=>(some y144)))))))) else (some (⟨([(⟨2,0,x4.f_Text,([]:List UInt8),x4.f_At⟩:S_api_Node)]:List S_api_Node),IntKind.i64.wrap (v1_i+1),0,0⟩:S_ref02_got)))) else ((m_ref02_fail n v0_l v1_i).bind fun y146=>(some y146))))))))))))))))
end
def m_ref02_Parse:Nat→(List S_api_Token)→Int→Option ((List S_api_Node)×Int×Int×Int)
  | 0,_,_=>none
  | n+1,v0_l,v1_i=>(bif decide (v1_i<0) then (some (([]:List S_api_Node),0,1,0)) else ((m_ref02_floor n v0_l v1_i 0 0).bind fun y2=>(bif (y2.f_e != 0) then (some (([]:List S_api_Node),0,y2.f_e,y2.f_at)) else ((m_ref02_deep n y2.f_l 0).bind fun y5=>(bif decide (30<y5) then ((idx v0_l v1_i).bind fun x8=>(some (([]:List S_api_Node),0,7,x8.f_At))) else (bif decide (200<((y2.f_l.length:Nat):Int)) then ((idx v0_l v1_i).bind fun x10=>(some (([]:List S_api_Node),0,2,x10.f_At))) else (some (y2.f_l,y2.f_to,0,0))))))))
def ref02_Names_L0 (n:Nat)  (v0_l:(List S_api_Node)):Nat→Int→(List S_api_Node)→Option (LR (List S_api_Node) (List S_api_Node))
  | 0,_,_=>none
  | k3+1,s1,s2=>(bif decide (s1<((v0_l.length:Nat):Int)) then ((idx v0_l s1).bind fun x12=>(bif (x12.f_Op==2) then ((idx v0_l s1).bind fun x14=>(bif decide ((s2.length+1) * 57≤140737488355328) then (ref02_Names_L0 n v0_l k3 (IntKind.i64.wrap (s1+1)) (s2++([x14]:List S_api_Node))) else none)) else ((idx v0_l s1).bind fun x17=>(bif (x17.f_Op==3) then ((idx v0_l s1).bind fun x19=>(bif decide ((s2.length+1) * 57≤140737488355328) then (ref02_Names_L0 n v0_l k3 (IntKind.i64.wrap (s1+1)) (s2++([x19]:List S_api_Node))) else none)) else ((idx v0_l s1).bind fun x22=>(bif (x22.f_Op==4) then ((idx v0_l s1).bind fun x24=>(bif decide ((s2.length+1) * 57≤140737488355328) then (ref02_Names_L0 n v0_l k3 (IntKind.i64.wrap (s1+1)) (s2++([x24]:List S_api_Node))) else none)) else (ref02_Names_L0 n v0_l k3 (IntKind.i64.wrap (s1+1)) s2))))))) else (some (.out s2)))
def m_ref02_Names:Nat→(List S_api_Node)→Option (List S_api_Node)
  | 0,_=>none
  | n+1,v0_l=>((ref02_Names_L0 n v0_l n 0 ([]:List S_api_Node)).bind fun o10=>match o10 with|.out x28=>(some x28)|.ret v=>some v)
def m_ref02_node:Nat→S_api_Node→Option Bool
  | 0,_=>none
  | n+1,v0_x=>(bif decide (v0_x.f_At<0) then (some false) else (bif (v0_x.f_Op==1) then (bif decide (0≤v0_x.f_N) then (bif decide (v0_x.f_N≤9999) then (bif (v0_x.f_Name==([]:List UInt8)) then (some (v0_x.f_In==([]:List UInt8))) else (some false)) else (some false)) else (some false)) else (bif (v0_x.f_Op==2) then (bif (v0_x.f_N==0) then ((m_ref01_Name n v0_x.f_Name).bind fun y8=>(bif y8 then (some (v0_x.f_In==([]:List UInt8))) else (some false))) else (some false)) else (bif (v0_x.f_Op==3) then (bif (v0_x.f_N==0) then ((m_ref01_Name n v0_x.f_Name).bind fun y13=>(bif y13 then (some (v0_x.f_In==([]:List UInt8))) else (some false))) else (some false)) else (bif (v0_x.f_Op==4) then (bif (v0_x.f_N==0) then ((m_ref01_Name n v0_x.f_Name).bind fun y18=>(bif y18 then ((m_ref01_Name n v0_x.f_In).bind fun y21=>(some y21)) else (some false))) else (some false)) else (bif (v0_x.f_N==0) then (bif (v0_x.f_Name==([]:List UInt8)) then (some (v0_x.f_In==([]:List UInt8))) else (some false)) else (some false)))))))
def ref02_Right_L0 (n:Nat)  (v0_l:(List S_api_Node)):Nat→Int→Option (LR Unit Bool)
  | 0,_=>none
  | k7+1,s6=>(bif decide (s6<((v0_l.length:Nat):Int)) then ((idx v0_l s6).bind fun x16=>((m_ref02_node n x16).bind fun y17=>(bif y17 then (ref02_Right_L0 n v0_l k7 (IntKind.i64.wrap (s6+1))) else (some (.ret false))))) else (some (.out ())))
def m_ref02_Right:Nat→(List S_api_Node)→Option Bool
  | 0,_=>none
  | n+1,v0_l=>(bif decide (200<((v0_l.length:Nat):Int)) then (some false) else (bif (((v0_l.length:Nat):Int)==0) then (some false) else ((m_ref02_End n v0_l 0).bind fun y3=>(bif (y3 != ((v0_l.length:Nat):Int)) then (some false) else ((ref02_Right_L0 n v0_l n 0).bind fun o14=>match o14 with|.out _=>((m_ref02_deep n v0_l 0).bind fun y21=>(some (decide (y21≤30))))|.ret v=>some v)))))
def ref02_Same_L0 (n:Nat)  (v0_a:(List S_api_Node)) (v1_b:(List S_api_Node)):Nat→Bool→Int→Option (LR Unit Bool)
  | 0,_,_=>none
  | k4+1,s2,s3=>(bif decide (s3<((v0_a.length:Nat):Int)) then ((idx v0_a s3).bind fun x13=>((idx v1_b s3).bind fun x14=>(bif (x13.f_Op != x14.f_Op) then (some (.ret false)) else ((idx v0_a s3).bind fun x16=>((idx v1_b s3).bind fun x17=>(bif (x16.f_N != x17.f_N) then (some (.ret false)) else ((idx v0_a s3).bind fun x19=>((idx v1_b s3).bind fun x20=>(bif (x19.f_Name==x20.f_Name) then ((idx v0_a s3).bind fun x22=>((idx v1_b s3).bind fun x23=>(bif (x22.f_In==x23.f_In) then (bif s2 then ((idx v0_a s3).bind fun x26=>((idx v1_b s3).bind fun x27=>(bif (x26.f_At != x27.f_At) then (some (.ret false)) else (ref02_Same_L0 n v0_a v1_b k4 true (IntKind.i64.wrap (s3+1)))))) else (ref02_Same_L0 n v0_a v1_b k4 false (IntKind.i64.wrap (s3+1)))) else (some (.ret false))))) else (some (.ret false))))))))))) else (some (.out ())))
def m_ref02_Same:Nat→(List S_api_Node)→(List S_api_Node)→Bool→Option Bool
  | 0,_,_,_=>none
  | n+1,v0_a,v1_b,v2_places=>(bif (((v0_a.length:Nat):Int) != ((v1_b.length:Nat):Int)) then (some false) else ((ref02_Same_L0 n v0_a v1_b n v2_places 0).bind fun o11=>match o11 with|.out _=>(some true)|.ret v=>some v))
mutual
def m_ref02_operand:Nat→(List S_api_Node)→Int→Option (List UInt8)
  | 0,_,_=>none
  | n+1,v0_l,v1_i=>(((m_ref02_show n) v0_l v1_i).bind fun y1=>((idx v0_l v1_i).bind fun x3=>((m_ref02_kids n x3.f_Op).bind fun y4=>(bif (y4==2) then (bif decide ((([40]:List UInt8)).length+y1.length≤140737488355328) then (bif decide (((([40]:List UInt8)++y1)).length+(([41]:List UInt8)).length≤140737488355328) then (some ((([40]:List UInt8)++y1)++([41]:List UInt8))) else none) else none) else (some y1)))))
def m_ref02_show:Nat→(List S_api_Node)→Int→Option (List UInt8)
  | 0,_,_=>none
  | n+1,v0_l,v1_i=>((idx v0_l v1_i).bind fun x1=>(bif (x1.f_Op==1) then ((m_ref01_Digits n x1.f_N).bind fun y3=>(some y3)) else (bif (x1.f_Op==2) then (some x1.f_Name) else (bif (x1.f_Op==3) then (some x1.f_Name) else (bif (x1.f_Op==4) then (bif decide (x1.f_In.length+(([46]:List UInt8)).length≤140737488355328) then (bif decide (((x1.f_In++([46]:List UInt8))).length+x1.f_Name.length≤140737488355328) then (some ((x1.f_In++([46]:List UInt8))++x1.f_Name)) else none) else none) else (bif (x1.f_Op==5) then (((m_ref02_operand n) v0_l (IntKind.i64.wrap (v1_i+1))).bind fun y11=>(bif decide ((([33]:List UInt8)).length+y11.length≤140737488355328) then (some (([33]:List UInt8)++y11)) else none)) else (((m_ref02_operand n) v0_l (IntKind.i64.wrap (v1_i+1))).bind fun y14=>(bif decide (y14.length+(([32]:List UInt8)).length≤140737488355328) then ((m_ref02_sign n x1.f_Op).bind fun y17=>(bif decide (((y14++([32]:List UInt8))).length+y17.length≤140737488355328) then (bif decide ((((y14++([32]:List UInt8))++y17)).length+(([32]:List UInt8)).length≤140737488355328) then ((m_ref02_End n v0_l (IntKind.i64.wrap (v1_i+1))).bind fun y21=>(((m_ref02_operand n) v0_l y21).bind fun y23=>(bif decide (((((y14++([32]:List UInt8))++y17)++([32]:List UInt8))).length+y23.length≤140737488355328) then (some ((((y14++([32]:List UInt8))++y17)++([32]:List UInt8))++y23)) else none))) else none) else none)) else none))))))))
end
def m_ref02_Show:Nat→(List S_api_Node)→Option (List UInt8)
  | 0,_=>none
  | n+1,v0_l=>((m_ref02_Right n v0_l).bind fun y1=>(bif y1 then ((m_ref02_show n v0_l 0).bind fun y4=>(some y4)) else (some ([]:List UInt8))))
def m_expr_kids:Nat→Int→Option Int
  | 0,_=>none
  | n+1,v0_op=>(bif decide (1≤v0_op) then (bif decide (v0_op≤4) then (some 0) else (bif (v0_op==5) then (some 1) else (bif decide (6≤v0_op) then (bif decide (v0_op≤14) then (some 2) else (some (-1))) else (some (-1))))) else (bif (v0_op==5) then (some 1) else (bif decide (6≤v0_op) then (bif decide (v0_op≤14) then (some 2) else (some (-1))) else (some (-1)))))
def expr_End_L0 (n:Nat)  (v0_l:(List S_api_Node)):Nat→Int→Int→Option (LR Unit Int)
  | 0,_,_=>none
  | k4+1,s2,s3=>(bif decide (s2<((v0_l.length:Nat):Int)) then ((idx v0_l s2).bind fun x13=>((m_expr_kids n x13.f_Op).bind fun y14=>(bif decide (y14<0) then (some (.ret (-1))) else (bif ((IntKind.i64.wrap (s3+(IntKind.i64.wrap (y14 - 1))))==0) then (some (.ret (IntKind.i64.wrap (s2+1)))) else (expr_End_L0 n v0_l k4 (IntKind.i64.wrap (s2+1)) (IntKind.i64.wrap (s3+(IntKind.i64.wrap (y14 - 1))))))))) else (some (.out ())))
def m_expr_End:Nat→(List S_api_Node)→Int→Option Int
  | 0,_,_=>none
  | n+1,v0_l,v1_i=>(bif decide (v1_i<0) then (some (-1)) else ((expr_End_L0 n v0_l n v1_i 1).bind fun o11=>match o11 with|.out _=>(some (-1))|.ret v=>some v))
def expr_Names_L0 (n:Nat)  (v0_l:(List S_api_Node)):Nat→Int→(List S_api_Node)→Option (LR (List S_api_Node) (List S_api_Node))
  | 0,_,_=>none
  | k3+1,s1,s2=>(bif decide (s1<((v0_l.length:Nat):Int)) then ((idx v0_l s1).bind fun x12=>(bif (x12.f_Op==2) then (bif decide ((s2.length+1) * 57≤140737488355328) then (expr_Names_L0 n v0_l k3 (IntKind.i64.wrap (s1+1)) (s2++([x12]:List S_api_Node))) else none) else (bif (x12.f_Op==3) then (bif decide ((s2.length+1) * 57≤140737488355328) then (expr_Names_L0 n v0_l k3 (IntKind.i64.wrap (s1+1)) (s2++([x12]:List S_api_Node))) else none) else (bif (x12.f_Op==4) then (bif decide ((s2.length+1) * 57≤140737488355328) then (expr_Names_L0 n v0_l k3 (IntKind.i64.wrap (s1+1)) (s2++([x12]:List S_api_Node))) else none) else (expr_Names_L0 n v0_l k3 (IntKind.i64.wrap (s1+1)) s2))))) else (some (.out s2)))
def m_expr_Names:Nat→(List S_api_Node)→Option (List S_api_Node)
  | 0,_=>none
  | n+1,v0_l=>((expr_Names_L0 n v0_l n 0 ([]:List S_api_Node)).bind fun o10=>match o10 with|.out x23=>(some x23)|.ret v=>some v)
def expr_depth_L1 (n:Nat) :Nat→(List Int)→Option (LR (List Int) Int)
  | 0,_=>none
  | k21+1,s20=>(bif decide (0<((s20.length:Nat):Int)) then ((idx s20 (IntKind.i64.wrap (((s20.length:Nat):Int) - 1))).bind fun x30=>((idx s20 (IntKind.i64.wrap (((s20.length:Nat):Int) - 1))).bind fun x31=>((idx (List.set s20 (IntKind.i64.wrap (((s20.length:Nat):Int) - 1)).toNat (IntKind.i64.wrap (x30 - 1))) (IntKind.i64.wrap (((s20.length:Nat):Int) - 1))).bind fun x33=>(bif decide (0<x33) then (some (.out (List.set s20 (IntKind.i64.wrap (((s20.length:Nat):Int) - 1)).toNat (IntKind.i64.wrap (x30 - 1))))) else (bif (decide (0≤(IntKind.i64.wrap (((s20.length:Nat):Int) - 1)))&&decide ((IntKind.i64.wrap (((s20.length:Nat):Int) - 1))≤((((List.set s20 (IntKind.i64.wrap (((s20.length:Nat):Int) - 1)).toNat (IntKind.i64.wrap (x30 - 1)))).length:Nat):Int))) then (expr_depth_L1 n k21 (List.take ((IntKind.i64.wrap (((s20.length:Nat):Int) - 1)).toNat) (List.set s20 (IntKind.i64.wrap (((s20.length:Nat):Int) - 1)).toNat (IntKind.i64.wrap (x30 - 1))))) else none))))) else (some (.out s20)))
def expr_depth_L0 (n:Nat)  (v0_l:(List S_api_Node)):Nat→Int→Int→(List Int)→Option (LR (Int×(List Int)) Int)
  | 0,_,_,_=>none
  | k4+1,s1,s2,s3=>(bif decide (s2<((v0_l.length:Nat):Int)) then ((idx v0_l s2).bind fun x13=>((m_expr_kids n x13.f_Op).bind fun y14=>(bif decide (0<y14) then (bif decide ((s3.length+1) * 9≤140737488355328) then (expr_depth_L0 n v0_l k4 (if s1<((s3.length:Nat):Int) then ((s3.length:Nat):Int) else s1) (IntKind.i64.wrap (s2+1)) (s3++([y14]:List Int))) else none) else ((expr_depth_L1 n n s3).bind fun o28=>match o28 with|.out x38=>(expr_depth_L0 n v0_l k4 (if s1<((s3.length:Nat):Int) then ((s3.length:Nat):Int) else s1) (IntKind.i64.wrap (s2+1)) x38)|.ret v=>some (.ret v))))) else (some (.out (s1,s3))))
def m_expr_depth:Nat→(List S_api_Node)→Option Int
  | 0,_=>none
  | n+1,v0_l=>((expr_depth_L0 n v0_l n 0 0 ([]:List Int)).bind fun o11=>match o11 with|.out (x41,x42)=>(some x41)|.ret v=>some v)
def m_expr_fits:Nat→S_api_Node→Option Bool
  | 0,_=>none
  | n+1,v0_x=>(bif decide (v0_x.f_At<0) then (some false) else (bif (v0_x.f_Op==1) then (bif ((v0_x.f_Op==v0_x.f_Op)&&((v0_x.f_N==v0_x.f_N)&&((v0_x.f_Name==([]:List UInt8))&&((v0_x.f_In==([]:List UInt8))&&((v0_x.f_At==v0_x.f_At)&&true))))) then (bif decide (0≤v0_x.f_N) then (some (decide (v0_x.f_N≤9999))) else (some false)) else (some false)) else (bif (v0_x.f_Op==4) then ((m_scan_Name n v0_x.f_In).bind fun y7=>(bif y7 then (bif ((v0_x.f_Op==v0_x.f_Op)&&((v0_x.f_N==0)&&((v0_x.f_Name==v0_x.f_Name)&&((v0_x.f_In==v0_x.f_In)&&((v0_x.f_At==v0_x.f_At)&&true))))) then ((m_scan_Name n v0_x.f_Name).bind fun y11=>(some y11)) else (some false)) else (some false))) else (bif (v0_x.f_Op==2) then (bif ((v0_x.f_Op==v0_x.f_Op)&&((v0_x.f_N==0)&&((v0_x.f_Name==v0_x.f_Name)&&((v0_x.f_In==([]:List UInt8))&&((v0_x.f_At==v0_x.f_At)&&true))))) then ((m_scan_Name n v0_x.f_Name).bind fun y16=>(some y16)) else (some false)) else (bif (v0_x.f_Op==3) then (bif ((v0_x.f_Op==v0_x.f_Op)&&((v0_x.f_N==0)&&((v0_x.f_Name==v0_x.f_Name)&&((v0_x.f_In==([]:List UInt8))&&((v0_x.f_At==v0_x.f_At)&&true))))) then ((m_scan_Name n v0_x.f_Name).bind fun y21=>(some y21)) else (some false)) else (some ((v0_x.f_Op==v0_x.f_Op)&&((v0_x.f_N==0)&&((v0_x.f_Name==([]:List UInt8))&&((v0_x.f_In==([]:List UInt8))&&((v0_x.f_At==v0_x.f_At)&&true)))))))))))
def expr_Right_L0 (n:Nat)  (v0_l:(List S_api_Node)):Nat→Int→Option (LR Unit Bool)
  | 0,_=>none
  | k7+1,s6=>(bif decide (s6<((v0_l.length:Nat):Int)) then ((idx v0_l s6).bind fun x16=>((m_expr_fits n x16).bind fun y17=>(bif y17 then (expr_Right_L0 n v0_l k7 (IntKind.i64.wrap (s6+1))) else (some (.ret false))))) else (some (.out ())))
def m_expr_Right:Nat→(List S_api_Node)→Option Bool
  | 0,_=>none
  | n+1,v0_l=>(bif (((v0_l.length:Nat):Int)==0) then (some false) else (bif decide (200<((v0_l.length:Nat):Int)) then (some false) else ((m_expr_End n v0_l 0).bind fun y3=>(bif (y3 != ((v0_l.length:Nat):Int)) then (some false) else ((expr_Right_L0 n v0_l n 0).bind fun o14=>match o14 with|.out _=>((m_expr_depth n v0_l).bind fun y21=>(some (decide (y21≤30))))|.ret v=>some v)))))
def m_expr_decimal:Nat→Int→Option (List UInt8)
  | 0,_=>none
  | n+1,v0_n=>(bif decide (v0_n<10) then (some ([UInt8.ofNat (IntKind.u8.wrap (IntKind.i64.wrap (48+v0_n))).toNat]:List UInt8)) else (((m_expr_decimal n) (IntKind.i64.wrap (Int.tdiv v0_n 10))).bind fun y2=>(bif decide (y2.length+(([UInt8.ofNat (IntKind.u8.wrap (IntKind.i64.wrap (48+(Int.tmod v0_n 10)))).toNat]:List UInt8)).length≤140737488355328) then (some (y2++([UInt8.ofNat (IntKind.u8.wrap (IntKind.i64.wrap (48+(Int.tmod v0_n 10)))).toNat]:List UInt8))) else none)))
def m_expr_sign:Nat→Int→Option (List UInt8)
  | 0,_=>none
  | n+1,v0_op=>(bif decide (v0_op=((14:Nat):Int)) then (some ([124,124]:List UInt8)) else (bif decide (v0_op=((13:Nat):Int)) then (some ([38,38]:List UInt8)) else (bif decide (v0_op=((12:Nat):Int)) then (some ([60,61]:List UInt8)) else (bif decide (v0_op=((11:Nat):Int)) then (some ([60]:List UInt8)) else (bif decide (v0_op=((10:Nat):Int)) then (some ([33,61]:List UInt8)) else (bif decide (v0_op=((9:Nat):Int)) then (some ([61,61]:List UInt8)) else (bif decide (v0_op=((8:Nat):Int)) then (some ([42]:List UInt8)) else (bif decide (v0_op=((7:Nat):Int)) then (some ([45]:List UInt8)) else (bif decide (v0_op=((6:Nat):Int)) then (some ([43]:List UInt8)) else (bif decide (v0_op=((5:Nat):Int)) then (some ([33]:List UInt8)) else (bif decide (v0_op=((4:Nat):Int)) then (some ([]:List UInt8)) else (bif decide (v0_op=((3:Nat):Int)) then (some ([]:List UInt8)) else (bif decide (v0_op=((2:Nat):Int)) then (some ([]:List UInt8)) else (bif decide (v0_op=((1:Nat):Int)) then (some ([]:List UInt8)) else (bif decide (v0_op=((0:Nat):Int)) then (some ([]:List UInt8)) else none)))))))))))))))
def m_expr_shown:Nat→(List S_api_Node)→Int→Bool→Option ((List UInt8)×Int)
  | 0,_,_,_=>none
  | n+1,v0_l,v1_i,v2_operand=>((idx v0_l v1_i).bind fun x1=>(bif (x1.f_Op==1) then ((m_expr_decimal n x1.f_N).bind fun y3=>(some (y3,IntKind.i64.wrap (v1_i+1)))) else (bif (x1.f_Op==2) then (some (x1.f_Name,IntKind.i64.wrap (v1_i+1))) else (bif (x1.f_Op==3) then (some (x1.f_Name,IntKind.i64.wrap (v1_i+1))) else (bif (x1.f_Op==4) then (bif decide (x1.f_In.length+(([46]:List UInt8)).length≤140737488355328) then (bif decide (((x1.f_In++([46]:List UInt8))).length+x1.f_Name.length≤140737488355328) then (some (((x1.f_In++([46]:List UInt8))++x1.f_Name),IntKind.i64.wrap (v1_i+1))) else none) else none) else (bif (x1.f_Op==5) then (((m_expr_shown n) v0_l (IntKind.i64.wrap (v1_i+1)) true).bind fun y11=>((m_expr_sign n x1.f_Op).bind fun y13=>(bif decide (y13.length+y11.1.length≤140737488355328) then (some ((y13++y11.1),y11.2)) else none))) else (((m_expr_shown n) v0_l (IntKind.i64.wrap (v1_i+1)) true).bind fun y16=>(((m_expr_shown n) v0_l y16.2 true).bind fun y18=>(bif decide (y16.1.length+(([32]:List UInt8)).length≤140737488355328) then ((m_expr_sign n x1.f_Op).bind fun y21=>(bif decide (((y16.1++([32]:List UInt8))).length+y21.length≤140737488355328) then (bif decide ((((y16.1++([32]:List UInt8))++y21)).length+(([32]:List UInt8)).length≤140737488355328) then (bif decide (((((y16.1++([32]:List UInt8))++y21)++([32]:List UInt8))).length+y18.1.length≤140737488355328) then (bif v2_operand then (bif decide ((([40]:List UInt8)).length+(((((y16.1++([32]:List UInt8))++y21)++([32]:List UInt8))++y18.1)).length≤140737488355328) then (bif decide (((([40]:List UInt8)++((((y16.1++([32]:List UInt8))++y21)++([32]:List UInt8))++y18.1))).length+(([41]:List UInt8)).length≤140737488355328) then (some (((([40]:List UInt8)++((((y16.1++([32]:List UInt8))++y21)++([32]:List UInt8))++y18.1))++([41]:List UInt8)),y18.2)) else none) else none) else (some (((((y16.1++([32]:List UInt8))++y21)++([32]:List UInt8))++y18.1),y18.2))) else none) else none) else none)) else none)))))))))
def m_expr_Show:Nat→(List S_api_Node)→Option (List UInt8)
  | 0,_=>none
  | n+1,v0_l=>((m_expr_Right n v0_l).bind fun y1=>(bif y1 then ((m_expr_shown n v0_l 0 false).bind fun y4=>(some y4.1)) else (some ([]:List UInt8))))
def m_ref03_Wrong:Nat→(List S_api_Token)→Int→Option (Int×Int)
  | 0,_,_=>none
  | n+1,v0_l,v1_i=>(bif decide (((v0_l.length:Nat):Int)≤v1_i) then ((m_ref02_Place n v0_l v1_i).bind fun y2=>(some (6,y2))) else ((m_ref02_Place n v0_l v1_i).bind fun y4=>(some (5,y4))))
def m_ref03_Name:Nat→(List S_api_Token)→Int→Option Bool
  | 0,_,_=>none
  | n+1,v0_l,v1_i=>(bif decide (v1_i<((v0_l.length:Nat):Int)) then ((idx v0_l v1_i).bind fun x2=>(bif (x2.f_Kind==1) then ((idx v0_l v1_i).bind fun x4=>((m_ref01_Name n x4.f_Text).bind fun y5=>(some y5))) else (some false))) else (some false))
def m_ref03_block:Nat→Int→Option Bool
  | 0,_=>none
  | n+1,v0_kind=>(bif (v0_kind==10) then (some true) else (bif (v0_kind==11) then (some true) else (some (v0_kind==12))))
def m_ref03_form:Nat→Int→Option (List UInt8)
  | 0,_=>none
  | n+1,v0_kind=>(bif (v0_kind==2) then (some ([114,61,101,59]:List UInt8)) else (bif (v0_kind==3) then (some ([114,61,108,59]:List UInt8)) else (bif (v0_kind==4) then (some ([108,61,101,59]:List UInt8)) else (bif (v0_kind==5) then (some ([114,61,108,44,101,44,102,59]:List UInt8)) else (bif (v0_kind==6) then (some ([114,61,108,44,101,59]:List UInt8)) else (bif (v0_kind==7) then (some ([114,61,108,44,101,59]:List UInt8)) else (bif (v0_kind==9) then (some ([108,113,101,59]:List UInt8)) else (bif (v0_kind==10) then (some ([101]:List UInt8)) else (bif (v0_kind==11) then (some ([101]:List UInt8)) else (bif (v0_kind==12) then (some ([]:List UInt8)) else (some ([59]:List UInt8))))))))))))
def ref03_Plain_L0 (n:Nat)  (y1:(List S_api_Node)):Nat→Int→Option (LR Unit Bool)
  | 0,_=>none
  | k4+1,s3=>(bif decide (s3<((y1.length:Nat):Int)) then ((idx y1 s3).bind fun x13=>(bif (x13.f_Op != 2) then (some (.ret false)) else (ref03_Plain_L0 n y1 k4 (IntKind.i64.wrap (s3+1))))) else (some (.out ())))
def m_ref03_Plain:Nat→(List S_api_Node)→Option Bool
  | 0,_=>none
  | n+1,v0_l=>((m_ref02_Names n v0_l).bind fun y1=>((ref03_Plain_L0 n y1 n 0).bind fun o11=>match o11 with|.out _=>((m_ref02_Right n v0_l).bind fun y16=>(some y16))|.ret v=>some v))
def m_ref03_plain:Nat→(List S_api_Token)→Int→Option ((List S_api_Node)×Int×Int×Int)
  | 0,_,_=>none
  | n+1,v0_l,v1_i=>((m_ref02_Parse n v0_l v1_i).bind fun y1=>(bif (y1.2.2.1 != 0) then (some (([]:List S_api_Node),0,y1.2.2.1,y1.2.2.2)) else ((m_ref03_Plain n y1.1).bind fun y4=>(bif y4 then (some (y1.1,y1.2.1,0,0)) else ((idx v0_l v1_i).bind fun x7=>(some (([]:List S_api_Node),0,5,x7.f_At)))))))
def ref03_fields_L0 (n:Nat)  (v0_l:(List S_api_Token)) (v2_x:S_api_Stmt) (y1:(List UInt8)):Nat→Int→Int→(List UInt8)→(List UInt8)→(List S_api_Node)→(List S_api_Node)→Bool→Option (LR (Int×(List UInt8)×(List UInt8)×(List S_api_Node)×(List S_api_Node)×Bool) (S_api_Stmt×Int×Int×Int))
  | 0,_,_,_,_,_,_,_=>none
  | k10+1,s3,s4,s5,s6,s7,s8,s9=>(bif decide (s4<((y1.length:Nat):Int)) then ((idx y1 s4).bind fun x19=>(bif ((x19.toNat:Int)==114) then ((m_ref03_Name n v0_l s3).bind fun y21=>(bif y21 then ((idx y1 s4).bind fun x24=>(bif ((x24.toNat:Int)==114) then ((idx v0_l s3).bind fun x26=>(ref03_fields_L0 n v0_l v2_x y1 k10 (IntKind.i64.wrap (s3+1)) (IntKind.i64.wrap (s4+1)) x26.f_Text s6 s7 s8 s9)) else ((idx v0_l s3).bind fun x27=>(ref03_fields_L0 n v0_l v2_x y1 k10 (IntKind.i64.wrap (s3+1)) (IntKind.i64.wrap (s4+1)) s5 x27.f_Text s7 s8 s9)))) else ((m_ref03_Wrong n v0_l s3).bind fun y28=>(some (.ret ((⟨v2_x.f_Kind,s5,s6,s7,s8,s9,v2_x.f_Body,v2_x.f_Else,v2_x.f_At⟩:S_api_Stmt),0,y28.1,y28.2)))))) else ((idx y1 s4).bind fun x30=>(bif ((x30.toNat:Int)==108) then ((m_ref03_Name n v0_l s3).bind fun y32=>(bif y32 then ((idx y1 s4).bind fun x35=>(bif ((x35.toNat:Int)==114) then ((idx v0_l s3).bind fun x37=>(ref03_fields_L0 n v0_l v2_x y1 k10 (IntKind.i64.wrap (s3+1)) (IntKind.i64.wrap (s4+1)) x37.f_Text s6 s7 s8 s9)) else ((idx v0_l s3).bind fun x38=>(ref03_fields_L0 n v0_l v2_x y1 k10 (IntKind.i64.wrap (s3+1)) (IntKind.i64.wrap (s4+1)) s5 x38.f_Text s7 s8 s9)))) else ((m_ref03_Wrong n v0_l s3).bind fun y39=>(some (.ret ((⟨v2_x.f_Kind,s5,s6,s7,s8,s9,v2_x.f_Body,v2_x.f_Else,v2_x.f_At⟩:S_api_Stmt),0,y39.1,y39.2)))))) else ((idx y1 s4).bind fun x41=>(bif ((x41.toNat:Int)==101) then ((m_ref03_plain n v0_l s3).bind fun y43=>(bif (y43.2.2.1 != 0) then (some (.ret ((⟨v2_x.f_Kind,s5,s6,s7,s8,s9,v2_x.f_Body,v2_x.f_Else,v2_x.f_At⟩:S_api_Stmt),0,y43.2.2.1,y43.2.2.2))) else ((idx y1 s4).bind fun x46=>(bif ((x46.toNat:Int)==101) then (ref03_fields_L0 n v0_l v2_x y1 k10 y43.2.1 (IntKind.i64.wrap (s4+1)) s5 s6 y43.1 s8 s9) else (ref03_fields_L0 n v0_l v2_x y1 k10 y43.2.1 (IntKind.i64.wrap (s4+1)) s5 s6 s7 y43.1 s9))))) else ((idx y1 s4).bind fun x48=>(bif ((x48.toNat:Int)==102) then ((m_ref03_plain n v0_l s3).bind fun y50=>(bif (y50.2.2.1 != 0) then (some (.ret ((⟨v2_x.f_Kind,s5,s6,s7,s8,s9,v2_x.f_Body,v2_x.f_Else,v2_x.f_At⟩:S_api_Stmt),0,y50.2.2.1,y50.2.2.2))) else ((idx y1 s4).bind fun x53=>(bif ((x53.toNat:Int)==101) then (ref03_fields_L0 n v0_l v2_x y1 k10 y50.2.1 (IntKind.i64.wrap (s4+1)) s5 s6 y50.1 s8 s9) else (ref03_fields_L0 n v0_l v2_x y1 k10 y50.2.1 (IntKind.i64.wrap (s4+1)) s5 s6 s7 y50.1 s9))))) else ((idx y1 s4).bind fun x55=>(bif ((x55.toNat:Int)==113) then ((m_ref02_Is n v0_l s3 ([33,61]:List UInt8)).bind fun y57=>(bif y57 then (ref03_fields_L0 n v0_l v2_x y1 k10 (IntKind.i64.wrap (s3+1)) (IntKind.i64.wrap (s4+1)) s5 s6 s7 s8 true) else ((m_ref02_Is n v0_l s3 ([61,61]:List UInt8)).bind fun y60=>(bif y60 then (ref03_fields_L0 n v0_l v2_x y1 k10 (IntKind.i64.wrap (s3+1)) (IntKind.i64.wrap (s4+1)) s5 s6 s7 s8 false) else ((m_ref03_Wrong n v0_l s3).bind fun y63=>(some (.ret ((⟨v2_x.f_Kind,s5,s6,s7,s8,false,v2_x.f_Body,v2_x.f_Else,v2_x.f_At⟩:S_api_Stmt),0,y63.1,y63.2)))))))) else (bif (decide (0≤(IntKind.i64.wrap (s4+1)))&&decide ((IntKind.i64.wrap (s4+1))≤((y1.length:Nat):Int))&&decide (0≤s4)&&decide (s4≤(IntKind.i64.wrap (s4+1)))) then ((m_ref02_Is n v0_l s3 (List.drop (s4.toNat) (List.take ((IntKind.i64.wrap (s4+1)).toNat) y1))).bind fun y66=>(bif y66 then (ref03_fields_L0 n v0_l v2_x y1 k10 (IntKind.i64.wrap (s3+1)) (IntKind.i64.wrap (s4+1)) s5 s6 s7 s8 s9) else ((m_ref03_Wrong n v0_l s3).bind fun y69=>(some (.ret ((⟨v2_x.f_Kind,s5,s6,s7,s8,s9,v2_x.f_Body,v2_x.f_Else,v2_x.f_At⟩:S_api_Stmt),0,y69.1,y69.2)))))) else none))))))))))) else (some (.out (s3,s5,s6,s7,s8,s9))))
def m_ref03_fields:Nat→(List S_api_Token)→Int→S_api_Stmt→Option (S_api_Stmt×Int×Int×Int)
  | 0,_,_,_=>none
  | n+1,v0_l,v1_i,v2_x=>((m_ref03_form n v2_x.f_Kind).bind fun y1=>((ref03_fields_L0 n v0_l v2_x y1 n v1_i 0 v2_x.f_Reg v2_x.f_Loc v2_x.f_E v2_x.f_F v2_x.f_Ne).bind fun o17=>match o17 with|.out (x72,x73,x74,x75,x76,x77)=>(some ((⟨v2_x.f_Kind,x73,x74,x75,x76,x77,v2_x.f_Body,v2_x.f_Else,v2_x.f_At⟩:S_api_Stmt),x72,0,0))|.ret v=>some v))
def m_ref03_words:Nat→Option (List (List UInt8))
  | 0=>none
  | n+1=>(some ([([]:List UInt8),([115,107,105,112]:List UInt8),([115,101,116]:List UInt8),([108,111,97,100]:List UInt8),([115,116,111,114,101]:List UInt8),([99,97,115]:List UInt8),([102,97,100,100]:List UInt8),([120,99,104,103]:List UInt8),([102,101,110,99,101]:List UInt8),([97,119,97,105,116]:List UInt8),([105,102]:List UInt8),([119,104,105,108,101]:List UInt8),([108,111,111,112]:List UInt8),([98,114,101,97,107]:List UInt8)]:List (List UInt8)))
def ref03_kind_L0 (n:Nat)  (v0_l:(List S_api_Token)) (v1_i:Int):Nat→Int→Option (LR Unit Int)
  | 0,_=>none
  | k2+1,s1=>((m_ref03_words n ).bind fun y10=>(bif decide (s1<((y10.length:Nat):Int)) then (bif decide (v1_i<((v0_l.length:Nat):Int)) then ((idx v0_l v1_i).bind fun x14=>(bif (x14.f_Kind==1) then ((idx v0_l v1_i).bind fun x16=>((m_ref03_words n ).bind fun y17=>((idx y17 s1).bind fun x19=>(bif (x16.f_Text==x19) then (some (.ret s1)) else (ref03_kind_L0 n v0_l v1_i k2 (IntKind.i64.wrap (s1+1))))))) else (ref03_kind_L0 n v0_l v1_i k2 (IntKind.i64.wrap (s1+1))))) else (some (.out ()))) else (some (.out ()))))
def m_ref03_kind:Nat→(List S_api_Token)→Int→Option Int
  | 0,_,_=>none
  | n+1,v0_l,v1_i=>((ref03_kind_L0 n v0_l v1_i n 1).bind fun o9=>match o9 with|.out _=>(some 0)|.ret v=>some v)
def ref03_list_L0 (n:Nat) (rec_ref03_braced:(List S_api_Token)→Int→Int→Option ((List S_api_Stmt)×Int×Int×Int)) (v0_l:(List S_api_Token)) (v2_in:Int):Nat→Int→(List S_api_Stmt)→Option (LR (Int×(List S_api_Stmt)) ((List S_api_Stmt)×Int×Int×Int))
  | 0,_,_=>none
  | k3+1,s1,s2=>(bif decide (s1<((v0_l.length:Nat):Int)) then ((m_ref02_Is n v0_l s1 ([125]:List UInt8)).bind fun y12=>(bif y12 then (some (.out (s1,s2))) else ((m_ref03_kind n v0_l s1).bind fun y15=>(bif (y15==0) then ((idx v0_l s1).bind fun x18=>(some (.ret (([]:List S_api_Stmt),0,5,x18.f_At)))) else ((idx v0_l s1).bind fun x19=>((m_ref03_fields n v0_l (IntKind.i64.wrap (s1+1)) (⟨y15,([]:List UInt8),([]:List UInt8),([]:List S_api_Node),([]:List S_api_Node),false,0,0,x19.f_At⟩:S_api_Stmt)).bind fun y20=>(bif (y20.2.2.1 != 0) then (some (.ret (([]:List S_api_Stmt),0,y20.2.2.1,y20.2.2.2))) else ((m_ref03_block n y15).bind fun y23=>(bif y23 then ((rec_ref03_braced v0_l y20.2.1 v2_in).bind fun y26=>(bif (y26.2.2.1 != 0) then (some (.ret (([]:List S_api_Stmt),0,y26.2.2.1,y26.2.2.2))) else (bif (y15==10) then (bif decide (y26.2.1<((v0_l.length:Nat):Int)) then ((idx v0_l y26.2.1).bind fun x31=>(bif (x31.f_Kind==1) then ((idx v0_l y26.2.1).bind fun x33=>(bif (x33.f_Text==([101,108,115,101]:List UInt8)) then ((rec_ref03_braced v0_l (IntKind.i64.wrap (y26.2.1+1)) v2_in).bind fun y35=>(bif (y35.2.2.1 != 0) then (some (.ret (([]:List S_api_Stmt),0,y35.2.2.1,y35.2.2.2))) else (bif decide ((s2.length+1) * 121≤140737488355328) then (bif decide ((((s2++([(⟨y20.1.f_Kind,y20.1.f_Reg,y20.1.f_Loc,y20.1.f_E,y20.1.f_F,y20.1.f_Ne,((y26.1.length:Nat):Int),((y35.1.length:Nat):Int),y20.1.f_At⟩:S_api_Stmt)]:List S_api_Stmt))).length+y26.1.length) * 121≤140737488355328) then (bif decide (((((s2++([(⟨y20.1.f_Kind,y20.1.f_Reg,y20.1.f_Loc,y20.1.f_E,y20.1.f_F,y20.1.f_Ne,((y26.1.length:Nat):Int),((y35.1.length:Nat):Int),y20.1.f_At⟩:S_api_Stmt)]:List S_api_Stmt))++y26.1)).length+y35.1.length) * 121≤140737488355328) then (ref03_list_L0 n rec_ref03_braced v0_l v2_in k3 y35.2.1 (((s2++([(⟨y20.1.f_Kind,y20.1.f_Reg,y20.1.f_Loc,y20.1.f_E,y20.1.f_F,y20.1.f_Ne,((y26.1.length:Nat):Int),((y35.1.length:Nat):Int),y20.1.f_At⟩:S_api_Stmt)]:List S_api_Stmt))++y26.1)++y35.1)) else none) else none) else none))) else (bif decide ((s2.length+1) * 121≤140737488355328) then (bif decide ((((s2++([(⟨y20.1.f_Kind,y20.1.f_Reg,y20.1.f_Loc,y20.1.f_E,y20.1.f_F,y20.1.f_Ne,((y26.1.length:Nat):Int),0,y20.1.f_At⟩:S_api_Stmt)]:List S_api_Stmt))).length+y26.1.length) * 121≤140737488355328) then (bif decide (((((s2++([(⟨y20.1.f_Kind,y20.1.f_Reg,y20.1.f_Loc,y20.1.f_E,y20.1.f_F,y20.1.f_Ne,((y26.1.length:Nat):Int),0,y20.1.f_At⟩:S_api_Stmt)]:List S_api_Stmt))++y26.1)).length+0) * 121≤140737488355328) then (ref03_list_L0 n rec_ref03_braced v0_l v2_in k3 y26.2.1 ((s2++([(⟨y20.1.f_Kind,y20.1.f_Reg,y20.1.f_Loc,y20.1.f_E,y20.1.f_F,y20.1.f_Ne,((y26.1.length:Nat):Int),0,y20.1.f_At⟩:S_api_Stmt)]:List S_api_Stmt))++y26.1)) else none) else none) else none))) else (bif decide ((s2.length+1) * 121≤140737488355328) then (bif decide ((((s2++([(⟨y20.1.f_Kind,y20.1.f_Reg,y20.1.f_Loc,y20.1.f_E,y20.1.f_F,y20.1.f_Ne,((y26.1.length:Nat):Int),0,y20.1.f_At⟩:S_api_Stmt)]:List S_api_Stmt))).length+y26.1.length) * 121≤140737488355328) then (bif decide (((((s2++([(⟨y20.1.f_Kind,y20.1.f_Reg,y20.1.f_Loc,y20.1.f_E,y20.1.f_F,y20.1.f_Ne,((y26.1.length:Nat):Int),0,y20.1.f_At⟩:S_api_Stmt)]:List S_api_Stmt))++y26.1)).length+0) * 121≤140737488355328) then (ref03_list_L0 n rec_ref03_braced v0_l v2_in k3 y26.2.1 ((s2++([(⟨y20.1.f_Kind,y20.1.f_Reg,y20.1.f_Loc,y20.1.f_E,y20.1.f_F,y20.1.f_Ne,((y26.1.length:Nat):Int),0,y20.1.f_At⟩:S_api_Stmt)]:List S_api_Stmt))++y26.1)) else none) else none) else none))) else (bif decide ((s2.length+1) * 121≤140737488355328) then (bif decide ((((s2++([(⟨y20.1.f_Kind,y20.1.f_Reg,y20.1.f_Loc,y20.1.f_E,y20.1.f_F,y20.1.f_Ne,((y26.1.length:Nat):Int),0,y20.1.f_At⟩:S_api_Stmt)]:List S_api_Stmt))).length+y26.1.length) * 121≤140737488355328) then (bif decide (((((s2++([(⟨y20.1.f_Kind,y20.1.f_Reg,y20.1.f_Loc,y20.1.f_E,y20.1.f_F,y20.1.f_Ne,((y26.1.length:Nat):Int),0,y20.1.f_At⟩:S_api_Stmt)]:List S_api_Stmt))++y26.1)).length+0) * 121≤140737488355328) then (ref03_list_L0 n rec_ref03_braced v0_l v2_in k3 y26.2.1 ((s2++([(⟨y20.1.f_Kind,y20.1.f_Reg,y20.1.f_Loc,y20.1.f_E,y20.1.f_F,y20.1.f_Ne,((y26.1.length:Nat):Int),0,y20.1.f_At⟩:S_api_Stmt)]:List S_api_Stmt))++y26.1)) else none) else none) else none)) else (bif decide ((s2.length+1) * 121≤140737488355328) then (bif decide ((((s2++([(⟨y20.1.f_Kind,y20.1.f_Reg,y20.1.f_Loc,y20.1.f_E,y20.1.f_F,y20.1.f_Ne,((y26.1.length:Nat):Int),0,y20.1.f_At⟩:S_api_Stmt)]:List S_api_Stmt))).length+y26.1.length) * 121≤140737488355328) then (bif decide (((((s2++([(⟨y20.1.f_Kind,y20.1.f_Reg,y20.1.f_Loc,y20.1.f_E,y20.1.f_F,y20.1.f_Ne,((y26.1.length:Nat):Int),0,y20.1.f_At⟩:S_api_Stmt)]:List S_api_Stmt))++y26.1)).length+0) * 121≤140737488355328) then (ref03_list_L0 n rec_ref03_braced v0_l v2_in k3 y26.2.1 ((s2++([(⟨y20.1.f_Kind,y20.1.f_Reg,y20.1.f_Loc,y20.1.f_E,y20.1.f_F,y20.1.f_Ne,((y26.1.length:Nat):Int),0,y20.1.f_At⟩:S_api_Stmt)]:List S_api_Stmt))++y26.1)) else none) else none) else none)))) else (bif (y15==10) then (bif decide (y20.2.1<((v0_l.length:Nat):Int)) then ((idx v0_l y20.2.1).bind fun x74=>(bif (x74.f_Kind==1) then ((idx v0_l y20.2.1).bind fun x76=>(bif (x76.f_Text==([101,108,115,101]:List UInt8)) then ((rec_ref03_braced v0_l (IntKind.i64.wrap (y20.2.1+1)) v2_in).bind fun y78=>(bif (y78.2.2.1 != 0) then (some (.ret (([]:List S_api_Stmt),0,y78.2.2.1,y78.2.2.2))) else (bif decide ((s2.length+1) * 121≤140737488355328) then (bif decide ((((s2++([(⟨y20.1.f_Kind,y20.1.f_Reg,y20.1.f_Loc,y20.1.f_E,y20.1.f_F,y20.1.f_Ne,0,((y78.1.length:Nat):Int),y20.1.f_At⟩:S_api_Stmt)]:List S_api_Stmt))).length+0) * 121≤140737488355328) then (bif decide ((((s2++([(⟨y20.1.f_Kind,y20.1.f_Reg,y20.1.f_Loc,y20.1.f_E,y20.1.f_F,y20.1.f_Ne,0,((y78.1.length:Nat):Int),y20.1.f_At⟩:S_api_Stmt)]:List S_api_Stmt))).length+y78.1.length) * 121≤140737488355328) then (ref03_list_L0 n rec_ref03_braced v0_l v2_in k3 y78.2.1 ((s2++([(⟨y20.1.f_Kind,y20.1.f_Reg,y20.1.f_Loc,y20.1.f_E,y20.1.f_F,y20.1.f_Ne,0,((y78.1.length:Nat):Int),y20.1.f_At⟩:S_api_Stmt)]:List S_api_Stmt))++y78.1)) else none) else none) else none))) else (bif decide ((s2.length+1) * 121≤140737488355328) then (bif decide ((((s2++([(⟨y20.1.f_Kind,y20.1.f_Reg,y20.1.f_Loc,y20.1.f_E,y20.1.f_F,y20.1.f_Ne,0,0,y20.1.f_At⟩:S_api_Stmt)]:List S_api_Stmt))).length+0) * 121≤140737488355328) then (bif decide ((((s2++([(⟨y20.1.f_Kind,y20.1.f_Reg,y20.1.f_Loc,y20.1.f_E,y20.1.f_F,y20.1.f_Ne,0,0,y20.1.f_At⟩:S_api_Stmt)]:List S_api_Stmt))).length+0) * 121≤140737488355328) then (ref03_list_L0 n rec_ref03_braced v0_l v2_in k3 y20.2.1 (s2++([(⟨y20.1.f_Kind,y20.1.f_Reg,y20.1.f_Loc,y20.1.f_E,y20.1.f_F,y20.1.f_Ne,0,0,y20.1.f_At⟩:S_api_Stmt)]:List S_api_Stmt))) else none) else none) else none))) else (bif decide ((s2.length+1) * 121≤140737488355328) then (bif decide ((((s2++([(⟨y20.1.f_Kind,y20.1.f_Reg,y20.1.f_Loc,y20.1.f_E,y20.1.f_F,y20.1.f_Ne,0,0,y20.1.f_At⟩:S_api_Stmt)]:List S_api_Stmt))).length+0) * 121≤140737488355328) then (bif decide ((((s2++([(⟨y20.1.f_Kind,y20.1.f_Reg,y20.1.f_Loc,y20.1.f_E,y20.1.f_F,y20.1.f_Ne,0,0,y20.1.f_At⟩:S_api_Stmt)]:List S_api_Stmt))).length+0) * 121≤140737488355328) then (ref03_list_L0 n rec_ref03_braced v0_l v2_in k3 y20.2.1 (s2++([(⟨y20.1.f_Kind,y20.1.f_Reg,y20.1.f_Loc,y20.1.f_E,y20.1.f_F,y20.1.f_Ne,0,0,y20.1.f_At⟩:S_api_Stmt)]:List S_api_Stmt))) else none) else none) else none))) else (bif decide ((s2.length+1) * 121≤140737488355328) then (bif decide ((((s2++([(⟨y20.1.f_Kind,y20.1.f_Reg,y20.1.f_Loc,y20.1.f_E,y20.1.f_F,y20.1.f_Ne,0,0,y20.1.f_At⟩:S_api_Stmt)]:List S_api_Stmt))).length+0) * 121≤140737488355328) then (bif decide ((((s2++([(⟨y20.1.f_Kind,y20.1.f_Reg,y20.1.f_Loc,y20.1.f_E,y20.1.f_F,y20.1.f_Ne,0,0,y20.1.f_At⟩:S_api_Stmt)]:List S_api_Stmt))).length+0) * 121≤140737488355328) then (ref03_list_L0 n rec_ref03_braced v0_l v2_in k3 y20.2.1 (s2++([(⟨y20.1.f_Kind,y20.1.f_Reg,y20.1.f_Loc,y20.1.f_E,y20.1.f_F,y20.1.f_Ne,0,0,y20.1.f_At⟩:S_api_Stmt)]:List S_api_Stmt))) else none) else none) else none)) else (bif decide ((s2.length+1) * 121≤140737488355328) then (bif decide ((((s2++([(⟨y20.1.f_Kind,y20.1.f_Reg,y20.1.f_Loc,y20.1.f_E,y20.1.f_F,y20.1.f_Ne,0,0,y20.1.f_At⟩:S_api_Stmt)]:List S_api_Stmt))).length+0) * 121≤140737488355328) then (bif decide ((((s2++([(⟨y20.1.f_Kind,y20.1.f_Reg,y20.1.f_Loc,y20.1.f_E,y20.1.f_F,y20.1.f_Ne,0,0,y20.1.f_At⟩:S_api_Stmt)]:List S_api_Stmt))).length+0) * 121≤140737488355328) then (ref03_list_L0 n rec_ref03_braced v0_l v2_in k3 y20.2.1 (s2++([(⟨y20.1.f_Kind,y20.1.f_Reg,y20.1.f_Loc,y20.1.f_E,y20.1.f_F,y20.1.f_Ne,0,0,y20.1.f_At⟩:S_api_Stmt)]:List S_api_Stmt))) else none) else none) else none))))))))))) else (some (.out (s1,s2))))
mutual
def m_ref03_braced:Nat→(List S_api_Token)→Int→Int→Option ((List S_api_Stmt)×Int×Int×Int)
  | 0,_,_,_=>none
  | n+1,v0_l,v1_i,v2_in=>((m_ref02_Is n v0_l v1_i ([123]:List UInt8)).bind fun y1=>(bif y1 then (bif decide (30≤v2_in) then ((idx v0_l v1_i).bind fun x5=>(some (([]:List S_api_Stmt),0,7,x5.f_At))) else (((m_ref03_list n) v0_l (IntKind.i64.wrap (v1_i+1)) (IntKind.i64.wrap (v2_in+1))).bind fun y6=>(bif (y6.2.2.1 != 0) then (some (([]:List S_api_Stmt),0,y6.2.2.1,y6.2.2.2)) else ((m_ref02_Is n v0_l y6.2.1 ([125]:List UInt8)).bind fun y9=>(bif y9 then (some (y6.1,IntKind.i64.wrap (y6.2.1+1),0,0)) else ((m_ref03_Wrong n v0_l y6.2.1).bind fun y12=>(some (([]:List S_api_Stmt),0,y12.1,y12.2)))))))) else ((m_ref03_Wrong n v0_l v1_i).bind fun y14=>(some (([]:List S_api_Stmt),0,y14.1,y14.2)))))
def m_ref03_list:Nat→(List S_api_Token)→Int→Int→Option ((List S_api_Stmt)×Int×Int×Int)
  | 0,_,_,_=>none
  | n+1,v0_l,v1_i,v2_in=>((ref03_list_L0 n (m_ref03_braced n) v0_l v2_in n v1_i ([]:List S_api_Stmt)).bind fun o10=>match o10 with|.out (x121,x122)=>(some (x122,x121,0,0))|.ret v=>some v)
end
def m_ref03_Parse:Nat→(List S_api_Token)→Int→Option ((List S_api_Stmt)×Int×Int×Int)
  | 0,_,_=>none
  | n+1,v0_l,v1_i=>(bif decide (v1_i<0) then (some (([]:List S_api_Stmt),0,1,0)) else (bif decide (((v0_l.length:Nat):Int)<v1_i) then (some (([]:List S_api_Stmt),0,1,0)) else ((m_ref03_list n v0_l v1_i 0).bind fun y3=>(bif (y3.2.2.1 != 0) then (some (([]:List S_api_Stmt),0,y3.2.2.1,y3.2.2.2)) else (bif decide (200<((y3.1.length:Nat):Int)) then ((m_ref02_Place n v0_l v1_i).bind fun y7=>(some (([]:List S_api_Stmt),0,2,y7))) else (some (y3.1,y3.2.1,0,0)))))))
def ref03_Same_L0 (n:Nat)  (v0_a:(List S_api_Stmt)) (v1_b:(List S_api_Stmt)):Nat→Bool→Int→Option (LR Unit Bool)
  | 0,_,_=>none
  | k4+1,s2,s3=>(bif decide (s3<((v0_a.length:Nat):Int)) then ((idx v0_a s3).bind fun x13=>((idx v1_b s3).bind fun x14=>(bif (x13.f_Kind != x14.f_Kind) then (some (.ret false)) else (bif (x13.f_Reg==x14.f_Reg) then (bif (x13.f_Loc==x14.f_Loc) then (bif (x13.f_Ne==x14.f_Ne) then (bif (x13.f_Body != x14.f_Body) then (some (.ret false)) else (bif (x13.f_Else != x14.f_Else) then (some (.ret false)) else (bif s2 then (bif (x13.f_At != x14.f_At) then (some (.ret false)) else ((m_ref02_Same n x13.f_E x14.f_E true).bind fun y23=>(bif y23 then ((m_ref02_Same n x13.f_F x14.f_F true).bind fun y26=>(bif y26 then (ref03_Same_L0 n v0_a v1_b k4 true (IntKind.i64.wrap (s3+1))) else (some (.ret false)))) else (some (.ret false))))) else ((m_ref02_Same n x13.f_E x14.f_E false).bind fun y29=>(bif y29 then ((m_ref02_Same n x13.f_F x14.f_F false).bind fun y32=>(bif y32 then (ref03_Same_L0 n v0_a v1_b k4 false (IntKind.i64.wrap (s3+1))) else (some (.ret false)))) else (some (.ret false))))))) else (some (.ret false))) else (some (.ret false))) else (some (.ret false)))))) else (some (.out ())))
def m_ref03_Same:Nat→(List S_api_Stmt)→(List S_api_Stmt)→Bool→Option Bool
  | 0,_,_,_=>none
  | n+1,v0_a,v1_b,v2_places=>(bif (((v0_a.length:Nat):Int) != ((v1_b.length:Nat):Int)) then (some false) else ((ref03_Same_L0 n v0_a v1_b n v2_places 0).bind fun o11=>match o11 with|.out _=>(some true)|.ret v=>some v))
def ref03_tops_L0 (n:Nat)  (v0_l:(List S_api_Stmt)) (v2_to:Int):Nat→Int→(List Int)→Option (LR (List Int) (List Int))
  | 0,_,_=>none
  | k3+1,s1,s2=>(bif decide (s1<v2_to) then (bif decide ((s2.length+1) * 9≤140737488355328) then ((idx v0_l s1).bind fun x14=>((idx v0_l s1).bind fun x15=>(ref03_tops_L0 n v0_l v2_to k3 (IntKind.i64.wrap ((IntKind.i64.wrap ((IntKind.i64.wrap (s1+1))+x14.f_Body))+x15.f_Else)) (s2++([s1]:List Int))))) else none) else (some (.out s2)))
def m_ref03_tops:Nat→(List S_api_Stmt)→Int→Int→Option (List Int)
  | 0,_,_,_=>none
  | n+1,v0_l,v1_from,v2_to=>((ref03_tops_L0 n v0_l v2_to n v1_from ([]:List Int)).bind fun o10=>match o10 with|.out x17=>(some x17)|.ret v=>some v)
def ref03_deep_L0 (n:Nat) (rec_ref03_deep:(List S_api_Stmt)→Int→Int→Option Int) (v0_l:(List S_api_Stmt)) (y1:(List Int)):Nat→Int→Int→Option (LR Int Int)
  | 0,_,_=>none
  | k5+1,s3,s4=>(bif decide (s4<((y1.length:Nat):Int)) then ((idx y1 s4).bind fun x14=>((idx v0_l x14).bind fun x15=>((m_ref03_block n x15.f_Kind).bind fun y16=>(bif y16 then ((idx y1 s4).bind fun x19=>((idx y1 s4).bind fun x20=>((rec_ref03_deep v0_l (IntKind.i64.wrap (x20+1)) (IntKind.i64.wrap ((IntKind.i64.wrap (x19+1))+x15.f_Body))).bind fun y21=>((rec_ref03_deep v0_l (IntKind.i64.wrap ((IntKind.i64.wrap (x19+1))+x15.f_Body)) (IntKind.i64.wrap ((IntKind.i64.wrap ((IntKind.i64.wrap (x19+1))+x15.f_Body))+x15.f_Else))).bind fun y23=>(ref03_deep_L0 n rec_ref03_deep v0_l y1 k5 (max3 s3 (IntKind.i64.wrap (1+y21)) (IntKind.i64.wrap (1+y23))) (IntKind.i64.wrap (s4+1))))))) else (ref03_deep_L0 n rec_ref03_deep v0_l y1 k5 s3 (IntKind.i64.wrap (s4+1))))))) else (some (.out s3)))
def m_ref03_deep:Nat→(List S_api_Stmt)→Int→Int→Option Int
  | 0,_,_,_=>none
  | n+1,v0_l,v1_from,v2_to=>((m_ref03_tops n v0_l v1_from v2_to).bind fun y1=>((ref03_deep_L0 n (m_ref03_deep n) v0_l y1 n 0 0).bind fun o12=>match o12 with|.out x26=>(some x26)|.ret v=>some v))
def ref03_has_L0 (n:Nat)  (v0_l:(List UInt8)) (v1_c:Int):Nat→Int→Option (LR Unit Bool)
  | 0,_=>none
  | k2+1,s1=>(bif decide (s1<((v0_l.length:Nat):Int)) then ((idx v0_l s1).bind fun x11=>(bif ((x11.toNat:Int)==v1_c) then (some (.ret true)) else (ref03_has_L0 n v0_l v1_c k2 (IntKind.i64.wrap (s1+1))))) else (some (.out ())))
def m_ref03_has:Nat→(List UInt8)→Int→Option Bool
  | 0,_,_=>none
  | n+1,v0_l,v1_c=>((ref03_has_L0 n v0_l v1_c n 0).bind fun o9=>match o9 with|.out _=>(some false)|.ret v=>some v)
def m_ref03_parts:Nat→Int→Option ((List UInt8)×Bool)
  | 0,_=>none
  | n+1,v0_kind=>(bif (v0_kind==1) then (some (([]:List UInt8),true)) else (bif (v0_kind==8) then (some (([]:List UInt8),true)) else (bif (v0_kind==13) then (some (([]:List UInt8),true)) else (bif (v0_kind==2) then (some (([114,101]:List UInt8),true)) else (bif (v0_kind==3) then (some (([114,108]:List UInt8),true)) else (bif (v0_kind==4) then (some (([108,101]:List UInt8),true)) else (bif (v0_kind==5) then (some (([114,108,101,102]:List UInt8),true)) else (bif (v0_kind==6) then (some (([114,108,101]:List UInt8),true)) else (bif (v0_kind==7) then (some (([114,108,101]:List UInt8),true)) else (bif (v0_kind==9) then (some (([108,101,110]:List UInt8),true)) else (bif (v0_kind==10) then (some (([101,98,120]:List UInt8),true)) else (bif (v0_kind==11) then (some (([101,98]:List UInt8),true)) else (bif (v0_kind==12) then (some (([98]:List UInt8),true)) else (some (([]:List UInt8),false)))))))))))))))
def m_ref03_one:Nat→S_api_Stmt→Option Bool
  | 0,_=>none
  | n+1,v0_x=>((m_ref03_parts n v0_x.f_Kind).bind fun y1=>(bif y1.2 then (bif decide (v0_x.f_At<0) then (some false) else (((m_ref03_has n y1.1 114).bind fun y6=>((m_ref01_Name n v0_x.f_Reg).bind fun y8=>(bif (y6==y8) then ((m_ref03_has n y1.1 114).bind fun y11=>(bif y11 then ((m_ref03_has n y1.1 108).bind fun y14=>((m_ref01_Name n v0_x.f_Loc).bind fun y16=>(bif (y14==y16) then ((m_ref03_has n y1.1 108).bind fun y19=>(bif y19 then (some false) else (some (!(v0_x.f_Loc==([]:List UInt8)))))) else (some true)))) else (bif (v0_x.f_Reg==([]:List UInt8)) then ((m_ref03_has n y1.1 108).bind fun y23=>((m_ref01_Name n v0_x.f_Loc).bind fun y25=>(bif (y23==y25) then ((m_ref03_has n y1.1 108).bind fun y28=>(bif y28 then (some false) else (some (!(v0_x.f_Loc==([]:List UInt8)))))) else (some true)))) else (some true)))) else (some true)))).bind fun j5=>(bif j5 then (some false) else (((m_ref03_has n y1.1 101).bind fun y33=>(bif y33 then ((m_ref03_Plain n v0_x.f_E).bind fun y36=>(bif y36 then ((m_ref03_has n y1.1 101).bind fun y39=>(bif y39 then ((m_ref03_has n y1.1 102).bind fun y42=>(bif y42 then ((m_ref03_Plain n v0_x.f_F).bind fun y45=>(bif y45 then ((m_ref03_has n y1.1 102).bind fun y48=>(bif y48 then (some false) else (some (decide (0<((v0_x.f_F.length:Nat):Int)))))) else (some true))) else ((m_ref03_has n y1.1 102).bind fun y51=>(bif y51 then (some false) else (some (decide (0<((v0_x.f_F.length:Nat):Int)))))))) else (bif decide (0<((v0_x.f_E.length:Nat):Int)) then (some true) else ((m_ref03_has n y1.1 102).bind fun y55=>(bif y55 then ((m_ref03_Plain n v0_x.f_F).bind fun y58=>(bif y58 then ((m_ref03_has n y1.1 102).bind fun y61=>(bif y61 then (some false) else (some (decide (0<((v0_x.f_F.length:Nat):Int)))))) else (some true))) else ((m_ref03_has n y1.1 102).bind fun y64=>(bif y64 then (some false) else (some (decide (0<((v0_x.f_F.length:Nat):Int))))))))))) else (some true))) else ((m_ref03_has n y1.1 101).bind fun y67=>(bif y67 then ((m_ref03_has n y1.1 102).bind fun y70=>(bif y70 then ((m_ref03_Plain n v0_x.f_F).bind fun y73=>(bif y73 then ((m_ref03_has n y1.1 102).bind fun y76=>(bif y76 then (some false) else (some (decide (0<((v0_x.f_F.length:Nat):Int)))))) else (some true))) else ((m_ref03_has n y1.1 102).bind fun y79=>(bif y79 then (some false) else (some (decide (0<((v0_x.f_F.length:Nat):Int)))))))) else (bif decide (0<((v0_x.f_E.length:Nat):Int)) then (some true) else ((m_ref03_has n y1.1 102).bind fun y83=>(bif y83 then ((m_ref03_Plain n v0_x.f_F).bind fun y86=>(bif y86 then ((m_ref03_has n y1.1 102).bind fun y89=>(bif y89 then (some false) else (some (decide (0<((v0_x.f_F.length:Nat):Int)))))) else (some true))) else ((m_ref03_has n y1.1 102).bind fun y92=>(bif y92 then (some false) else (some (decide (0<((v0_x.f_F.length:Nat):Int))))))))))))).bind fun j32=>(bif j32 then (some false) else ((m_ref03_has n y1.1 110).bind fun y96=>(bif y96 then ((m_ref03_has n y1.1 98).bind fun y99=>(bif y99 then ((m_ref03_has n y1.1 120).bind fun y102=>(bif y102 then (some true) else (some (v0_x.f_Else==0)))) else (bif (v0_x.f_Body==0) then ((m_ref03_has n y1.1 120).bind fun y106=>(bif y106 then (some true) else (some (v0_x.f_Else==0)))) else (some false)))) else (bif v0_x.f_Ne then (some false) else ((m_ref03_has n y1.1 98).bind fun y110=>(bif y110 then ((m_ref03_has n y1.1 120).bind fun y113=>(bif y113 then (some true) else (some (v0_x.f_Else==0)))) else (bif (v0_x.f_Body==0) then ((m_ref03_has n y1.1 120).bind fun y117=>(bif y117 then (some true) else (some (v0_x.f_Else==0)))) else (some false)))))))))))) else (some false)))
def ref03_whole_L0 (n:Nat) (rec_ref03_whole:(List S_api_Stmt)→Int→Int→Option Bool) (v0_l:(List S_api_Stmt)) (v2_to:Int):Nat→Int→Option (LR Unit Bool)
  | 0,_=>none
  | k2+1,s1=>(bif decide (s1<v2_to) then ((idx v0_l s1).bind fun x11=>(bif decide (x11.f_Body<0) then (some (.ret false)) else (bif decide (x11.f_Else<0) then (some (.ret false)) else (bif decide ((IntKind.i64.wrap ((IntKind.i64.wrap (v2_to - s1)) - 1))<x11.f_Body) then (some (.ret false)) else (bif decide ((IntKind.i64.wrap ((IntKind.i64.wrap ((IntKind.i64.wrap (v2_to - s1)) - 1)) - x11.f_Body))<x11.f_Else) then (some (.ret false)) else ((rec_ref03_whole v0_l (IntKind.i64.wrap (s1+1)) (IntKind.i64.wrap ((IntKind.i64.wrap (s1+1))+x11.f_Body))).bind fun y16=>(bif y16 then ((rec_ref03_whole v0_l (IntKind.i64.wrap ((IntKind.i64.wrap (s1+1))+x11.f_Body)) (IntKind.i64.wrap ((IntKind.i64.wrap ((IntKind.i64.wrap (s1+1))+x11.f_Body))+x11.f_Else))).bind fun y19=>(bif y19 then (ref03_whole_L0 n rec_ref03_whole v0_l v2_to k2 (IntKind.i64.wrap ((IntKind.i64.wrap ((IntKind.i64.wrap (s1+1))+x11.f_Body))+x11.f_Else))) else (some (.ret false)))) else (some (.ret false))))))))) else (some (.out ())))
def m_ref03_whole:Nat→(List S_api_Stmt)→Int→Int→Option Bool
  | 0,_,_,_=>none
  | n+1,v0_l,v1_from,v2_to=>((ref03_whole_L0 n (m_ref03_whole n) v0_l v2_to n v1_from).bind fun o9=>match o9 with|.out _=>(some true)|.ret v=>some v)
def ref03_Right_L0 (n:Nat)  (v0_l:(List S_api_Stmt)):Nat→Int→Option (LR Unit Bool)
  | 0,_=>none
  | k6+1,s5=>(bif decide (s5<((v0_l.length:Nat):Int)) then ((idx v0_l s5).bind fun x15=>((m_ref03_one n x15).bind fun y16=>(bif y16 then (ref03_Right_L0 n v0_l k6 (IntKind.i64.wrap (s5+1))) else (some (.ret false))))) else (some (.out ())))
def m_ref03_Right:Nat→(List S_api_Stmt)→Option Bool
  | 0,_=>none
  | n+1,v0_l=>(bif decide (200<((v0_l.length:Nat):Int)) then (some false) else ((m_ref03_whole n v0_l 0 ((v0_l.length:Nat):Int)).bind fun y2=>(bif y2 then ((ref03_Right_L0 n v0_l n 0).bind fun o13=>match o13 with|.out _=>((m_ref03_deep n v0_l 0 ((v0_l.length:Nat):Int)).bind fun y20=>(some (decide (y20≤30))))|.ret v=>some v) else (some false))))
def ref03_pad_L0 (n:Nat)  (v0_deep:Int):Nat→(List UInt8)→Int→Option (LR (List UInt8) (List UInt8))
  | 0,_,_=>none
  | k3+1,s1,s2=>(bif decide (s2<v0_deep) then (bif decide (s1.length+(([32,32]:List UInt8)).length≤140737488355328) then (ref03_pad_L0 n v0_deep k3 (s1++([32,32]:List UInt8)) (IntKind.i64.wrap (s2+1))) else none) else (some (.out s1)))
def m_ref03_pad:Nat→Int→Option (List UInt8)
  | 0,_=>none
  | n+1,v0_deep=>((ref03_pad_L0 n v0_deep n ([]:List UInt8) 0).bind fun o10=>match o10 with|.out x14=>(some x14)|.ret v=>some v)
def m_ref03_simple:Nat→S_api_Stmt→Option (List UInt8)
  | 0,_=>none
  | n+1,v0_x=>((m_ref03_words n ).bind fun y1=>((idx y1 v0_x.f_Kind).bind fun x3=>(bif (v0_x.f_Kind==2) then (bif decide (x3.length+(([32]:List UInt8)).length≤140737488355328) then (bif decide (((x3++([32]:List UInt8))).length+v0_x.f_Reg.length≤140737488355328) then (bif decide ((((x3++([32]:List UInt8))++v0_x.f_Reg)).length+(([32,61,32]:List UInt8)).length≤140737488355328) then ((m_ref02_Show n v0_x.f_E).bind fun y8=>(bif decide (((((x3++([32]:List UInt8))++v0_x.f_Reg)++([32,61,32]:List UInt8))).length+y8.length≤140737488355328) then (bif decide ((((((x3++([32]:List UInt8))++v0_x.f_Reg)++([32,61,32]:List UInt8))++y8)).length+(([59,10]:List UInt8)).length≤140737488355328) then (some (((((x3++([32]:List UInt8))++v0_x.f_Reg)++([32,61,32]:List UInt8))++y8)++([59,10]:List UInt8))) else none) else none)) else none) else none) else none) else (bif (v0_x.f_Kind==3) then (bif decide (x3.length+(([32]:List UInt8)).length≤140737488355328) then (bif decide (((x3++([32]:List UInt8))).length+v0_x.f_Reg.length≤140737488355328) then (bif decide ((((x3++([32]:List UInt8))++v0_x.f_Reg)).length+(([32,61,32]:List UInt8)).length≤140737488355328) then (bif decide (((((x3++([32]:List UInt8))++v0_x.f_Reg)++([32,61,32]:List UInt8))).length+v0_x.f_Loc.length≤140737488355328) then (bif decide ((((((x3++([32]:List UInt8))++v0_x.f_Reg)++([32,61,32]:List UInt8))++v0_x.f_Loc)).length+(([59,10]:List UInt8)).length≤140737488355328) then (some (((((x3++([32]:List UInt8))++v0_x.f_Reg)++([32,61,32]:List UInt8))++v0_x.f_Loc)++([59,10]:List UInt8))) else none) else none) else none) else none) else none) else (bif (v0_x.f_Kind==4) then (bif decide (x3.length+(([32]:List UInt8)).length≤140737488355328) then (bif decide (((x3++([32]:List UInt8))).length+v0_x.f_Loc.length≤140737488355328) then (bif decide ((((x3++([32]:List UInt8))++v0_x.f_Loc)).length+(([32,61,32]:List UInt8)).length≤140737488355328) then ((m_ref02_Show n v0_x.f_E).bind fun y22=>(bif decide (((((x3++([32]:List UInt8))++v0_x.f_Loc)++([32,61,32]:List UInt8))).length+y22.length≤140737488355328) then (bif decide ((((((x3++([32]:List UInt8))++v0_x.f_Loc)++([32,61,32]:List UInt8))++y22)).length+(([59,10]:List UInt8)).length≤140737488355328) then (some (((((x3++([32]:List UInt8))++v0_x.f_Loc)++([32,61,32]:List UInt8))++y22)++([59,10]:List UInt8))) else none) else none)) else none) else none) else none) else (bif (v0_x.f_Kind==5) then (bif decide (x3.length+(([32]:List UInt8)).length≤140737488355328) then (bif decide (((x3++([32]:List UInt8))).length+v0_x.f_Reg.length≤140737488355328) then (bif decide ((((x3++([32]:List UInt8))++v0_x.f_Reg)).length+(([32,61,32]:List UInt8)).length≤140737488355328) then (bif decide (((((x3++([32]:List UInt8))++v0_x.f_Reg)++([32,61,32]:List UInt8))).length+v0_x.f_Loc.length≤140737488355328) then (bif decide ((((((x3++([32]:List UInt8))++v0_x.f_Reg)++([32,61,32]:List UInt8))++v0_x.f_Loc)).length+(([44,32]:List UInt8)).length≤140737488355328) then ((m_ref02_Show n v0_x.f_E).bind fun y32=>(bif decide (((((((x3++([32]:List UInt8))++v0_x.f_Reg)++([32,61,32]:List UInt8))++v0_x.f_Loc)++([44,32]:List UInt8))).length+y32.length≤140737488355328) then (bif decide ((((((((x3++([32]:List UInt8))++v0_x.f_Reg)++([32,61,32]:List UInt8))++v0_x.f_Loc)++([44,32]:List UInt8))++y32)).length+(([44,32]:List UInt8)).length≤140737488355328) then ((m_ref02_Show n v0_x.f_F).bind fun y36=>(bif decide (((((((((x3++([32]:List UInt8))++v0_x.f_Reg)++([32,61,32]:List UInt8))++v0_x.f_Loc)++([44,32]:List UInt8))++y32)++([44,32]:List UInt8))).length+y36.length≤140737488355328) then (bif decide ((((((((((x3++([32]:List UInt8))++v0_x.f_Reg)++([32,61,32]:List UInt8))++v0_x.f_Loc)++([44,32]:List UInt8))++y32)++([44,32]:List UInt8))++y36)).length+(([59,10]:List UInt8)).length≤140737488355328) then (some (((((((((x3++([32]:List UInt8))++v0_x.f_Reg)++([32,61,32]:List UInt8))++v0_x.f_Loc)++([44,32]:List UInt8))++y32)++([44,32]:List UInt8))++y36)++([59,10]:List UInt8))) else none) else none)) else none) else none)) else none) else none) else none) else none) else none) else (bif (v0_x.f_Kind==6) then (bif decide (x3.length+(([32]:List UInt8)).length≤140737488355328) then (bif decide (((x3++([32]:List UInt8))).length+v0_x.f_Reg.length≤140737488355328) then (bif decide ((((x3++([32]:List UInt8))++v0_x.f_Reg)).length+(([32,61,32]:List UInt8)).length≤140737488355328) then (bif decide (((((x3++([32]:List UInt8))++v0_x.f_Reg)++([32,61,32]:List UInt8))).length+v0_x.f_Loc.length≤140737488355328) then (bif decide ((((((x3++([32]:List UInt8))++v0_x.f_Reg)++([32,61,32]:List UInt8))++v0_x.f_Loc)).length+(([44,32]:List UInt8)).length≤140737488355328) then ((m_ref02_Show n v0_x.f_E).bind fun y46=>(bif decide (((((((x3++([32]:List UInt8))++v0_x.f_Reg)++([32,61,32]:List UInt8))++v0_x.f_Loc)++([44,32]:List UInt8))).length+y46.length≤140737488355328) then (bif decide ((((((((x3++([32]:List UInt8))++v0_x.f_Reg)++([32,61,32]:List UInt8))++v0_x.f_Loc)++([44,32]:List UInt8))++y46)).length+(([59,10]:List UInt8)).length≤140737488355328) then (some (((((((x3++([32]:List UInt8))++v0_x.f_Reg)++([32,61,32]:List UInt8))++v0_x.f_Loc)++([44,32]:List UInt8))++y46)++([59,10]:List UInt8))) else none) else none)) else none) else none) else none) else none) else none) else (bif (v0_x.f_Kind==7) then (bif decide (x3.length+(([32]:List UInt8)).length≤140737488355328) then (bif decide (((x3++([32]:List UInt8))).length+v0_x.f_Reg.length≤140737488355328) then (bif decide ((((x3++([32]:List UInt8))++v0_x.f_Reg)).length+(([32,61,32]:List UInt8)).length≤140737488355328) then (bif decide (((((x3++([32]:List UInt8))++v0_x.f_Reg)++([32,61,32]:List UInt8))).length+v0_x.f_Loc.length≤140737488355328) then (bif decide ((((((x3++([32]:List UInt8))++v0_x.f_Reg)++([32,61,32]:List UInt8))++v0_x.f_Loc)).length+(([44,32]:List UInt8)).length≤140737488355328) then ((m_ref02_Show n v0_x.f_E).bind fun y56=>(bif decide (((((((x3++([32]:List UInt8))++v0_x.f_Reg)++([32,61,32]:List UInt8))++v0_x.f_Loc)++([44,32]:List UInt8))).length+y56.length≤140737488355328) then (bif decide ((((((((x3++([32]:List UInt8))++v0_x.f_Reg)++([32,61,32]:List UInt8))++v0_x.f_Loc)++([44,32]:List UInt8))++y56)).length+(([59,10]:List UInt8)).length≤140737488355328) then (some (((((((x3++([32]:List UInt8))++v0_x.f_Reg)++([32,61,32]:List UInt8))++v0_x.f_Loc)++([44,32]:List UInt8))++y56)++([59,10]:List UInt8))) else none) else none)) else none) else none) else none) else none) else none) else (bif (v0_x.f_Kind==9) then (bif v0_x.f_Ne then (bif decide (x3.length+(([32]:List UInt8)).length≤140737488355328) then (bif decide (((x3++([32]:List UInt8))).length+v0_x.f_Loc.length≤140737488355328) then (bif decide ((((x3++([32]:List UInt8))++v0_x.f_Loc)).length+(([32,33,61,32]:List UInt8)).length≤140737488355328) then ((m_ref02_Show n v0_x.f_E).bind fun y65=>(bif decide (((((x3++([32]:List UInt8))++v0_x.f_Loc)++([32,33,61,32]:List UInt8))).length+y65.length≤140737488355328) then (bif decide ((((((x3++([32]:List UInt8))++v0_x.f_Loc)++([32,33,61,32]:List UInt8))++y65)).length+(([59,10]:List UInt8)).length≤140737488355328) then (some (((((x3++([32]:List UInt8))++v0_x.f_Loc)++([32,33,61,32]:List UInt8))++y65)++([59,10]:List UInt8))) else none) else none)) else none) else none) else none) else (bif decide (x3.length+(([32]:List UInt8)).length≤140737488355328) then (bif decide (((x3++([32]:List UInt8))).length+v0_x.f_Loc.length≤140737488355328) then (bif decide ((((x3++([32]:List UInt8))++v0_x.f_Loc)).length+(([32,61,61,32]:List UInt8)).length≤140737488355328) then ((m_ref02_Show n v0_x.f_E).bind fun y72=>(bif decide (((((x3++([32]:List UInt8))++v0_x.f_Loc)++([32,61,61,32]:List UInt8))).length+y72.length≤140737488355328) then (bif decide ((((((x3++([32]:List UInt8))++v0_x.f_Loc)++([32,61,61,32]:List UInt8))++y72)).length+(([59,10]:List UInt8)).length≤140737488355328) then (some (((((x3++([32]:List UInt8))++v0_x.f_Loc)++([32,61,61,32]:List UInt8))++y72)++([59,10]:List UInt8))) else none) else none)) else none) else none) else none)) else (bif decide (x3.length+(([59,10]:List UInt8)).length≤140737488355328) then (some (x3++([59,10]:List UInt8))) else none))))))))))
def ref03_show_L0 (n:Nat) (rec_ref03_show:(List S_api_Stmt)→Int→Int→Int→Option (List UInt8)) (v0_l:(List S_api_Stmt)) (v3_deep:Int) (y1:(List Int)):Nat→(List UInt8)→Int→Option (LR (List UInt8) (List UInt8))
  | 0,_,_=>none
  | k5+1,s3,s4=>(bif decide (s4<((y1.length:Nat):Int)) then ((idx y1 s4).bind fun x14=>((idx v0_l x14).bind fun x15=>((m_ref03_pad n v3_deep).bind fun y16=>(bif decide (s3.length+y16.length≤140737488355328) then ((m_ref03_block n x15.f_Kind).bind fun y19=>(bif y19 then ((m_ref03_words n ).bind fun y22=>((idx y22 x15.f_Kind).bind fun x24=>(bif decide (((s3++y16)).length+x24.length≤140737488355328) then (bif decide ((((s3++y16)++x24)).length+(([32]:List UInt8)).length≤140737488355328) then (bif (x15.f_Kind != 12) then ((m_ref02_Show n x15.f_E).bind fun y28=>(bif decide (((((s3++y16)++x24)++([32]:List UInt8))).length+y28.length≤140737488355328) then (bif decide ((((((s3++y16)++x24)++([32]:List UInt8))++y28)).length+(([32]:List UInt8)).length≤140737488355328) then ((idx y1 s4).bind fun x32=>(bif decide (((((((s3++y16)++x24)++([32]:List UInt8))++y28)++([32]:List UInt8))).length+(([123,10]:List UInt8)).length≤140737488355328) then ((idx y1 s4).bind fun x34=>((rec_ref03_show v0_l (IntKind.i64.wrap (x34+1)) (IntKind.i64.wrap ((IntKind.i64.wrap (x32+1))+x15.f_Body)) (IntKind.i64.wrap (v3_deep+1))).bind fun y35=>(bif decide ((((((((s3++y16)++x24)++([32]:List UInt8))++y28)++([32]:List UInt8))++([123,10]:List UInt8))).length+y35.length≤140737488355328) then ((m_ref03_pad n v3_deep).bind fun y38=>(bif decide (((((((((s3++y16)++x24)++([32]:List UInt8))++y28)++([32]:List UInt8))++([123,10]:List UInt8))++y35)).length+y38.length≤140737488355328) then (bif decide (0<x15.f_Else) then (bif decide ((((((((((s3++y16)++x24)++([32]:List UInt8))++y28)++([32]:List UInt8))++([123,10]:List UInt8))++y35)++y38)).length+(([125,32,101,108,115,101,32,123,10]:List UInt8)).length≤140737488355328) then ((rec_ref03_show v0_l (IntKind.i64.wrap ((IntKind.i64.wrap (x32+1))+x15.f_Body)) (IntKind.i64.wrap ((IntKind.i64.wrap ((IntKind.i64.wrap (x32+1))+x15.f_Body))+x15.f_Else)) (IntKind.i64.wrap (v3_deep+1))).bind fun y43=>(bif decide (((((((((((s3++y16)++x24)++([32]:List UInt8))++y28)++([32]:List UInt8))++([123,10]:List UInt8))++y35)++y38)++([125,32,101,108,115,101,32,123,10]:List UInt8))).length+y43.length≤140737488355328) then ((m_ref03_pad n v3_deep).bind fun y46=>(bif decide ((((((((((((s3++y16)++x24)++([32]:List UInt8))++y28)++([32]:List UInt8))++([123,10]:List UInt8))++y35)++y38)++([125,32,101,108,115,101,32,123,10]:List UInt8))++y43)).length+y46.length≤140737488355328) then (bif decide (((((((((((((s3++y16)++x24)++([32]:List UInt8))++y28)++([32]:List UInt8))++([123,10]:List UInt8))++y35)++y38)++([125,32,101,108,115,101,32,123,10]:List UInt8))++y43)++y46)).length+(([125,10]:List UInt8)).length≤140737488355328) then (ref03_show_L0 n rec_ref03_show v0_l v3_deep y1 k5 ((((((((((((s3++y16)++x24)++([32]:List UInt8))++y28)++([32]:List UInt8))++([123,10]:List UInt8))++y35)++y38)++([125,32,101,108,115,101,32,123,10]:List UInt8))++y43)++y46)++([125,10]:List UInt8)) (IntKind.i64.wrap (s4+1))) else none) else none)) else none)) else none) else (bif decide ((((((((((s3++y16)++x24)++([32]:List UInt8))++y28)++([32]:List UInt8))++([123,10]:List UInt8))++y35)++y38)).length+(([125,10]:List UInt8)).length≤140737488355328) then (ref03_show_L0 n rec_ref03_show v0_l v3_deep y1 k5 (((((((((s3++y16)++x24)++([32]:List UInt8))++y28)++([32]:List UInt8))++([123,10]:List UInt8))++y35)++y38)++([125,10]:List UInt8)) (IntKind.i64.wrap (s4+1))) else none)) else none)) else none))) else none)) else none) else none)) else ((idx y1 s4).bind fun x51=>(bif decide (((((s3++y16)++x24)++([32]:List UInt8))).length+(([123,10]:List UInt8)).length≤140737488355328) then ((idx y1 s4).bind fun x53=>((rec_ref03_show v0_l (IntKind.i64.wrap (x53+1)) (IntKind.i64.wrap ((IntKind.i64.wrap (x51+1))+x15.f_Body)) (IntKind.i64.wrap (v3_deep+1))).bind fun y54=>(bif decide ((((((s3++y16)++x24)++([32]:List UInt8))++([123,10]:List UInt8))).length+y54.length≤140737488355328) then ((m_ref03_pad n v3_deep).bind fun y57=>(bif decide (((((((s3++y16)++x24)++([32]:List UInt8))++([123,10]:List UInt8))++y54)).length+y57.length≤140737488355328) then (bif decide (0<x15.f_Else) then (bif decide ((((((((s3++y16)++x24)++([32]:List UInt8))++([123,10]:List UInt8))++y54)++y57)).length+(([125,32,101,108,115,101,32,123,10]:List UInt8)).length≤140737488355328) then ((rec_ref03_show v0_l (IntKind.i64.wrap ((IntKind.i64.wrap (x51+1))+x15.f_Body)) (IntKind.i64.wrap ((IntKind.i64.wrap ((IntKind.i64.wrap (x51+1))+x15.f_Body))+x15.f_Else)) (IntKind.i64.wrap (v3_deep+1))).bind fun y62=>(bif decide (((((((((s3++y16)++x24)++([32]:List UInt8))++([123,10]:List UInt8))++y54)++y57)++([125,32,101,108,115,101,32,123,10]:List UInt8))).length+y62.length≤140737488355328) then ((m_ref03_pad n v3_deep).bind fun y65=>(bif decide ((((((((((s3++y16)++x24)++([32]:List UInt8))++([123,10]:List UInt8))++y54)++y57)++([125,32,101,108,115,101,32,123,10]:List UInt8))++y62)).length+y65.length≤140737488355328) then (bif decide (((((((((((s3++y16)++x24)++([32]:List UInt8))++([123,10]:List UInt8))++y54)++y57)++([125,32,101,108,115,101,32,123,10]:List UInt8))++y62)++y65)).length+(([125,10]:List UInt8)).length≤140737488355328) then (ref03_show_L0 n rec_ref03_show v0_l v3_deep y1 k5 ((((((((((s3++y16)++x24)++([32]:List UInt8))++([123,10]:List UInt8))++y54)++y57)++([125,32,101,108,115,101,32,123,10]:List UInt8))++y62)++y65)++([125,10]:List UInt8)) (IntKind.i64.wrap (s4+1))) else none) else none)) else none)) else none) else (bif decide ((((((((s3++y16)++x24)++([32]:List UInt8))++([123,10]:List UInt8))++y54)++y57)).length+(([125,10]:List UInt8)).length≤140737488355328) then (ref03_show_L0 n rec_ref03_show v0_l v3_deep y1 k5 (((((((s3++y16)++x24)++([32]:List UInt8))++([123,10]:List UInt8))++y54)++y57)++([125,10]:List UInt8)) (IntKind.i64.wrap (s4+1))) else none)) else none)) else none))) else none))) else none) else none))) else ((m_ref03_simple n x15).bind fun y70=>(bif decide (((s3++y16)).length+y70.length≤140737488355328) then (ref03_show_L0 n rec_ref03_show v0_l v3_deep y1 k5 ((s3++y16)++y70) (IntKind.i64.wrap (s4+1))) else none)))) else none)))) else (some (.out s3)))
def m_ref03_show:Nat→(List S_api_Stmt)→Int→Int→Int→Option (List UInt8)
  | 0,_,_,_,_=>none
  | n+1,v0_l,v1_from,v2_to,v3_deep=>((m_ref03_tops n v0_l v1_from v2_to).bind fun y1=>((ref03_show_L0 n (m_ref03_show n) v0_l v3_deep y1 n ([]:List UInt8) 0).bind fun o12=>match o12 with|.out x74=>(some x74)|.ret v=>some v))
def m_ref03_Show:Nat→(List S_api_Stmt)→Int→Option (List UInt8)
  | 0,_,_=>none
  | n+1,v0_l,v1_deep=>((m_ref03_Right n v0_l).bind fun y1=>(bif y1 then (bif decide (v1_deep<0) then (some ([]:List UInt8)) else (bif decide (100<v1_deep) then (some ([]:List UInt8)) else ((m_ref03_show n v0_l 0 ((v0_l.length:Nat):Int) v1_deep).bind fun y6=>(some y6)))) else (some ([]:List UInt8))))
def m_stmt_nests:Nat→Int→Option Bool
  | 0,_=>none
  | n+1,v0_kind=>(bif (v0_kind==10) then (some true) else (bif (v0_kind==11) then (some true) else (bif (v0_kind==12) then (some true) else (some false))))
def stmt_walk_stmt_depth_1_L0 (n:Nat) (rec_stmt_depth_1:Int→Int→Int→(List S_api_Stmt)→Int→Option (Bool×Int)) (v0_l:(List S_api_Stmt)) (v2_to:Int) (o0:(List S_api_Stmt)):Nat→Int→Int→Option (LR Int (Bool×Int))
  | 0,_,_=>none
  | k3+1,s1,s2=>(bif decide (s1<v2_to) then ((idx v0_l s1).bind fun x12=>(bif decide (x12.f_Body<0) then (some (.ret (false,s2))) else (bif decide (x12.f_Else<0) then (some (.ret (false,s2))) else (bif decide ((IntKind.i64.wrap ((IntKind.i64.wrap (v2_to - s1)) - 1))<x12.f_Body) then (some (.ret (false,s2))) else (bif decide ((IntKind.i64.wrap ((IntKind.i64.wrap ((IntKind.i64.wrap (v2_to - s1)) - 1)) - x12.f_Body))<x12.f_Else) then (some (.ret (false,s2))) else ((rec_stmt_depth_1 s1 (IntKind.i64.wrap ((IntKind.i64.wrap (s1+1))+x12.f_Body)) (IntKind.i64.wrap ((IntKind.i64.wrap ((IntKind.i64.wrap (s1+1))+x12.f_Body))+x12.f_Else)) o0 s2).bind fun y17=>(bif y17.1 then (stmt_walk_stmt_depth_1_L0 n rec_stmt_depth_1 v0_l v2_to o0 k3 (IntKind.i64.wrap ((IntKind.i64.wrap ((IntKind.i64.wrap (s1+1))+x12.f_Body))+x12.f_Else)) y17.2) else (some (.ret (false,y17.2)))))))))) else (some (.out s2)))
mutual
def m_stmt_depth:Nat→(List S_api_Stmt)→Int→Int→Option Int
  | 0,_,_,_=>none
  | n+1,v0_l,v1_from,v2_to=>(((m_stmt_walk_stmt_depth_1 n) v0_l v1_from v2_to v0_l 0).bind fun y1=>(bif y1.1 then (some y1.2) else (some (-1))))
def m_stmt_depth_1:Nat→Int→Int→Int→(List S_api_Stmt)→Int→Option (Bool×Int)
  | 0,_,_,_,_,_=>none
  | n+1,v0_i,v1_mid,v2_end,o0,o1=>(((m_stmt_depth n) o0 (IntKind.i64.wrap (v0_i+1)) v1_mid).bind fun y1=>(((m_stmt_depth n) o0 v1_mid v2_end).bind fun y3=>((idx o0 v0_i).bind fun x5=>((m_stmt_nests n x5.f_Kind).bind fun y6=>(bif y6 then (bif (y1 != (-1)) then (some ((y3 != (-1)),max3 o1 (IntKind.i64.wrap (1+y1)) (IntKind.i64.wrap (1+y3)))) else (some (false,max3 o1 (IntKind.i64.wrap (1+y1)) (IntKind.i64.wrap (1+y3))))) else (bif (y1 != (-1)) then (some ((y3 != (-1)),o1)) else (some (false,o1))))))))
def m_stmt_walk_stmt_depth_1:Nat→(List S_api_Stmt)→Int→Int→(List S_api_Stmt)→Int→Option (Bool×Int)
  | 0,_,_,_,_,_=>none
  | n+1,v0_l,v1_from,v2_to,o0,o1=>((stmt_walk_stmt_depth_1_L0 n (m_stmt_depth_1 n) v0_l v2_to o0 n v1_from o1).bind fun o10=>match o10 with|.out x21=>(some (true,x21))|.ret v=>some v)
end
def m_stmt_Depth:Nat→(List S_api_Stmt)→Option Int
  | 0,_=>none
  | n+1,v0_l=>((m_stmt_depth n v0_l 0 ((v0_l.length:Nat):Int)).bind fun y1=>(some y1))
def stmt_kind_has_L0 (n:Nat)  (v0_k:S_stmt_kind) (v1_part:Int):Nat→Int→Option (LR Unit Bool)
  | 0,_=>none
  | k2+1,s1=>(bif decide (s1<((v0_k.f_form.length:Nat):Int)) then ((idx v0_k.f_form s1).bind fun x11=>(bif ((x11.toNat:Int)==v1_part) then (some (.ret true)) else (stmt_kind_has_L0 n v0_k v1_part k2 (IntKind.i64.wrap (s1+1))))) else (some (.out ())))
def m_stmt_kind_has:Nat→S_stmt_kind→Int→Option Bool
  | 0,_,_=>none
  | n+1,v0_k,v1_part=>((stmt_kind_has_L0 n v0_k v1_part n 0).bind fun o9=>match o9 with|.out _=>(some false)|.ret v=>some v)
def m_stmt_fits_1:Nat→Int→(List UInt8)→(List UInt8)→(List UInt8)→Bool→Bool→Option Bool
  | 0,_,_,_,_,_,_=>none
  | n+1,v0_part,v1_s,o0_word,o0_form,o0_body,o0_more=>((m_stmt_kind_has n (⟨o0_word,o0_form,o0_body,o0_more⟩:S_stmt_kind) v0_part).bind fun y1=>(bif y1 then ((m_scan_Name n v1_s).bind fun y4=>(bif y4 then (some true) else ((m_stmt_kind_has n (⟨o0_word,o0_form,o0_body,o0_more⟩:S_stmt_kind) v0_part).bind fun y7=>(bif y7 then (some false) else (some (v1_s==([]:List UInt8))))))) else ((m_stmt_kind_has n (⟨o0_word,o0_form,o0_body,o0_more⟩:S_stmt_kind) v0_part).bind fun y10=>(bif y10 then (some false) else (some (v1_s==([]:List UInt8)))))))
def stmt_plain_L0 (n:Nat)  (y1:(List S_api_Node)):Nat→Int→Option (LR Unit Bool)
  | 0,_=>none
  | k4+1,s3=>(bif decide (s3<((y1.length:Nat):Int)) then ((idx y1 s3).bind fun x13=>(bif (x13.f_Op != 2) then (some (.ret false)) else (stmt_plain_L0 n y1 k4 (IntKind.i64.wrap (s3+1))))) else (some (.out ())))
def m_stmt_plain:Nat→(List S_api_Node)→Option Bool
  | 0,_=>none
  | n+1,v0_l=>((m_expr_Names n v0_l).bind fun y1=>((stmt_plain_L0 n y1 n 0).bind fun o11=>match o11 with|.out _=>((m_expr_Right n v0_l).bind fun y16=>(some y16))|.ret v=>some v))
def m_stmt_fits_2:Nat→Int→(List S_api_Node)→(List UInt8)→(List UInt8)→Bool→Bool→Option Bool
  | 0,_,_,_,_,_,_=>none
  | n+1,v0_part,v1_l,o0_word,o0_form,o0_body,o0_more=>((m_stmt_kind_has n (⟨o0_word,o0_form,o0_body,o0_more⟩:S_stmt_kind) v0_part).bind fun y1=>(bif y1 then ((m_stmt_plain n v1_l).bind fun y4=>(bif y4 then (some true) else ((m_stmt_kind_has n (⟨o0_word,o0_form,o0_body,o0_more⟩:S_stmt_kind) v0_part).bind fun y7=>(bif y7 then (some false) else (some (((v1_l.length:Nat):Int)==0)))))) else ((m_stmt_kind_has n (⟨o0_word,o0_form,o0_body,o0_more⟩:S_stmt_kind) v0_part).bind fun y10=>(bif y10 then (some false) else (some (((v1_l.length:Nat):Int)==0))))))
def m_stmt_kinds:Nat→Option (List S_stmt_kind)
  | 0=>none
  | n+1=>(some ([(⟨([]:List UInt8),([]:List UInt8),false,false⟩:S_stmt_kind),(⟨([115,107,105,112]:List UInt8),([59]:List UInt8),false,false⟩:S_stmt_kind),(⟨([115,101,116]:List UInt8),([114,61,101,59]:List UInt8),false,false⟩:S_stmt_kind),(⟨([108,111,97,100]:List UInt8),([114,61,108,59]:List UInt8),false,false⟩:S_stmt_kind),(⟨([115,116,111,114,101]:List UInt8),([108,61,101,59]:List UInt8),false,false⟩:S_stmt_kind),(⟨([99,97,115]:List UInt8),([114,61,108,44,101,44,102,59]:List UInt8),false,false⟩:S_stmt_kind),(⟨([102,97,100,100]:List UInt8),([114,61,108,44,101,59]:List UInt8),false,false⟩:S_stmt_kind),(⟨([120,99,104,103]:List UInt8),([114,61,108,44,101,59]:List UInt8),false,false⟩:S_stmt_kind),(⟨([102,101,110,99,101]:List UInt8),([59]:List UInt8),false,false⟩:S_stmt_kind),(⟨([97,119,97,105,116]:List UInt8),([108,113,101,59]:List UInt8),false,false⟩:S_stmt_kind),(⟨([105,102]:List UInt8),([101]:List UInt8),true,true⟩:S_stmt_kind),(⟨([119,104,105,108,101]:List UInt8),([101]:List UInt8),true,false⟩:S_stmt_kind),(⟨([108,111,111,112]:List UInt8),([]:List UInt8),true,false⟩:S_stmt_kind),(⟨([98,114,101,97,107]:List UInt8),([59]:List UInt8),false,false⟩:S_stmt_kind)]:List S_stmt_kind))
def m_stmt_of:Nat→Int→Option (S_stmt_kind×Bool)
  | 0,_=>none
  | n+1,v0_n=>((m_stmt_kinds n ).bind fun y1=>(bif decide (v0_n<1) then (some ((⟨([]:List UInt8),([]:List UInt8),false,false⟩:S_stmt_kind),false)) else (bif decide (((y1.length:Nat):Int)≤v0_n) then (some ((⟨([]:List UInt8),([]:List UInt8),false,false⟩:S_stmt_kind),false)) else ((idx y1 v0_n).bind fun x5=>(some (x5,true))))))
def m_stmt_fits:Nat→S_api_Stmt→Option Bool
  | 0,_=>none
  | n+1,v0_x=>((m_stmt_of n v0_x.f_Kind).bind fun y1=>(bif y1.2 then (bif decide (v0_x.f_At<0) then (some false) else (bif v0_x.f_Ne then ((m_stmt_kind_has n y1.1 113).bind fun y6=>(bif y6 then ((m_stmt_fits_1 n 114 v0_x.f_Reg y1.1.f_word y1.1.f_form y1.1.f_body y1.1.f_more).bind fun y9=>(bif y9 then ((m_stmt_fits_1 n 108 v0_x.f_Loc y1.1.f_word y1.1.f_form y1.1.f_body y1.1.f_more).bind fun y12=>(bif y12 then ((m_stmt_fits_2 n 101 v0_x.f_E y1.1.f_word y1.1.f_form y1.1.f_body y1.1.f_more).bind fun y15=>(bif y15 then ((m_stmt_fits_2 n 102 v0_x.f_F y1.1.f_word y1.1.f_form y1.1.f_body y1.1.f_more).bind fun y18=>(bif y18 then (bif y1.1.f_body then (bif y1.1.f_more then (some true) else (some (v0_x.f_Else==0))) else (bif (v0_x.f_Body==0) then (bif y1.1.f_more then (some true) else (some (v0_x.f_Else==0))) else (some false))) else (some false))) else (some false))) else (some false))) else (some false))) else (some false))) else ((m_stmt_fits_1 n 114 v0_x.f_Reg y1.1.f_word y1.1.f_form y1.1.f_body y1.1.f_more).bind fun y25=>(bif y25 then ((m_stmt_fits_1 n 108 v0_x.f_Loc y1.1.f_word y1.1.f_form y1.1.f_body y1.1.f_more).bind fun y28=>(bif y28 then ((m_stmt_fits_2 n 101 v0_x.f_E y1.1.f_word y1.1.f_form y1.1.f_body y1.1.f_more).bind fun y31=>(bif y31 then ((m_stmt_fits_2 n 102 v0_x.f_F y1.1.f_word y1.1.f_form y1.1.f_body y1.1.f_more).bind fun y34=>(bif y34 then (bif y1.1.f_body then (bif y1.1.f_more then (some true) else (some (v0_x.f_Else==0))) else (bif (v0_x.f_Body==0) then (bif y1.1.f_more then (some true) else (some (v0_x.f_Else==0))) else (some false))) else (some false))) else (some false))) else (some false))) else (some false))))) else (some false)))
def stmt_Right_L0 (n:Nat)  (v0_l:(List S_api_Stmt)):Nat→Int→Option (LR Unit Bool)
  | 0,_=>none
  | k7+1,s6=>(bif decide (s6<((v0_l.length:Nat):Int)) then ((idx v0_l s6).bind fun x16=>((m_stmt_fits n x16).bind fun y17=>(bif y17 then (stmt_Right_L0 n v0_l k7 (IntKind.i64.wrap (s6+1))) else (some (.ret false))))) else (some (.out ())))
def m_stmt_Right:Nat→(List S_api_Stmt)→Option Bool
  | 0,_=>none
  | n+1,v0_l=>((m_stmt_Depth n v0_l).bind fun y1=>(bif (y1==(-1)) then (some false) else (bif decide (30<y1) then (some false) else (bif decide (200<((v0_l.length:Nat):Int)) then (some false) else ((stmt_Right_L0 n v0_l n 0).bind fun o14=>match o14 with|.out _=>(some true)|.ret v=>some v)))))
def stmt_head_L0 (n:Nat)  (v0_x:S_api_Stmt) (y1:(S_stmt_kind×Bool)):Nat→(List UInt8)→Int→Bool→Option (LR ((List UInt8)×Bool) (List UInt8))
  | 0,_,_,_=>none
  | k6+1,s3,s4,s5=>(bif decide (s4<((y1.1.f_form.length:Nat):Int)) then ((idx y1.1.f_form s4).bind fun x15=>(bif ((x15.toNat:Int)==114) then (bif decide ((([32]:List UInt8)).length+v0_x.f_Reg.length≤140737488355328) then (bif decide (s3.length+((([32]:List UInt8)++v0_x.f_Reg)).length≤140737488355328) then (stmt_head_L0 n v0_x y1 k6 (s3++(([32]:List UInt8)++v0_x.f_Reg)) (IntKind.i64.wrap (s4+1)) s5) else none) else none) else (bif ((x15.toNat:Int)==108) then (bif decide ((([32]:List UInt8)).length+v0_x.f_Loc.length≤140737488355328) then (bif decide (s3.length+((([32]:List UInt8)++v0_x.f_Loc)).length≤140737488355328) then (stmt_head_L0 n v0_x y1 k6 (s3++(([32]:List UInt8)++v0_x.f_Loc)) (IntKind.i64.wrap (s4+1)) s5) else none) else none) else (bif ((x15.toNat:Int)==101) then ((m_expr_Show n v0_x.f_E).bind fun y23=>(bif decide ((([32]:List UInt8)).length+y23.length≤140737488355328) then (bif decide (s3.length+((([32]:List UInt8)++y23)).length≤140737488355328) then (stmt_head_L0 n v0_x y1 k6 (s3++(([32]:List UInt8)++y23)) (IntKind.i64.wrap (s4+1)) s5) else none) else none)) else (bif ((x15.toNat:Int)==102) then ((m_expr_Show n v0_x.f_F).bind fun y28=>(bif decide ((([32]:List UInt8)).length+y28.length≤140737488355328) then (bif decide (s3.length+((([32]:List UInt8)++y28)).length≤140737488355328) then (stmt_head_L0 n v0_x y1 k6 (s3++(([32]:List UInt8)++y28)) (IntKind.i64.wrap (s4+1)) s5) else none) else none)) else (bif ((x15.toNat:Int)==113) then (bif s5 then (bif decide (s3.length+(([32,33,61]:List UInt8)).length≤140737488355328) then (stmt_head_L0 n v0_x y1 k6 (s3++([32,33,61]:List UInt8)) (IntKind.i64.wrap (s4+1)) true) else none) else (bif decide (s3.length+(([32,61,61]:List UInt8)).length≤140737488355328) then (stmt_head_L0 n v0_x y1 k6 (s3++([32,61,61]:List UInt8)) (IntKind.i64.wrap (s4+1)) false) else none)) else (bif ((x15.toNat:Int)==61) then (bif decide (s3.length+(([32,61]:List UInt8)).length≤140737488355328) then (stmt_head_L0 n v0_x y1 k6 (s3++([32,61]:List UInt8)) (IntKind.i64.wrap (s4+1)) s5) else none) else (bif (decide (0≤(IntKind.i32.wrap ((x15.toNat:Int))))&&decide ((IntKind.i32.wrap ((x15.toNat:Int)))<128)) then (bif decide (s3.length+(([UInt8.ofNat (IntKind.i32.wrap ((x15.toNat:Int))).toNat])).length≤140737488355328) then (stmt_head_L0 n v0_x y1 k6 (s3++([UInt8.ofNat (IntKind.i32.wrap ((x15.toNat:Int))).toNat])) (IntKind.i64.wrap (s4+1)) s5) else none) else none)))))))) else (some (.out (s3,s5))))
def m_stmt_head:Nat→S_api_Stmt→Option (List UInt8)
  | 0,_=>none
  | n+1,v0_x=>((m_stmt_of n v0_x.f_Kind).bind fun y1=>((stmt_head_L0 n v0_x y1 n y1.1.f_word 0 v0_x.f_Ne).bind fun o13=>match o13 with|.out (x41,x42)=>(some x41)|.ret v=>some v))
def stmt_pad_L0 (n:Nat)  (v0_deep:Int):Nat→(List UInt8)→Int→Option (LR (List UInt8) (List UInt8))
  | 0,_,_=>none
  | k3+1,s1,s2=>(bif decide (s2<v0_deep) then (bif decide (s1.length+(([32,32]:List UInt8)).length≤140737488355328) then (stmt_pad_L0 n v0_deep k3 (s1++([32,32]:List UInt8)) (IntKind.i64.wrap (s2+1))) else none) else (some (.out s1)))
def m_stmt_pad:Nat→Int→Option (List UInt8)
  | 0,_=>none
  | n+1,v0_deep=>((stmt_pad_L0 n v0_deep n ([]:List UInt8) 0).bind fun o10=>match o10 with|.out x14=>(some x14)|.ret v=>some v)
def stmt_walk_stmt_show_1_L0 (n:Nat) (rec_stmt_show_1:Int→Int→Int→(List UInt8)→Int→(List S_api_Stmt)→Option (Bool×(List UInt8))) (v0_l:(List S_api_Stmt)) (v2_to:Int) (o1:Int) (o2:(List S_api_Stmt)):Nat→Int→(List UInt8)→Option (LR (List UInt8) (Bool×(List UInt8)))
  | 0,_,_=>none
  | k3+1,s1,s2=>(bif decide (s1<v2_to) then ((idx v0_l s1).bind fun x12=>(bif decide (x12.f_Body<0) then (some (.ret (false,s2))) else (bif decide (x12.f_Else<0) then (some (.ret (false,s2))) else (bif decide ((IntKind.i64.wrap ((IntKind.i64.wrap (v2_to - s1)) - 1))<x12.f_Body) then (some (.ret (false,s2))) else (bif decide ((IntKind.i64.wrap ((IntKind.i64.wrap ((IntKind.i64.wrap (v2_to - s1)) - 1)) - x12.f_Body))<x12.f_Else) then (some (.ret (false,s2))) else ((rec_stmt_show_1 s1 (IntKind.i64.wrap ((IntKind.i64.wrap (s1+1))+x12.f_Body)) (IntKind.i64.wrap ((IntKind.i64.wrap ((IntKind.i64.wrap (s1+1))+x12.f_Body))+x12.f_Else)) s2 o1 o2).bind fun y17=>(bif y17.1 then (stmt_walk_stmt_show_1_L0 n rec_stmt_show_1 v0_l v2_to o1 o2 k3 (IntKind.i64.wrap ((IntKind.i64.wrap ((IntKind.i64.wrap (s1+1))+x12.f_Body))+x12.f_Else)) y17.2) else (some (.ret (false,y17.2)))))))))) else (some (.out s2)))
mutual
def m_stmt_show:Nat→(List S_api_Stmt)→Int→Int→Int→Option (List UInt8)
  | 0,_,_,_,_=>none
  | n+1,v0_l,v1_from,v2_to,v3_deep=>(((m_stmt_walk_stmt_show_1 n) v0_l v1_from v2_to ([]:List UInt8) v3_deep v0_l).bind fun y1=>(some y1.2))
def m_stmt_show_1:Nat→Int→Int→Int→(List UInt8)→Int→(List S_api_Stmt)→Option (Bool×(List UInt8))
  | 0,_,_,_,_,_,_=>none
  | n+1,v0_i,v1_mid,v2_end,o0,o1,o2=>((m_stmt_pad n o1).bind fun y1=>((idx o2 v0_i).bind fun x3=>((m_stmt_head n x3).bind fun y4=>(bif decide (y1.length+y4.length≤140737488355328) then (bif decide (o0.length+((y1++y4)).length≤140737488355328) then ((idx o2 v0_i).bind fun x8=>((m_stmt_nests n x8.f_Kind).bind fun y9=>(bif y9 then (((m_stmt_show n) o2 (IntKind.i64.wrap (v0_i+1)) v1_mid (IntKind.i64.wrap (o1+1))).bind fun y12=>(bif decide ((([32,123,10]:List UInt8)).length+y12.length≤140737488355328) then ((m_stmt_pad n o1).bind fun y15=>(bif decide (((([32,123,10]:List UInt8)++y12)).length+y15.length≤140737488355328) then (bif decide (((o0++(y1++y4))).length+(((([32,123,10]:List UInt8)++y12)++y15)).length≤140737488355328) then (bif decide (v1_mid<v2_end) then (((m_stmt_show n) o2 v1_mid v2_end (IntKind.i64.wrap (o1+1))).bind fun y20=>(bif decide ((([125,32,101,108,115,101,32,123,10]:List UInt8)).length+y20.length≤140737488355328) then ((m_stmt_pad n o1).bind fun y23=>(bif decide (((([125,32,101,108,115,101,32,123,10]:List UInt8)++y20)).length+y23.length≤140737488355328) then (bif decide ((((o0++(y1++y4))++((([32,123,10]:List UInt8)++y12)++y15))).length+(((([125,32,101,108,115,101,32,123,10]:List UInt8)++y20)++y23)).length≤140737488355328) then (bif decide (((((o0++(y1++y4))++((([32,123,10]:List UInt8)++y12)++y15))++((([125,32,101,108,115,101,32,123,10]:List UInt8)++y20)++y23))).length+(([125]:List UInt8)).length≤140737488355328) then (bif decide ((((((o0++(y1++y4))++((([32,123,10]:List UInt8)++y12)++y15))++((([125,32,101,108,115,101,32,123,10]:List UInt8)++y20)++y23))++([125]:List UInt8))).length+(([10]:List UInt8)).length≤140737488355328) then (some (true,(((((o0++(y1++y4))++((([32,123,10]:List UInt8)++y12)++y15))++((([125,32,101,108,115,101,32,123,10]:List UInt8)++y20)++y23))++([125]:List UInt8))++([10]:List UInt8)))) else none) else none) else none) else none)) else none)) else (bif decide ((((o0++(y1++y4))++((([32,123,10]:List UInt8)++y12)++y15))).length+(([125]:List UInt8)).length≤140737488355328) then (bif decide (((((o0++(y1++y4))++((([32,123,10]:List UInt8)++y12)++y15))++([125]:List UInt8))).length+(([10]:List UInt8)).length≤140737488355328) then (some (true,((((o0++(y1++y4))++((([32,123,10]:List UInt8)++y12)++y15))++([125]:List UInt8))++([10]:List UInt8)))) else none) else none)) else none) else none)) else none)) else (bif decide (((o0++(y1++y4))).length+(([10]:List UInt8)).length≤140737488355328) then (some (true,((o0++(y1++y4))++([10]:List UInt8)))) else none)))) else none) else none))))
def m_stmt_walk_stmt_show_1:Nat→(List S_api_Stmt)→Int→Int→(List UInt8)→Int→(List S_api_Stmt)→Option (Bool×(List UInt8))
  | 0,_,_,_,_,_,_=>none
  | n+1,v0_l,v1_from,v2_to,o0,o1,o2=>((stmt_walk_stmt_show_1_L0 n (m_stmt_show_1 n) v0_l v2_to o1 o2 n v1_from o0).bind fun o10=>match o10 with|.out x21=>(some (true,x21))|.ret v=>some v)
end
def m_stmt_Show:Nat→(List S_api_Stmt)→Int→Option (List UInt8)
  | 0,_,_=>none
  | n+1,v0_l,v1_deep=>(bif decide (v1_deep<0) then (some ([]:List UInt8)) else (bif decide (100<v1_deep) then (some ([]:List UInt8)) else ((m_stmt_Right n v0_l).bind fun y3=>(bif y3 then ((m_stmt_show n v0_l 0 ((v0_l.length:Nat):Int) v1_deep).bind fun y6=>(some y6)) else (some ([]:List UInt8))))))
def m_ref04_state_fault:Nat→Int→Int→(List S_api_Token)→Int→Int→Int→Option (Int×Int)
  | 0,_,_,_,_,_,_=>none
  | n+1,v1_e,v2_at,s_l,s_i,s_e,s_at=>(bif (s_e==0) then (bif (v1_e != 0) then (some (v1_e,v2_at)) else (some (s_e,s_at))) else (some (s_e,s_at)))
def m_ref04_state_wrong:Nat→(List S_api_Token)→Int→Int→Int→Option (Int×Int)
  | 0,_,_,_,_=>none
  | n+1,s_l,s_i,s_e,s_at=>(bif (s_e==0) then ((m_ref03_Wrong n s_l s_i).bind fun y2=>(some (y2.1,y2.2))) else (some (s_e,s_at)))
def m_ref04_state_sign:Nat→(List UInt8)→(List S_api_Token)→Int→Int→Int→Option (Int×Int×Int)
  | 0,_,_,_,_,_=>none
  | n+1,v1_w,s_l,s_i,s_e,s_at=>(bif (s_e==0) then ((m_ref02_Is n s_l s_i v1_w).bind fun y2=>(bif y2 then (some (IntKind.i64.wrap (s_i+1),s_e,s_at)) else ((m_ref04_state_wrong n s_l s_i s_e s_at).bind fun y5=>(some (s_i,y5.1,y5.2))))) else ((m_ref04_state_wrong n s_l s_i s_e s_at).bind fun y7=>(some (s_i,y7.1,y7.2))))
def ref04_state_claim_L0 (n:Nat) :Nat→Option (LR Unit (S_api_Claim×Int×Int×Int))
  | 0=>none
  | k6+1=>(some (.out ()))
def ref04_state_claim_L1 (n:Nat) :Nat→Int→(List S_api_Node)→Option (LR (List S_api_Node) (S_api_Claim×Int×Int×Int))
  | 0,_,_=>none
  | k25+1,s23,s24=>(bif decide (s23<((s24.length:Nat):Int)) then ((idx s24 s23).bind fun x34=>(bif (x34.f_Op==2) then ((idx s24 s23).bind fun x36=>(ref04_state_claim_L1 n k25 (IntKind.i64.wrap (s23+1)) (List.set s24 s23.toNat (⟨3,x36.f_N,x36.f_Name,x36.f_In,x36.f_At⟩:S_api_Node)))) else (ref04_state_claim_L1 n k25 (IntKind.i64.wrap (s23+1)) s24))) else (some (.out s24)))
def m_ref04_state_claim:Nat→Int→(List S_api_Token)→Int→Int→Int→Option (S_api_Claim×Int×Int×Int)
  | 0,_,_,_,_,_=>none
  | n+1,v1_kind,s_l,s_i,s_e,s_at=>((idx s_l s_i).bind fun x1=>((m_ref02_Parse n s_l (IntKind.i64.wrap (s_i+1))).bind fun y2=>(bif decide (y2.1.length=0) then ((m_ref04_state_fault n y2.2.2.1 y2.2.2.2 s_l (IntKind.i64.wrap (s_i+1)) s_e s_at).bind fun y4=>((ref04_state_claim_L0 n n).bind fun o13=>match o13 with|.out _=>(bif (y4.1==0) then ((m_ref04_state_sign n ([59]:List UInt8) s_l y2.2.1 y4.1 y4.2).bind fun y16=>(some ((⟨v1_kind,([]:List S_api_Node),x1.f_At⟩:S_api_Claim),y16.1,y16.2.1,y16.2.2))) else ((m_ref04_state_sign n ([59]:List UInt8) s_l (IntKind.i64.wrap (s_i+1)) y4.1 y4.2).bind fun y18=>(some ((⟨v1_kind,([]:List S_api_Node),x1.f_At⟩:S_api_Claim),y18.1,y18.2.1,y18.2.2))))|.ret v=>some v)) else ((m_ref04_state_fault n y2.2.2.1 y2.2.2.2 s_l (IntKind.i64.wrap (s_i+1)) s_e s_at).bind fun y21=>((ref04_state_claim_L1 n n 0 y2.1).bind fun o32=>match o32 with|.out x39=>(bif (y21.1==0) then ((m_ref04_state_sign n ([59]:List UInt8) s_l y2.2.1 y21.1 y21.2).bind fun y41=>(some ((⟨v1_kind,x39,x1.f_At⟩:S_api_Claim),y41.1,y41.2.1,y41.2.2))) else ((m_ref04_state_sign n ([59]:List UInt8) s_l (IntKind.i64.wrap (s_i+1)) y21.1 y21.2).bind fun y43=>(some ((⟨v1_kind,x39,x1.f_At⟩:S_api_Claim),y43.1,y43.2.1,y43.2.2))))|.ret v=>some v)))))
def m_ref04_state_key:Nat→(List UInt8)→(List S_api_Token)→Int→Int→Int→Option Bool
  | 0,_,_,_,_,_=>none
  | n+1,v1_w,s_l,s_i,s_e,s_at=>(bif (s_e==0) then (bif decide (s_i<((s_l.length:Nat):Int)) then ((idx s_l s_i).bind fun x3=>(bif (x3.f_Kind==1) then ((idx s_l s_i).bind fun x5=>(some (x5.f_Text==v1_w))) else (some false))) else (some false)) else (some false))
def m_ref04_word:Nat→Int→Option (List UInt8)
  | 0,_=>none
  | n+1,v0_kind=>((idx ([([]:List UInt8),([102,111,114,97,108,108]:List UInt8),([101,120,105,115,116,115]:List UInt8),([97,108,119,97,121,115]:List UInt8)]:List (List UInt8)) v0_kind).bind fun x1=>(some x1))
def ref04_state_kind_L0 (n:Nat)  (s_l:(List S_api_Token)) (s_i:Int) (s_e:Int) (s_at:Int):Nat→Int→Option (LR Unit Int)
  | 0,_=>none
  | k2+1,s1=>(bif decide (s1≤3) then ((m_ref04_word n s1).bind fun y11=>((m_ref04_state_key n y11 s_l s_i s_e s_at).bind fun y13=>(bif y13 then (some (.ret s1)) else (ref04_state_kind_L0 n s_l s_i s_e s_at k2 (IntKind.i64.wrap (s1+1)))))) else (some (.out ())))
def m_ref04_state_kind:Nat→(List S_api_Token)→Int→Int→Int→Option Int
  | 0,_,_,_,_=>none
  | n+1,s_l,s_i,s_e,s_at=>((ref04_state_kind_L0 n s_l s_i s_e s_at n 1).bind fun o9=>match o9 with|.out _=>(some 0)|.ret v=>some v)
def m_ref04_state_name:Nat→(List S_api_Token)→Int→Int→Int→Option ((List UInt8)×Int×Int×Int)
  | 0,_,_,_,_=>none
  | n+1,s_l,s_i,s_e,s_at=>(bif (s_e==0) then ((m_ref03_Name n s_l s_i).bind fun y2=>(bif y2 then ((idx s_l (IntKind.i64.wrap ((IntKind.i64.wrap (s_i+1)) - 1))).bind fun x5=>(some (x5.f_Text,IntKind.i64.wrap (s_i+1),s_e,s_at))) else ((m_ref04_state_wrong n s_l s_i s_e s_at).bind fun y6=>(some (([]:List UInt8),s_i,y6.1,y6.2))))) else ((m_ref04_state_wrong n s_l s_i s_e s_at).bind fun y8=>(some (([]:List UInt8),s_i,y8.1,y8.2))))
def m_ref04_state_number:Nat→(List S_api_Token)→Int→Int→Int→Option (Int×Int×Int×Int)
  | 0,_,_,_,_=>none
  | n+1,s_l,s_i,s_e,s_at=>(bif (s_e==0) then (bif decide (s_i<((s_l.length:Nat):Int)) then ((idx s_l s_i).bind fun x3=>(bif (x3.f_Kind==2) then ((idx s_l (IntKind.i64.wrap ((IntKind.i64.wrap (s_i+1)) - 1))).bind fun x5=>(some (x5.f_N,IntKind.i64.wrap (s_i+1),s_e,s_at))) else ((m_ref04_state_wrong n s_l s_i s_e s_at).bind fun y6=>(some (0,s_i,y6.1,y6.2))))) else ((m_ref04_state_wrong n s_l s_i s_e s_at).bind fun y8=>(some (0,s_i,y8.1,y8.2)))) else ((m_ref04_state_wrong n s_l s_i s_e s_at).bind fun y10=>(some (0,s_i,y10.1,y10.2))))
def ref04_state_thread_L0 (n:Nat)  (s_l:(List S_api_Token)):Nat→Int→Int→Int→(List (List UInt8))→Option (LR (Int×Int×Int×(List (List UInt8))) (S_api_Thread×Int×Int×Int))
  | 0,_,_,_,_=>none
  | k15+1,s11,s12,s13,s14=>(bif (s12==0) then ((m_ref02_Is n s_l s11 ([44]:List UInt8)).bind fun y24=>(bif y24 then ((m_ref04_state_name n s_l (IntKind.i64.wrap (s11+1)) s12 s13).bind fun y27=>(bif decide ((s14.length+1) * 17≤140737488355328) then (ref04_state_thread_L0 n s_l k15 y27.2.1 y27.2.2.1 y27.2.2.2 (s14++([y27.1]:List (List UInt8)))) else none)) else (some (.out (s11,s12,s13,s14))))) else (some (.out (s11,s12,s13,s14))))
def m_ref04_state_thread:Nat→(List S_api_Token)→Int→Int→Int→Option (S_api_Thread×Int×Int×Int)
  | 0,_,_,_,_=>none
  | n+1,s_l,s_i,s_e,s_at=>((idx s_l s_i).bind fun x1=>((m_ref04_state_name n s_l (IntKind.i64.wrap (s_i+1)) s_e s_at).bind fun y2=>((m_ref04_state_sign n ([123]:List UInt8) s_l y2.2.1 y2.2.2.1 y2.2.2.2).bind fun y4=>((m_ref04_state_key n ([114,101,103]:List UInt8) s_l y4.1 y4.2.1 y4.2.2).bind fun y6=>(bif y6 then ((m_ref04_state_name n s_l (IntKind.i64.wrap (y4.1+1)) y4.2.1 y4.2.2).bind fun y9=>((ref04_state_thread_L0 n s_l n y9.2.1 y9.2.2.1 y9.2.2.2 ([y9.1]:List (List UInt8))).bind fun o22=>match o22 with|.out (x32,x33,x34,x35)=>((m_ref04_state_sign n ([59]:List UInt8) s_l x32 x33 x34).bind fun y36=>(bif (y36.2.1==0) then ((m_ref03_Parse n s_l y36.1).bind fun y39=>((m_ref04_state_fault n y39.2.2.1 y39.2.2.2 s_l y36.1 y36.2.1 y36.2.2).bind fun y41=>((m_ref04_state_sign n ([125]:List UInt8) s_l y39.2.1 y41.1 y41.2).bind fun y43=>(some ((⟨y2.1,x35,y39.1,x1.f_At⟩:S_api_Thread),y43.1,y43.2.1,y43.2.2))))) else ((m_ref04_state_sign n ([125]:List UInt8) s_l y36.1 y36.2.1 y36.2.2).bind fun y45=>(some ((⟨y2.1,x35,([]:List S_api_Stmt),x1.f_At⟩:S_api_Thread),y45.1,y45.2.1,y45.2.2)))))|.ret v=>some v)) else (bif (y4.2.1==0) then ((m_ref03_Parse n s_l y4.1).bind fun y49=>((m_ref04_state_fault n y49.2.2.1 y49.2.2.2 s_l y4.1 y4.2.1 y4.2.2).bind fun y51=>((m_ref04_state_sign n ([125]:List UInt8) s_l y49.2.1 y51.1 y51.2).bind fun y53=>(some ((⟨y2.1,([]:List (List UInt8)),y49.1,x1.f_At⟩:S_api_Thread),y53.1,y53.2.1,y53.2.2))))) else ((m_ref04_state_sign n ([125]:List UInt8) s_l y4.1 y4.2.1 y4.2.2).bind fun y55=>(some ((⟨y2.1,([]:List (List UInt8)),([]:List S_api_Stmt),x1.f_At⟩:S_api_Thread),y55.1,y55.2.1,y55.2.2)))))))))
def ref04_Parse_L0 (n:Nat)  (y1:((List S_api_Token)×Int×Int)):Nat→Int→Int→Int→(List S_api_Var)→Option (LR (Int×Int×Int×(List S_api_Var)) (S_api_Prog×Int×Int))
  | 0,_,_,_,_=>none
  | k15+1,s11,s12,s13,s14=>((m_ref04_state_key n ([108,111,99]:List UInt8) y1.1 s11 s12 s13).bind fun y23=>(bif y23 then ((idx y1.1 s11).bind fun x26=>((m_ref04_state_name n y1.1 (IntKind.i64.wrap (s11+1)) s12 s13).bind fun y27=>((m_ref04_state_sign n ([61]:List UInt8) y1.1 y27.2.1 y27.2.2.1 y27.2.2.2).bind fun y29=>((m_ref04_state_number n y1.1 y29.1 y29.2.1 y29.2.2).bind fun y31=>((m_ref04_state_sign n ([59]:List UInt8) y1.1 y31.2.1 y31.2.2.1 y31.2.2.2).bind fun y33=>(bif decide ((s14.length+1) * 33≤140737488355328) then (ref04_Parse_L0 n y1 k15 y33.1 y33.2.1 y33.2.2 (s14++([(⟨y27.1,y31.1,x26.f_At⟩:S_api_Var)]:List S_api_Var))) else none)))))) else (some (.out (s11,s12,s13,s14)))))
def ref04_Parse_L1 (n:Nat)  (y1:((List S_api_Token)×Int×Int)):Nat→Int→Int→Int→(List S_api_Thread)→Option (LR (Int×Int×Int×(List S_api_Thread)) (S_api_Prog×Int×Int))
  | 0,_,_,_,_=>none
  | k46+1,s42,s43,s44,s45=>((m_ref04_state_key n ([116,104,114,101,97,100]:List UInt8) y1.1 s42 s43 s44).bind fun y54=>(bif y54 then ((m_ref04_state_thread n y1.1 s42 s43 s44).bind fun y57=>(bif decide ((s45.length+1) * 73≤140737488355328) then (ref04_Parse_L1 n y1 k46 y57.2.1 y57.2.2.1 y57.2.2.2 (s45++([y57.1]:List S_api_Thread))) else none)) else (some (.out (s42,s43,s44,s45)))))
def ref04_Parse_L2 (n:Nat)  (y1:((List S_api_Token)×Int×Int)):Nat→Int→Int→Int→(List S_api_Claim)→Option (LR (Int×Int×Int×(List S_api_Claim)) (S_api_Prog×Int×Int))
  | 0,_,_,_,_=>none
  | k70+1,s66,s67,s68,s69=>((m_ref04_state_kind n y1.1 s66 s67 s68).bind fun y78=>(bif decide (0<y78) then ((m_ref04_state_kind n y1.1 s66 s67 s68).bind fun y81=>((m_ref04_state_claim n y81 y1.1 s66 s67 s68).bind fun y83=>(bif decide ((s69.length+1) * 41≤140737488355328) then (ref04_Parse_L2 n y1 k70 y83.2.1 y83.2.2.1 y83.2.2.2 (s69++([y83.1]:List S_api_Claim))) else none))) else (some (.out (s66,s67,s68,s69)))))
def ref04_Parse_L3 (n:Nat)  (y1:((List S_api_Token)×Int×Int)):Nat→Int→Int→Int→(List S_api_Var)→Option (LR (Int×Int×Int×(List S_api_Var)) (S_api_Prog×Int×Int))
  | 0,_,_,_,_=>none
  | k110+1,s106,s107,s108,s109=>((m_ref04_state_key n ([108,111,99]:List UInt8) y1.1 s106 s107 s108).bind fun y118=>(bif y118 then ((idx y1.1 s106).bind fun x121=>((m_ref04_state_name n y1.1 (IntKind.i64.wrap (s106+1)) s107 s108).bind fun y122=>((m_ref04_state_sign n ([61]:List UInt8) y1.1 y122.2.1 y122.2.2.1 y122.2.2.2).bind fun y124=>((m_ref04_state_number n y1.1 y124.1 y124.2.1 y124.2.2).bind fun y126=>((m_ref04_state_sign n ([59]:List UInt8) y1.1 y126.2.1 y126.2.2.1 y126.2.2.2).bind fun y128=>(bif decide ((s109.length+1) * 33≤140737488355328) then (ref04_Parse_L3 n y1 k110 y128.1 y128.2.1 y128.2.2 (s109++([(⟨y122.1,y126.1,x121.f_At⟩:S_api_Var)]:List S_api_Var))) else none)))))) else (some (.out (s106,s107,s108,s109)))))
def ref04_Parse_L4 (n:Nat)  (y1:((List S_api_Token)×Int×Int)):Nat→Int→Int→Int→(List S_api_Thread)→Option (LR (Int×Int×Int×(List S_api_Thread)) (S_api_Prog×Int×Int))
  | 0,_,_,_,_=>none
  | k141+1,s137,s138,s139,s140=>((m_ref04_state_key n ([116,104,114,101,97,100]:List UInt8) y1.1 s137 s138 s139).bind fun y149=>(bif y149 then ((m_ref04_state_thread n y1.1 s137 s138 s139).bind fun y152=>(bif decide ((s140.length+1) * 73≤140737488355328) then (ref04_Parse_L4 n y1 k141 y152.2.1 y152.2.2.1 y152.2.2.2 (s140++([y152.1]:List S_api_Thread))) else none)) else (some (.out (s137,s138,s139,s140)))))
def ref04_Parse_L5 (n:Nat)  (y1:((List S_api_Token)×Int×Int)):Nat→Int→Int→Int→(List S_api_Claim)→Option (LR (Int×Int×Int×(List S_api_Claim)) (S_api_Prog×Int×Int))
  | 0,_,_,_,_=>none
  | k165+1,s161,s162,s163,s164=>((m_ref04_state_kind n y1.1 s161 s162 s163).bind fun y173=>(bif decide (0<y173) then ((m_ref04_state_kind n y1.1 s161 s162 s163).bind fun y176=>((m_ref04_state_claim n y176 y1.1 s161 s162 s163).bind fun y178=>(bif decide ((s164.length+1) * 41≤140737488355328) then (ref04_Parse_L5 n y1 k165 y178.2.1 y178.2.2.1 y178.2.2.2 (s164++([y178.1]:List S_api_Claim))) else none))) else (some (.out (s161,s162,s163,s164)))))
def m_ref04_Parse:Nat→(List UInt8)→Option (S_api_Prog×Int×Int)
  | 0,_=>none
  | n+1,v0_text=>((m_ref01_Scan n v0_text).bind fun y1=>(bif (y1.2.1 != 0) then (some ((⟨0,([]:List S_api_Var),([]:List S_api_Thread),([]:List S_api_Claim)⟩:S_api_Prog),y1.2.1,y1.2.2)) else ((m_ref04_state_key n ([109,111,100]:List UInt8) y1.1 0 0 0).bind fun y4=>(bif y4 then ((m_ref04_state_number n y1.1 (IntKind.i64.wrap ((0:Int)+1)) 0 0).bind fun y7=>((m_ref04_state_sign n ([59]:List UInt8) y1.1 y7.2.1 y7.2.2.1 y7.2.2.2).bind fun y9=>((ref04_Parse_L0 n y1 n y9.1 y9.2.1 y9.2.2 ([]:List S_api_Var)).bind fun o22=>match o22 with|.out (x38,x39,x40,x41)=>((ref04_Parse_L1 n y1 n x38 x39 x40 ([]:List S_api_Thread)).bind fun o53=>match o53 with|.out (x62,x63,x64,x65)=>((ref04_Parse_L2 n y1 n x62 x63 x64 ([]:List S_api_Claim)).bind fun o77=>match o77 with|.out (x88,x89,x90,x91)=>(bif decide (x88<((y1.1.length:Nat):Int)) then ((m_ref04_state_wrong n y1.1 x88 x89 x90).bind fun y93=>(bif (y93.1 != 0) then (some ((⟨0,([]:List S_api_Var),([]:List S_api_Thread),([]:List S_api_Claim)⟩:S_api_Prog),y93.1,y93.2)) else (some ((⟨y7.1,x41,x65,x91⟩:S_api_Prog),0,0)))) else (bif (x89 != 0) then (some ((⟨0,([]:List S_api_Var),([]:List S_api_Thread),([]:List S_api_Claim)⟩:S_api_Prog),x89,x90)) else (some ((⟨y7.1,x41,x65,x91⟩:S_api_Prog),0,0))))|.ret v=>some v)|.ret v=>some v)|.ret v=>some v))) else ((m_ref04_state_wrong n y1.1 0 0 0).bind fun y100=>((m_ref04_state_number n y1.1 0 y100.1 y100.2).bind fun y102=>((m_ref04_state_sign n ([59]:List UInt8) y1.1 y102.2.1 y102.2.2.1 y102.2.2.2).bind fun y104=>((ref04_Parse_L3 n y1 n y104.1 y104.2.1 y104.2.2 ([]:List S_api_Var)).bind fun o117=>match o117 with|.out (x133,x134,x135,x136)=>((ref04_Parse_L4 n y1 n x133 x134 x135 ([]:List S_api_Thread)).bind fun o148=>match o148 with|.out (x157,x158,x159,x160)=>((ref04_Parse_L5 n y1 n x157 x158 x159 ([]:List S_api_Claim)).bind fun o172=>match o172 with|.out (x183,x184,x185,x186)=>(bif decide (x183<((y1.1.length:Nat):Int)) then ((m_ref04_state_wrong n y1.1 x183 x184 x185).bind fun y188=>(bif (y188.1 != 0) then (some ((⟨0,([]:List S_api_Var),([]:List S_api_Thread),([]:List S_api_Claim)⟩:S_api_Prog),y188.1,y188.2)) else (some ((⟨y102.1,x136,x160,x186⟩:S_api_Prog),0,0)))) else (bif (x184 != 0) then (some ((⟨0,([]:List S_api_Var),([]:List S_api_Thread),([]:List S_api_Claim)⟩:S_api_Prog),x184,x185)) else (some ((⟨y102.1,x136,x160,x186⟩:S_api_Prog),0,0))))|.ret v=>some v)|.ret v=>some v)|.ret v=>some v))))))))
def ref04_Same_L0 (n:Nat)  (v0_a:S_api_Prog) (v1_b:S_api_Prog):Nat→Bool→Int→Option (LR Bool Bool)
  | 0,_,_=>none
  | k7+1,s5,s6=>(bif decide (s6<((v0_a.f_Locs.length:Nat):Int)) then ((idx v0_a.f_Locs s6).bind fun x16=>((idx v1_b.f_Locs s6).bind fun x17=>(bif (x16.f_Name==x17.f_Name) then ((idx v0_a.f_Locs s6).bind fun x19=>((idx v1_b.f_Locs s6).bind fun x20=>(bif (x19.f_N != x20.f_N) then (some (.ret false)) else (bif s5 then ((idx v0_a.f_Locs s6).bind fun x23=>((idx v1_b.f_Locs s6).bind fun x24=>(bif (x23.f_At != x24.f_At) then (some (.ret false)) else (ref04_Same_L0 n v0_a v1_b k7 true (IntKind.i64.wrap (s6+1)))))) else (ref04_Same_L0 n v0_a v1_b k7 false (IntKind.i64.wrap (s6+1))))))) else (some (.ret false))))) else (some (.out s5)))
def ref04_Same_L2 (n:Nat)  (x39:S_api_Thread) (x40:S_api_Thread):Nat→Int→Option (LR Unit Bool)
  | 0,_=>none
  | k49+1,s48=>(bif decide (s48<((x39.f_Regs.length:Nat):Int)) then ((idx x39.f_Regs s48).bind fun x58=>((idx x40.f_Regs s48).bind fun x59=>(bif (x58==x59) then (ref04_Same_L2 n x39 x40 k49 (IntKind.i64.wrap (s48+1))) else (some (.ret false))))) else (some (.out ())))
def ref04_Same_L3 (n:Nat)  (x39:S_api_Thread) (x40:S_api_Thread):Nat→Int→Option (LR Unit Bool)
  | 0,_=>none
  | k64+1,s63=>(bif decide (s63<((x39.f_Regs.length:Nat):Int)) then ((idx x39.f_Regs s63).bind fun x73=>((idx x40.f_Regs s63).bind fun x74=>(bif (x73==x74) then (ref04_Same_L3 n x39 x40 k64 (IntKind.i64.wrap (s63+1))) else (some (.ret false))))) else (some (.out ())))
def ref04_Same_L1 (n:Nat)  (v0_a:S_api_Prog) (v1_b:S_api_Prog):Nat→Bool→Int→Option (LR Bool Bool)
  | 0,_,_=>none
  | k30+1,s28,s29=>(bif decide (s29<((v0_a.f_Threads.length:Nat):Int)) then ((idx v0_a.f_Threads s29).bind fun x39=>((idx v1_b.f_Threads s29).bind fun x40=>(bif (x39.f_Name==x40.f_Name) then (bif (((x39.f_Regs.length:Nat):Int) != ((x40.f_Regs.length:Nat):Int)) then (some (.ret false)) else ((m_ref03_Same n x39.f_Body x40.f_Body s28).bind fun y43=>(bif y43 then (bif s28 then (bif (x39.f_At != x40.f_At) then (some (.ret false)) else ((ref04_Same_L2 n x39 x40 n 0).bind fun o56=>match o56 with|.out _=>(ref04_Same_L1 n v0_a v1_b k30 true (IntKind.i64.wrap (s29+1)))|.ret v=>some (.ret v))) else ((ref04_Same_L3 n x39 x40 n 0).bind fun o71=>match o71 with|.out _=>(ref04_Same_L1 n v0_a v1_b k30 false (IntKind.i64.wrap (s29+1)))|.ret v=>some (.ret v))) else (some (.ret false))))) else (some (.ret false))))) else (some (.out s28)))
def ref04_Same_L4 (n:Nat)  (v0_a:S_api_Prog) (v1_b:S_api_Prog):Nat→Bool→Int→Option (LR Unit Bool)
  | 0,_,_=>none
  | k82+1,s80,s81=>(bif decide (s81<((v0_a.f_Claims.length:Nat):Int)) then ((idx v0_a.f_Claims s81).bind fun x91=>((idx v1_b.f_Claims s81).bind fun x92=>(bif (x91.f_Kind != x92.f_Kind) then (some (.ret false)) else ((idx v0_a.f_Claims s81).bind fun x94=>((idx v1_b.f_Claims s81).bind fun x95=>((m_ref02_Same n x94.f_E x95.f_E s80).bind fun y96=>(bif y96 then (bif s80 then ((idx v0_a.f_Claims s81).bind fun x100=>((idx v1_b.f_Claims s81).bind fun x101=>(bif (x100.f_At != x101.f_At) then (some (.ret false)) else (ref04_Same_L4 n v0_a v1_b k82 true (IntKind.i64.wrap (s81+1)))))) else (ref04_Same_L4 n v0_a v1_b k82 false (IntKind.i64.wrap (s81+1)))) else (some (.ret false))))))))) else (some (.out ())))
def m_ref04_Same:Nat→S_api_Prog→S_api_Prog→Bool→Option Bool
  | 0,_,_,_=>none
  | n+1,v0_a,v1_b,v2_places=>(bif (v0_a.f_Mod != v1_b.f_Mod) then (some false) else (bif (((v0_a.f_Locs.length:Nat):Int) != ((v1_b.f_Locs.length:Nat):Int)) then (some false) else (bif (((v0_a.f_Threads.length:Nat):Int) != ((v1_b.f_Threads.length:Nat):Int)) then (some false) else (bif (((v0_a.f_Claims.length:Nat):Int) != ((v1_b.f_Claims.length:Nat):Int)) then (some false) else ((ref04_Same_L0 n v0_a v1_b n v2_places 0).bind fun o14=>match o14 with|.out x27=>((ref04_Same_L1 n v0_a v1_b n x27 0).bind fun o37=>match o37 with|.out x79=>((ref04_Same_L4 n v0_a v1_b n x79 0).bind fun o89=>match o89 with|.out _=>(some true)|.ret v=>some v)|.ret v=>some v)|.ret v=>some v)))))
def ref04_claimed_L0 (n:Nat)  (y1:(List S_api_Node)):Nat→Int→Option (LR Unit Bool)
  | 0,_=>none
  | k4+1,s3=>(bif decide (s3<((y1.length:Nat):Int)) then ((idx y1 s3).bind fun x13=>(bif (x13.f_Op==2) then (some (.ret false)) else (ref04_claimed_L0 n y1 k4 (IntKind.i64.wrap (s3+1))))) else (some (.out ())))
def m_ref04_claimed:Nat→(List S_api_Node)→Option Bool
  | 0,_=>none
  | n+1,v0_l=>((m_ref02_Names n v0_l).bind fun y1=>((ref04_claimed_L0 n y1 n 0).bind fun o11=>match o11 with|.out _=>((m_ref02_Right n v0_l).bind fun y16=>(some y16))|.ret v=>some v))
def m_ref04_in:Nat→Int→Option Bool
  | 0,_=>none
  | n+1,v0_n=>(bif decide (0≤v0_n) then (some (decide (v0_n≤9999))) else (some false))
def ref04_Right_L0 (n:Nat)  (v0_p:S_api_Prog):Nat→Int→Option (LR Unit Bool)
  | 0,_=>none
  | k5+1,s4=>(bif decide (s4<((v0_p.f_Locs.length:Nat):Int)) then ((idx v0_p.f_Locs s4).bind fun x14=>((m_ref01_Name n x14.f_Name).bind fun y15=>(bif y15 then ((idx v0_p.f_Locs s4).bind fun x18=>((m_ref04_in n x18.f_N).bind fun y19=>(bif y19 then ((idx v0_p.f_Locs s4).bind fun x22=>(bif decide (x22.f_At<0) then (some (.ret false)) else (ref04_Right_L0 n v0_p k5 (IntKind.i64.wrap (s4+1))))) else (some (.ret false))))) else (some (.ret false))))) else (some (.out ())))
def ref04_Right_L2 (n:Nat)  (x35:S_api_Thread):Nat→Int→Option (LR Unit Bool)
  | 0,_=>none
  | k44+1,s43=>(bif decide (s43<((x35.f_Regs.length:Nat):Int)) then ((idx x35.f_Regs s43).bind fun x53=>((m_ref01_Name n x53).bind fun y54=>(bif y54 then (ref04_Right_L2 n x35 k44 (IntKind.i64.wrap (s43+1))) else (some (.ret false))))) else (some (.out ())))
def ref04_Right_L1 (n:Nat)  (v0_p:S_api_Prog):Nat→Int→Option (LR Unit Bool)
  | 0,_=>none
  | k26+1,s25=>(bif decide (s25<((v0_p.f_Threads.length:Nat):Int)) then ((idx v0_p.f_Threads s25).bind fun x35=>((m_ref01_Name n x35.f_Name).bind fun y36=>(bif y36 then ((m_ref03_Right n x35.f_Body).bind fun y39=>(bif y39 then (bif decide (x35.f_At<0) then (some (.ret false)) else ((ref04_Right_L2 n x35 n 0).bind fun o51=>match o51 with|.out _=>(ref04_Right_L1 n v0_p k26 (IntKind.i64.wrap (s25+1)))|.ret v=>some (.ret v))) else (some (.ret false)))) else (some (.ret false))))) else (some (.out ())))
def ref04_Right_L3 (n:Nat)  (v0_p:S_api_Prog):Nat→Int→Option (LR Unit Bool)
  | 0,_=>none
  | k61+1,s60=>(bif decide (s60<((v0_p.f_Claims.length:Nat):Int)) then ((idx v0_p.f_Claims s60).bind fun x70=>(bif decide (x70.f_Kind<1) then (some (.ret false)) else (bif decide (3<x70.f_Kind) then (some (.ret false)) else ((m_ref04_claimed n x70.f_E).bind fun y73=>(bif y73 then (bif decide (x70.f_At<0) then (some (.ret false)) else (ref04_Right_L3 n v0_p k61 (IntKind.i64.wrap (s60+1)))) else (some (.ret false))))))) else (some (.out ())))
def m_ref04_Right:Nat→S_api_Prog→Option Bool
  | 0,_=>none
  | n+1,v0_p=>((m_ref04_in n v0_p.f_Mod).bind fun y1=>(bif y1 then ((ref04_Right_L0 n v0_p n 0).bind fun o12=>match o12 with|.out _=>((ref04_Right_L1 n v0_p n 0).bind fun o33=>match o33 with|.out _=>((ref04_Right_L3 n v0_p n 0).bind fun o68=>match o68 with|.out _=>(some true)|.ret v=>some v)|.ret v=>some v)|.ret v=>some v) else (some false)))
def ref04_Show_L0 (n:Nat)  (v0_p:S_api_Prog):Nat→(List UInt8)→Int→Option (LR (List UInt8) (List UInt8))
  | 0,_,_=>none
  | k10+1,s8,s9=>(bif decide (s9<((v0_p.f_Locs.length:Nat):Int)) then (bif decide (s8.length+(([108,111,99,32]:List UInt8)).length≤140737488355328) then ((idx v0_p.f_Locs s9).bind fun x20=>(bif decide (((s8++([108,111,99,32]:List UInt8))).length+x20.f_Name.length≤140737488355328) then (bif decide ((((s8++([108,111,99,32]:List UInt8))++x20.f_Name)).length+(([32,61,32]:List UInt8)).length≤140737488355328) then ((idx v0_p.f_Locs s9).bind fun x23=>((m_ref01_Digits n x23.f_N).bind fun y24=>(bif decide (((((s8++([108,111,99,32]:List UInt8))++x20.f_Name)++([32,61,32]:List UInt8))).length+y24.length≤140737488355328) then (bif decide ((((((s8++([108,111,99,32]:List UInt8))++x20.f_Name)++([32,61,32]:List UInt8))++y24)).length+(([59,10]:List UInt8)).length≤140737488355328) then (ref04_Show_L0 n v0_p k10 (((((s8++([108,111,99,32]:List UInt8))++x20.f_Name)++([32,61,32]:List UInt8))++y24)++([59,10]:List UInt8)) (IntKind.i64.wrap (s9+1))) else none) else none))) else none) else none)) else none) else (some (.out s8)))
def ref04_Show_L2 (n:Nat)  (x41:S_api_Thread):Nat→(List UInt8)→Int→Option (LR (List UInt8) (List UInt8))
  | 0,_,_=>none
  | k47+1,s45,s46=>(bif decide (s46<((x41.f_Regs.length:Nat):Int)) then (bif (s46==0) then (bif decide (s45.length+(([32,32,114,101,103,32]:List UInt8)).length≤140737488355328) then ((idx x41.f_Regs s46).bind fun x58=>(bif decide (((s45++([32,32,114,101,103,32]:List UInt8))).length+x58.length≤140737488355328) then (ref04_Show_L2 n x41 k47 ((s45++([32,32,114,101,103,32]:List UInt8))++x58) (IntKind.i64.wrap (s46+1))) else none)) else none) else (bif decide (s45.length+(([44,32]:List UInt8)).length≤140737488355328) then ((idx x41.f_Regs s46).bind fun x61=>(bif decide (((s45++([44,32]:List UInt8))).length+x61.length≤140737488355328) then (ref04_Show_L2 n x41 k47 ((s45++([44,32]:List UInt8))++x61) (IntKind.i64.wrap (s46+1))) else none)) else none)) else (some (.out s45)))
def ref04_Show_L1 (n:Nat)  (v0_p:S_api_Prog):Nat→(List UInt8)→Int→Option (LR (List UInt8) (List UInt8))
  | 0,_,_=>none
  | k32+1,s30,s31=>(bif decide (s31<((v0_p.f_Threads.length:Nat):Int)) then ((idx v0_p.f_Threads s31).bind fun x41=>(bif decide (s30.length+(([116,104,114,101,97,100,32]:List UInt8)).length≤140737488355328) then (bif decide (((s30++([116,104,114,101,97,100,32]:List UInt8))).length+x41.f_Name.length≤140737488355328) then (bif decide ((((s30++([116,104,114,101,97,100,32]:List UInt8))++x41.f_Name)).length+(([32,123,10]:List UInt8)).length≤140737488355328) then ((ref04_Show_L2 n x41 n (((s30++([116,104,114,101,97,100,32]:List UInt8))++x41.f_Name)++([32,123,10]:List UInt8)) 0).bind fun o54=>match o54 with|.out x64=>(bif decide (0<((x41.f_Regs.length:Nat):Int)) then (bif decide (x64.length+(([59,10]:List UInt8)).length≤140737488355328) then ((m_ref03_Show n x41.f_Body 1).bind fun y67=>(bif decide (((x64++([59,10]:List UInt8))).length+y67.length≤140737488355328) then (bif decide ((((x64++([59,10]:List UInt8))++y67)).length+(([125,10]:List UInt8)).length≤140737488355328) then (ref04_Show_L1 n v0_p k32 (((x64++([59,10]:List UInt8))++y67)++([125,10]:List UInt8)) (IntKind.i64.wrap (s31+1))) else none) else none)) else none) else ((m_ref03_Show n x41.f_Body 1).bind fun y71=>(bif decide (x64.length+y71.length≤140737488355328) then (bif decide (((x64++y71)).length+(([125,10]:List UInt8)).length≤140737488355328) then (ref04_Show_L1 n v0_p k32 ((x64++y71)++([125,10]:List UInt8)) (IntKind.i64.wrap (s31+1))) else none) else none)))|.ret v=>some (.ret v)) else none) else none) else none)) else (some (.out s30)))
def ref04_Show_L3 (n:Nat)  (v0_p:S_api_Prog):Nat→(List UInt8)→Int→Option (LR (List UInt8) (List UInt8))
  | 0,_,_=>none
  | k80+1,s78,s79=>(bif decide (s79<((v0_p.f_Claims.length:Nat):Int)) then ((idx v0_p.f_Claims s79).bind fun x89=>((m_ref04_word n x89.f_Kind).bind fun y90=>(bif decide (s78.length+y90.length≤140737488355328) then (bif decide (((s78++y90)).length+(([32]:List UInt8)).length≤140737488355328) then ((idx v0_p.f_Claims s79).bind fun x94=>((m_ref02_Show n x94.f_E).bind fun y95=>(bif decide ((((s78++y90)++([32]:List UInt8))).length+y95.length≤140737488355328) then (bif decide (((((s78++y90)++([32]:List UInt8))++y95)).length+(([59,10]:List UInt8)).length≤140737488355328) then (ref04_Show_L3 n v0_p k80 ((((s78++y90)++([32]:List UInt8))++y95)++([59,10]:List UInt8)) (IntKind.i64.wrap (s79+1))) else none) else none))) else none) else none))) else (some (.out s78)))
def m_ref04_Show:Nat→S_api_Prog→Option (List UInt8)
  | 0,_=>none
  | n+1,v0_p=>((m_ref04_Right n v0_p).bind fun y1=>(bif y1 then ((m_ref01_Digits n v0_p.f_Mod).bind fun y4=>(bif decide ((([109,111,100,32]:List UInt8)).length+y4.length≤140737488355328) then (bif decide (((([109,111,100,32]:List UInt8)++y4)).length+(([59,10]:List UInt8)).length≤140737488355328) then ((ref04_Show_L0 n v0_p n ((([109,111,100,32]:List UInt8)++y4)++([59,10]:List UInt8)) 0).bind fun o17=>match o17 with|.out x29=>((ref04_Show_L1 n v0_p n x29 0).bind fun o39=>match o39 with|.out x77=>((ref04_Show_L3 n v0_p n x77 0).bind fun o87=>match o87 with|.out x100=>(some x100)|.ret v=>some v)|.ret v=>some v)|.ret v=>some v) else none) else none)) else (some ([]:List UInt8))))
def ref04_nodes_L0 (n:Nat)  (v0_l:(List S_api_Node)):Nat→Int→(List S_api_Node)→Option (LR (List S_api_Node) (List S_api_Node))
  | 0,_,_=>none
  | k3+1,s1,s2=>(bif decide (s1<((v0_l.length:Nat):Int)) then ((idx v0_l s1).bind fun x12=>(bif decide ((s2.length+1) * 57≤140737488355328) then (ref04_nodes_L0 n v0_l k3 (IntKind.i64.wrap (s1+1)) (s2++([(⟨x12.f_Op,x12.f_N,x12.f_Name,x12.f_In,0⟩:S_api_Node)]:List S_api_Node))) else none)) else (some (.out s2)))
def m_ref04_nodes:Nat→(List S_api_Node)→Option (List S_api_Node)
  | 0,_=>none
  | n+1,v0_l=>((ref04_nodes_L0 n v0_l n 0 ([]:List S_api_Node)).bind fun o10=>match o10 with|.out x16=>(some x16)|.ret v=>some v)
def ref04_Bare_L0 (n:Nat)  (v0_p:S_api_Prog):Nat→Int→(List S_api_Var)→Option (LR (List S_api_Var) S_api_Prog)
  | 0,_,_=>none
  | k3+1,s1,s2=>(bif decide (s1<((v0_p.f_Locs.length:Nat):Int)) then ((idx v0_p.f_Locs s1).bind fun x12=>(bif decide ((s2.length+1) * 33≤140737488355328) then (ref04_Bare_L0 n v0_p k3 (IntKind.i64.wrap (s1+1)) (s2++([(⟨x12.f_Name,x12.f_N,0⟩:S_api_Var)]:List S_api_Var))) else none)) else (some (.out s2)))
def ref04_Bare_L2 (n:Nat)  (v0_p:S_api_Prog) (s17:Int):Nat→Int→(List S_api_Stmt)→Option (LR (List S_api_Stmt) S_api_Prog)
  | 0,_,_=>none
  | k33+1,s31,s32=>((idx v0_p.f_Threads s17).bind fun x41=>(bif decide (s31<((x41.f_Body.length:Nat):Int)) then ((idx v0_p.f_Threads s17).bind fun x43=>((idx x43.f_Body s31).bind fun x44=>((m_ref04_nodes n x44.f_E).bind fun y45=>((m_ref04_nodes n x44.f_F).bind fun y47=>(bif decide ((s32.length+1) * 121≤140737488355328) then (ref04_Bare_L2 n v0_p s17 k33 (IntKind.i64.wrap (s31+1)) (s32++([(⟨x44.f_Kind,x44.f_Reg,x44.f_Loc,y45,y47,x44.f_Ne,x44.f_Body,x44.f_Else,0⟩:S_api_Stmt)]:List S_api_Stmt))) else none))))) else (some (.out s32))))
def ref04_Bare_L1 (n:Nat)  (v0_p:S_api_Prog):Nat→Int→(List S_api_Thread)→Option (LR (List S_api_Thread) S_api_Prog)
  | 0,_,_=>none
  | k19+1,s17,s18=>(bif decide (s17<((v0_p.f_Threads.length:Nat):Int)) then ((idx v0_p.f_Threads s17).bind fun x28=>((idx v0_p.f_Threads s17).bind fun x29=>(bif decide (x29.f_Regs.length * 17≤140737488355328) then ((ref04_Bare_L2 n v0_p s17 n 0 ([]:List S_api_Stmt)).bind fun o40=>match o40 with|.out x52=>(bif decide ((s18.length+1) * 73≤140737488355328) then (ref04_Bare_L1 n v0_p k19 (IntKind.i64.wrap (s17+1)) (s18++([(⟨x28.f_Name,x29.f_Regs,x52,0⟩:S_api_Thread)]:List S_api_Thread))) else none)|.ret v=>some (.ret v)) else none))) else (some (.out s18)))
def ref04_Bare_L3 (n:Nat)  (v0_p:S_api_Prog):Nat→Int→(List S_api_Claim)→Option (LR (List S_api_Claim) S_api_Prog)
  | 0,_,_=>none
  | k60+1,s58,s59=>(bif decide (s58<((v0_p.f_Claims.length:Nat):Int)) then ((idx v0_p.f_Claims s58).bind fun x69=>((idx v0_p.f_Claims s58).bind fun x70=>((m_ref04_nodes n x70.f_E).bind fun y71=>(bif decide ((s59.length+1) * 41≤140737488355328) then (ref04_Bare_L3 n v0_p k60 (IntKind.i64.wrap (s58+1)) (s59++([(⟨x69.f_Kind,y71,0⟩:S_api_Claim)]:List S_api_Claim))) else none)))) else (some (.out s59)))
def m_ref04_Bare:Nat→S_api_Prog→Option S_api_Prog
  | 0,_=>none
  | n+1,v0_p=>((ref04_Bare_L0 n v0_p n 0 ([]:List S_api_Var)).bind fun o10=>match o10 with|.out x16=>((ref04_Bare_L1 n v0_p n 0 ([]:List S_api_Thread)).bind fun o26=>match o26 with|.out x57=>((ref04_Bare_L3 n v0_p n 0 ([]:List S_api_Claim)).bind fun o67=>match o67 with|.out x76=>(some (⟨v0_p.f_Mod,x16,x57,x76⟩:S_api_Prog))|.ret v=>some v)|.ret v=>some v)|.ret v=>some v)
def m_prog_number:Nat→Int→Option Bool
  | 0,_=>none
  | n+1,v0_n=>(bif decide (0≤v0_n) then (some (decide (v0_n≤9999))) else (some false))
def m_prog_Right_1:Nat→Int→Int→(List S_api_Var)→(List S_api_Thread)→(List S_api_Claim)→Option Bool
  | 0,_,_,_,_,_=>none
  | n+1,v0_i,o0_Mod,o0_Locs,o0_Threads,o0_Claims=>((idx o0_Locs v0_i).bind fun x1=>((m_scan_Name n x1.f_Name).bind fun y2=>(bif y2 then ((m_prog_number n x1.f_N).bind fun y5=>(bif y5 then (some (decide (0≤x1.f_At))) else (some false))) else (some false))))
def prog_all_L0 (n:Nat)  (v0_n:Int) (o0_Mod:Int) (o0_Locs:(List S_api_Var)) (o0_Threads:(List S_api_Thread)) (o0_Claims:(List S_api_Claim)):Nat→Int→Option (LR Unit Bool)
  | 0,_=>none
  | k2+1,s1=>(bif decide (s1<v0_n) then ((m_prog_Right_1 n s1 o0_Mod o0_Locs o0_Threads o0_Claims).bind fun y11=>(bif y11 then (prog_all_L0 n v0_n o0_Mod o0_Locs o0_Threads o0_Claims k2 (IntKind.i64.wrap (s1+1))) else (some (.ret false)))) else (some (.out ())))
def m_prog_all:Nat→Int→Int→(List S_api_Var)→(List S_api_Thread)→(List S_api_Claim)→Option Bool
  | 0,_,_,_,_,_=>none
  | n+1,v0_n,o0_Mod,o0_Locs,o0_Threads,o0_Claims=>((prog_all_L0 n v0_n o0_Mod o0_Locs o0_Threads o0_Claims n 0).bind fun o9=>match o9 with|.out _=>(some true)|.ret v=>some v)
def m_prog_thread_1:Nat→Int→(List UInt8)→(List (List UInt8))→(List S_api_Stmt)→Int→Option Bool
  | 0,_,_,_,_,_=>none
  | n+1,v0_i,o0_Name,o0_Regs,o0_Body,o0_At=>((idx o0_Regs v0_i).bind fun x1=>((m_scan_Name n x1).bind fun y2=>(some y2)))
end Go.Proofs.YtgelgahilfojdaaGreat
end
section
namespace Go.Proofs.YtgelgahilfojdaaGreat
set_option linter.unusedVariables false
set_option linter.unusedSimpArgs false
set_option maxRecDepth 100000
set_option maxHeartbeats 4000000
def prog_all_3_L0 (n:Nat)  (v0_n:Int) (o0_Name:(List UInt8)) (o0_Regs:(List (List UInt8))) (o0_Body:(List S_api_Stmt)) (o0_At:Int):Nat→Int→Option (LR Unit Bool)
  | 0,_=>none
  | k2+1,s1=>(bif decide (s1<v0_n) then ((m_prog_thread_1 n s1 o0_Name o0_Regs o0_Body o0_At).bind fun y11=>(bif y11 then (prog_all_3_L0 n v0_n o0_Name o0_Regs o0_Body o0_At k2 (IntKind.i64.wrap (s1+1))) else (some (.ret false)))) else (some (.out ())))
def m_prog_all_3:Nat→Int→(List UInt8)→(List (List UInt8))→(List S_api_Stmt)→Int→Option Bool
  | 0,_,_,_,_,_=>none
  | n+1,v0_n,o0_Name,o0_Regs,o0_Body,o0_At=>((prog_all_3_L0 n v0_n o0_Name o0_Regs o0_Body o0_At n 0).bind fun o9=>match o9 with|.out _=>(some true)|.ret v=>some v)
def m_prog_thread:Nat→S_api_Thread→Option Bool
  | 0,_=>none
  | n+1,v0_t=>((m_scan_Name n v0_t.f_Name).bind fun y1=>(bif y1 then (bif decide (0≤v0_t.f_At) then ((m_stmt_Right n v0_t.f_Body).bind fun y5=>(bif y5 then ((m_prog_all_3 n ((v0_t.f_Regs.length:Nat):Int) v0_t.f_Name v0_t.f_Regs v0_t.f_Body v0_t.f_At).bind fun y8=>(some y8)) else (some false))) else (some false)) else (some false)))
def m_prog_Right_2:Nat→Int→Int→(List S_api_Var)→(List S_api_Thread)→(List S_api_Claim)→Option Bool
  | 0,_,_,_,_,_=>none
  | n+1,v0_i,o0_Mod,o0_Locs,o0_Threads,o0_Claims=>((idx o0_Threads v0_i).bind fun x1=>((m_prog_thread n x1).bind fun y2=>(some y2)))
def prog_all_1_L0 (n:Nat)  (v0_n:Int) (o0_Mod:Int) (o0_Locs:(List S_api_Var)) (o0_Threads:(List S_api_Thread)) (o0_Claims:(List S_api_Claim)):Nat→Int→Option (LR Unit Bool)
  | 0,_=>none
  | k2+1,s1=>(bif decide (s1<v0_n) then ((m_prog_Right_2 n s1 o0_Mod o0_Locs o0_Threads o0_Claims).bind fun y11=>(bif y11 then (prog_all_1_L0 n v0_n o0_Mod o0_Locs o0_Threads o0_Claims k2 (IntKind.i64.wrap (s1+1))) else (some (.ret false)))) else (some (.out ())))
def m_prog_all_1:Nat→Int→Int→(List S_api_Var)→(List S_api_Thread)→(List S_api_Claim)→Option Bool
  | 0,_,_,_,_,_=>none
  | n+1,v0_n,o0_Mod,o0_Locs,o0_Threads,o0_Claims=>((prog_all_1_L0 n v0_n o0_Mod o0_Locs o0_Threads o0_Claims n 0).bind fun o9=>match o9 with|.out _=>(some true)|.ret v=>some v)
def m_prog_word:Nat→Int→Option (List UInt8)
  | 0,_=>none
  | n+1,v0_kind=>(bif (v0_kind==1) then (some ([102,111,114,97,108,108]:List UInt8)) else (bif (v0_kind==2) then (some ([101,120,105,115,116,115]:List UInt8)) else (bif (v0_kind==3) then (some ([97,108,119,97,121,115]:List UInt8)) else (some ([]:List UInt8)))))
def prog_claim_L0 (n:Nat)  (y1:(List S_api_Node)):Nat→Int→Option (LR Unit Bool)
  | 0,_=>none
  | k4+1,s3=>(bif decide (s3<((y1.length:Nat):Int)) then ((idx y1 s3).bind fun x13=>(bif (x13.f_Op==2) then (some (.ret false)) else (prog_claim_L0 n y1 k4 (IntKind.i64.wrap (s3+1))))) else (some (.out ())))
def m_prog_claim:Nat→S_api_Claim→Option Bool
  | 0,_=>none
  | n+1,v0_c=>((m_expr_Names n v0_c.f_E).bind fun y1=>((prog_claim_L0 n y1 n 0).bind fun o11=>match o11 with|.out _=>((m_prog_word n v0_c.f_Kind).bind fun y16=>(bif (y16==([]:List UInt8)) then (some false) else ((m_expr_Right n v0_c.f_E).bind fun y19=>(bif y19 then (some (decide (0≤v0_c.f_At))) else (some false)))))|.ret v=>some v))
def m_prog_Right_3:Nat→Int→Int→(List S_api_Var)→(List S_api_Thread)→(List S_api_Claim)→Option Bool
  | 0,_,_,_,_,_=>none
  | n+1,v0_i,o0_Mod,o0_Locs,o0_Threads,o0_Claims=>((idx o0_Claims v0_i).bind fun x1=>((m_prog_claim n x1).bind fun y2=>(some y2)))
def prog_all_2_L0 (n:Nat)  (v0_n:Int) (o0_Mod:Int) (o0_Locs:(List S_api_Var)) (o0_Threads:(List S_api_Thread)) (o0_Claims:(List S_api_Claim)):Nat→Int→Option (LR Unit Bool)
  | 0,_=>none
  | k2+1,s1=>(bif decide (s1<v0_n) then ((m_prog_Right_3 n s1 o0_Mod o0_Locs o0_Threads o0_Claims).bind fun y11=>(bif y11 then (prog_all_2_L0 n v0_n o0_Mod o0_Locs o0_Threads o0_Claims k2 (IntKind.i64.wrap (s1+1))) else (some (.ret false)))) else (some (.out ())))
def m_prog_all_2:Nat→Int→Int→(List S_api_Var)→(List S_api_Thread)→(List S_api_Claim)→Option Bool
  | 0,_,_,_,_,_=>none
  | n+1,v0_n,o0_Mod,o0_Locs,o0_Threads,o0_Claims=>((prog_all_2_L0 n v0_n o0_Mod o0_Locs o0_Threads o0_Claims n 0).bind fun o9=>match o9 with|.out _=>(some true)|.ret v=>some v)
def m_prog_Right:Nat→S_api_Prog→Option Bool
  | 0,_=>none
  | n+1,v0_p=>((m_prog_all n ((v0_p.f_Locs.length:Nat):Int) v0_p.f_Mod v0_p.f_Locs v0_p.f_Threads v0_p.f_Claims).bind fun y1=>((m_prog_number n v0_p.f_Mod).bind fun y3=>(bif y3 then (bif y1 then ((m_prog_all_1 n ((v0_p.f_Threads.length:Nat):Int) v0_p.f_Mod v0_p.f_Locs v0_p.f_Threads v0_p.f_Claims).bind fun y7=>(bif y7 then ((m_prog_all_2 n ((v0_p.f_Claims.length:Nat):Int) v0_p.f_Mod v0_p.f_Locs v0_p.f_Threads v0_p.f_Claims).bind fun y10=>(some y10)) else (some false))) else (some false)) else (some false))))
def m_prog_decimal:Nat→Int→Option (List UInt8)
  | 0,_=>none
  | n+1,v0_n=>(bif decide (v0_n<10) then (some ([UInt8.ofNat (IntKind.u8.wrap (IntKind.i64.wrap (48+v0_n))).toNat]:List UInt8)) else (((m_prog_decimal n) (IntKind.i64.wrap (Int.tdiv v0_n 10))).bind fun y2=>(bif decide (y2.length+(([UInt8.ofNat (IntKind.u8.wrap (IntKind.i64.wrap (48+(Int.tmod v0_n 10)))).toNat]:List UInt8)).length≤140737488355328) then (some (y2++([UInt8.ofNat (IntKind.u8.wrap (IntKind.i64.wrap (48+(Int.tmod v0_n 10)))).toNat]:List UInt8))) else none)))
def prog_Show_L0 (n:Nat)  (v0_p:S_api_Prog):Nat→(List UInt8)→Int→Option (LR (List UInt8) (List UInt8))
  | 0,_,_=>none
  | k10+1,s8,s9=>(bif decide (s9<((v0_p.f_Locs.length:Nat):Int)) then ((idx v0_p.f_Locs s9).bind fun x19=>(bif decide ((([108,111,99,32]:List UInt8)).length+x19.f_Name.length≤140737488355328) then (bif decide (((([108,111,99,32]:List UInt8)++x19.f_Name)).length+(([32,61,32]:List UInt8)).length≤140737488355328) then ((m_prog_decimal n x19.f_N).bind fun y22=>(bif decide ((((([108,111,99,32]:List UInt8)++x19.f_Name)++([32,61,32]:List UInt8))).length+y22.length≤140737488355328) then (bif decide (((((([108,111,99,32]:List UInt8)++x19.f_Name)++([32,61,32]:List UInt8))++y22)).length+(([59,10]:List UInt8)).length≤140737488355328) then (bif decide (s8.length+(((((([108,111,99,32]:List UInt8)++x19.f_Name)++([32,61,32]:List UInt8))++y22)++([59,10]:List UInt8))).length≤140737488355328) then (prog_Show_L0 n v0_p k10 (s8++((((([108,111,99,32]:List UInt8)++x19.f_Name)++([32,61,32]:List UInt8))++y22)++([59,10]:List UInt8))) (IntKind.i64.wrap (s9+1))) else none) else none) else none)) else none) else none)) else (some (.out s8)))
def prog_Show_L2 (n:Nat)  (x40:S_api_Thread):Nat→(List UInt8)→(List UInt8)→Int→Option (LR (List UInt8) (List UInt8))
  | 0,_,_,_=>none
  | k47+1,s44,s45,s46=>(bif decide (s46<((x40.f_Regs.length:Nat):Int)) then ((idx x40.f_Regs s46).bind fun x56=>(bif decide (s45.length+x56.length≤140737488355328) then (bif decide (s44.length+((s45++x56)).length≤140737488355328) then (prog_Show_L2 n x40 k47 (s44++(s45++x56)) ([44,32]:List UInt8) (IntKind.i64.wrap (s46+1))) else none) else none)) else (some (.out s44)))
def prog_Show_L1 (n:Nat)  (v0_p:S_api_Prog):Nat→(List UInt8)→Int→Option (LR (List UInt8) (List UInt8))
  | 0,_,_=>none
  | k31+1,s29,s30=>(bif decide (s30<((v0_p.f_Threads.length:Nat):Int)) then ((idx v0_p.f_Threads s30).bind fun x40=>(bif decide ((([116,104,114,101,97,100,32]:List UInt8)).length+x40.f_Name.length≤140737488355328) then (bif decide (((([116,104,114,101,97,100,32]:List UInt8)++x40.f_Name)).length+(([32,123,10]:List UInt8)).length≤140737488355328) then (bif decide (s29.length+(((([116,104,114,101,97,100,32]:List UInt8)++x40.f_Name)++([32,123,10]:List UInt8))).length≤140737488355328) then ((prog_Show_L2 n x40 n (s29++((([116,104,114,101,97,100,32]:List UInt8)++x40.f_Name)++([32,123,10]:List UInt8))) ([32,32,114,101,103,32]:List UInt8) 0).bind fun o54=>match o54 with|.out x60=>(bif decide (0<((x40.f_Regs.length:Nat):Int)) then (bif decide (x60.length+(([59,10]:List UInt8)).length≤140737488355328) then ((m_stmt_Show n x40.f_Body 1).bind fun y63=>(bif decide (y63.length+(([125,10]:List UInt8)).length≤140737488355328) then (bif decide (((x60++([59,10]:List UInt8))).length+((y63++([125,10]:List UInt8))).length≤140737488355328) then (prog_Show_L1 n v0_p k31 ((x60++([59,10]:List UInt8))++(y63++([125,10]:List UInt8))) (IntKind.i64.wrap (s30+1))) else none) else none)) else none) else ((m_stmt_Show n x40.f_Body 1).bind fun y67=>(bif decide (y67.length+(([125,10]:List UInt8)).length≤140737488355328) then (bif decide (x60.length+((y67++([125,10]:List UInt8))).length≤140737488355328) then (prog_Show_L1 n v0_p k31 (x60++(y67++([125,10]:List UInt8))) (IntKind.i64.wrap (s30+1))) else none) else none)))|.ret v=>some (.ret v)) else none) else none) else none)) else (some (.out s29)))
def prog_Show_L3 (n:Nat)  (v0_p:S_api_Prog):Nat→(List UInt8)→Int→Option (LR (List UInt8) (List UInt8))
  | 0,_,_=>none
  | k76+1,s74,s75=>(bif decide (s75<((v0_p.f_Claims.length:Nat):Int)) then ((idx v0_p.f_Claims s75).bind fun x85=>((m_prog_word n x85.f_Kind).bind fun y86=>(bif decide (y86.length+(([32]:List UInt8)).length≤140737488355328) then ((m_expr_Show n x85.f_E).bind fun y89=>(bif decide (((y86++([32]:List UInt8))).length+y89.length≤140737488355328) then (bif decide ((((y86++([32]:List UInt8))++y89)).length+(([59,10]:List UInt8)).length≤140737488355328) then (bif decide (s74.length+((((y86++([32]:List UInt8))++y89)++([59,10]:List UInt8))).length≤140737488355328) then (prog_Show_L3 n v0_p k76 (s74++(((y86++([32]:List UInt8))++y89)++([59,10]:List UInt8))) (IntKind.i64.wrap (s75+1))) else none) else none) else none)) else none))) else (some (.out s74)))
def m_prog_Show:Nat→S_api_Prog→Option (List UInt8)
  | 0,_=>none
  | n+1,v0_p=>((m_prog_Right n v0_p).bind fun y1=>(bif y1 then ((m_prog_decimal n v0_p.f_Mod).bind fun y4=>(bif decide ((([109,111,100,32]:List UInt8)).length+y4.length≤140737488355328) then (bif decide (((([109,111,100,32]:List UInt8)++y4)).length+(([59,10]:List UInt8)).length≤140737488355328) then ((prog_Show_L0 n v0_p n ((([109,111,100,32]:List UInt8)++y4)++([59,10]:List UInt8)) 0).bind fun o17=>match o17 with|.out x28=>((prog_Show_L1 n v0_p n x28 0).bind fun o38=>match o38 with|.out x73=>((prog_Show_L3 n v0_p n x73 0).bind fun o83=>match o83 with|.out x95=>(some x95)|.ret v=>some v)|.ret v=>some v)|.ret v=>some v) else none) else none)) else (some ([]:List UInt8))))
def m_gen_kinds:Nat→Option ((List (List UInt8))×(List (List UInt8))×Bool×(List (List UInt8))×(List (List UInt8))×Bool×(List (List UInt8))×(List (List UInt8))×Bool×(List (List UInt8))×(List (List UInt8))×Bool)
  | 0=>none
  | n+1=>(some (([]:List (List UInt8)),([]:List (List UInt8)),false,([([108]:List UInt8),([99]:List UInt8)]:List (List UInt8)),([([97]:List UInt8),([99,115]:List UInt8)]:List (List UInt8)),true,([([110,101,120,116]:List UInt8),([110,111,119]:List UInt8),([99]:List UInt8)]:List (List UInt8)),([([97]:List UInt8),([98]:List UInt8),([99,115]:List UInt8)]:List (List UInt8)),true,([([99]:List UInt8)]:List (List UInt8)),([([97]:List UInt8)]:List (List UInt8)),false))
def m_gen_num:Nat→Int→Option (List S_api_Node)
  | 0,_=>none
  | n+1,v0_n=>(some ([(⟨1,v0_n,([]:List UInt8),([]:List UInt8),0⟩:S_api_Node)]:List S_api_Node))
def m_gen_reg:Nat→(List UInt8)→Option (List S_api_Node)
  | 0,_=>none
  | n+1,v0_name=>(some ([(⟨2,0,v0_name,([]:List UInt8),0⟩:S_api_Node)]:List S_api_Node))
def m_gen_two:Nat→Int→(List S_api_Node)→(List S_api_Node)→Option (List S_api_Node)
  | 0,_,_,_=>none
  | n+1,v0_op,v1_a,v2_b=>(bif decide (((([(⟨v0_op,0,([]:List UInt8),([]:List UInt8),0⟩:S_api_Node)]:List S_api_Node)).length+v1_a.length) * 57≤140737488355328) then (bif decide ((((([(⟨v0_op,0,([]:List UInt8),([]:List UInt8),0⟩:S_api_Node)]:List S_api_Node)++v1_a)).length+v2_b.length) * 57≤140737488355328) then (some ((([(⟨v0_op,0,([]:List UInt8),([]:List UInt8),0⟩:S_api_Node)]:List S_api_Node)++v1_a)++v2_b)) else none) else none)
def m_gen_alone:Nat→(List UInt8)→(List S_api_Stmt)→Option (List S_api_Stmt)
  | 0,_,_=>none
  | n+1,v0_r,v1_then=>((m_gen_num n 1).bind fun y1=>((m_gen_reg n v0_r).bind fun y3=>((m_gen_num n 1).bind fun y5=>((m_gen_two n 6 y3 y5).bind fun y7=>((m_gen_num n 0).bind fun y9=>(bif decide (((([(⟨2,([99,115]:List UInt8),([]:List UInt8),y1,([]:List S_api_Node),false,0,0,0⟩:S_api_Stmt),(⟨3,v0_r,([99]:List UInt8),([]:List S_api_Node),([]:List S_api_Node),false,0,0,0⟩:S_api_Stmt),(⟨4,([]:List UInt8),([99]:List UInt8),y7,([]:List S_api_Node),false,0,0,0⟩:S_api_Stmt),(⟨2,([99,115]:List UInt8),([]:List UInt8),y9,([]:List S_api_Node),false,0,0,0⟩:S_api_Stmt),(⟨8,([]:List UInt8),([]:List UInt8),([]:List S_api_Node),([]:List S_api_Node),false,0,0,0⟩:S_api_Stmt)]:List S_api_Stmt)).length+v1_then.length) * 121≤140737488355328) then (some (([(⟨2,([99,115]:List UInt8),([]:List UInt8),y1,([]:List S_api_Node),false,0,0,0⟩:S_api_Stmt),(⟨3,v0_r,([99]:List UInt8),([]:List S_api_Node),([]:List S_api_Node),false,0,0,0⟩:S_api_Stmt),(⟨4,([]:List UInt8),([99]:List UInt8),y7,([]:List S_api_Node),false,0,0,0⟩:S_api_Stmt),(⟨2,([99,115]:List UInt8),([]:List UInt8),y9,([]:List S_api_Node),false,0,0,0⟩:S_api_Stmt),(⟨8,([]:List UInt8),([]:List UInt8),([]:List S_api_Node),([]:List S_api_Node),false,0,0,0⟩:S_api_Stmt)]:List S_api_Stmt)++v1_then)) else none))))))
def m_gen_kinds_1:Nat→Int→Option (List S_api_Stmt)
  | 0,_=>none
  | n+1,v0_=>((m_gen_num n 1).bind fun y1=>((m_gen_reg n ([97]:List UInt8)).bind fun y3=>((m_gen_num n 0).bind fun y5=>((m_gen_two n 10 y3 y5).bind fun y7=>((m_gen_num n 1).bind fun y9=>((m_gen_num n 0).bind fun y11=>((m_gen_alone n ([97]:List UInt8) ([(⟨4,([]:List UInt8),([108]:List UInt8),y11,([]:List S_api_Node),false,0,0,0⟩:S_api_Stmt)]:List S_api_Stmt)).bind fun y13=>(bif decide (((([(⟨2,([97]:List UInt8),([]:List UInt8),y1,([]:List S_api_Node),false,0,0,0⟩:S_api_Stmt),(⟨11,([]:List UInt8),([]:List UInt8),y7,([]:List S_api_Node),false,1,0,0⟩:S_api_Stmt),(⟨7,([97]:List UInt8),([108]:List UInt8),y9,([]:List S_api_Node),false,0,0,0⟩:S_api_Stmt)]:List S_api_Stmt)).length+y13.length) * 121≤140737488355328) then (some (([(⟨2,([97]:List UInt8),([]:List UInt8),y1,([]:List S_api_Node),false,0,0,0⟩:S_api_Stmt),(⟨11,([]:List UInt8),([]:List UInt8),y7,([]:List S_api_Node),false,1,0,0⟩:S_api_Stmt),(⟨7,([97]:List UInt8),([108]:List UInt8),y9,([]:List S_api_Node),false,0,0,0⟩:S_api_Stmt)]:List S_api_Stmt)++y13)) else none))))))))
def m_gen_kinds_2:Nat→Int→Option (List S_api_Stmt)
  | 0,_=>none
  | n+1,v0_=>((m_gen_num n 1).bind fun y1=>((m_gen_reg n ([97]:List UInt8)).bind fun y3=>((m_gen_reg n ([97]:List UInt8)).bind fun y5=>((m_gen_num n 1).bind fun y7=>((m_gen_two n 6 y5 y7).bind fun y9=>((m_gen_alone n ([98]:List UInt8) ([(⟨4,([]:List UInt8),([110,111,119]:List UInt8),y9,([]:List S_api_Node),false,0,0,0⟩:S_api_Stmt)]:List S_api_Stmt)).bind fun y11=>(bif decide (((([(⟨6,([97]:List UInt8),([110,101,120,116]:List UInt8),y1,([]:List S_api_Node),false,0,0,0⟩:S_api_Stmt),(⟨9,([]:List UInt8),([110,111,119]:List UInt8),y3,([]:List S_api_Node),false,0,0,0⟩:S_api_Stmt)]:List S_api_Stmt)).length+y11.length) * 121≤140737488355328) then (some (([(⟨6,([97]:List UInt8),([110,101,120,116]:List UInt8),y1,([]:List S_api_Node),false,0,0,0⟩:S_api_Stmt),(⟨9,([]:List UInt8),([110,111,119]:List UInt8),y3,([]:List S_api_Node),false,0,0,0⟩:S_api_Stmt)]:List S_api_Stmt)++y11)) else none)))))))
def m_gen_kinds_3:Nat→Int→Option (List S_api_Stmt)
  | 0,_=>none
  | n+1,v0_n=>((m_gen_num n 1).bind fun y1=>((m_gen_num n v0_n).bind fun y3=>(some ([(⟨6,([97]:List UInt8),([99]:List UInt8),y1,([]:List S_api_Node),false,0,0,0⟩:S_api_Stmt),(⟨9,([]:List UInt8),([99]:List UInt8),y3,([]:List S_api_Node),false,0,0,0⟩:S_api_Stmt)]:List S_api_Stmt))))
def m_gen_loc:Nat→(List UInt8)→Option (List S_api_Node)
  | 0,_=>none
  | n+1,v0_name=>(some ([(⟨3,0,v0_name,([]:List UInt8),0⟩:S_api_Node)]:List S_api_Node))
def m_gen_of:Nat→(List UInt8)→(List UInt8)→Option (List S_api_Node)
  | 0,_,_=>none
  | n+1,v0_thread,v1_name=>(some ([(⟨4,0,v1_name,v0_thread,0⟩:S_api_Node)]:List S_api_Node))
def gen_Make_L0 (n:Nat)  (y1:((List (List UInt8))×(List (List UInt8))×Bool×(List (List UInt8))×(List (List UInt8))×Bool×(List (List UInt8))×(List (List UInt8))×Bool×(List (List UInt8))×(List (List UInt8))×Bool)):Nat→Int→(List S_api_Var)→Option (LR (List S_api_Var) (S_api_Prog×Int))
  | 0,_,_=>none
  | k12+1,s10,s11=>(bif decide (s10<((y1.1.length:Nat):Int)) then ((idx y1.1 s10).bind fun x21=>(bif decide ((s11.length+1) * 33≤140737488355328) then (gen_Make_L0 n y1 k12 (IntKind.i64.wrap (s10+1)) (s11++([(⟨x21,0,0⟩:S_api_Var)]:List S_api_Var))) else none)) else (some (.out s11)))
def gen_Make_L1 (n:Nat)  (v1_n:Int):Nat→Option (LR Unit (S_api_Prog×Int))
  | 0=>none
  | k26+1=>(bif decide (0<v1_n) then none else (some (.out ())))
def gen_Make_L2 (n:Nat)  (y1:((List (List UInt8))×(List (List UInt8))×Bool×(List (List UInt8))×(List (List UInt8))×Bool×(List (List UInt8))×(List (List UInt8))×Bool×(List (List UInt8))×(List (List UInt8))×Bool)):Nat→Int→(List S_api_Var)→Option (LR (List S_api_Var) (S_api_Prog×Int))
  | 0,_,_=>none
  | k65+1,s63,s64=>(bif decide (s63<((y1.2.2.2.1.length:Nat):Int)) then ((idx y1.2.2.2.1 s63).bind fun x74=>(bif decide ((s64.length+1) * 33≤140737488355328) then (gen_Make_L2 n y1 k65 (IntKind.i64.wrap (s63+1)) (s64++([(⟨x74,0,0⟩:S_api_Var)]:List S_api_Var))) else none)) else (some (.out s64)))
def gen_Make_L3 (n:Nat)  (v1_n:Int) (y1:((List (List UInt8))×(List (List UInt8))×Bool×(List (List UInt8))×(List (List UInt8))×Bool×(List (List UInt8))×(List (List UInt8))×Bool×(List (List UInt8))×(List (List UInt8))×Bool)):Nat→(List S_api_Node)→Int→(List S_api_Thread)→Option (LR ((List S_api_Node)×(List S_api_Thread)) (S_api_Prog×Int))
  | 0,_,_,_=>none
  | k82+1,s79,s80,s81=>(bif decide (s80<v1_n) then (bif (decide (0≤(IntKind.i32.wrap (IntKind.i64.wrap (48+s80))))&&decide ((IntKind.i32.wrap (IntKind.i64.wrap (48+s80)))<128)) then (bif decide ((([116]:List UInt8)).length+(([UInt8.ofNat (IntKind.i32.wrap (IntKind.i64.wrap (48+s80))).toNat])).length≤140737488355328) then (bif decide (y1.2.2.2.2.1.length * 17≤140737488355328) then ((m_gen_kinds_1 n v1_n).bind fun y94=>(bif decide ((s81.length+1) * 73≤140737488355328) then ((m_gen_of n (([116]:List UInt8)++([UInt8.ofNat (IntKind.i32.wrap (IntKind.i64.wrap (48+s80))).toNat])) ([99,115]:List UInt8)).bind fun y98=>(bif decide (0<s80) then ((m_gen_two n 6 s79 y98).bind fun y101=>(gen_Make_L3 n v1_n y1 k82 y101 (IntKind.i64.wrap (s80+1)) (s81++([(⟨(([116]:List UInt8)++([UInt8.ofNat (IntKind.i32.wrap (IntKind.i64.wrap (48+s80))).toNat])),y1.2.2.2.2.1,y94,0⟩:S_api_Thread)]:List S_api_Thread)))) else (gen_Make_L3 n v1_n y1 k82 y98 (IntKind.i64.wrap (s80+1)) (s81++([(⟨(([116]:List UInt8)++([UInt8.ofNat (IntKind.i32.wrap (IntKind.i64.wrap (48+s80))).toNat])),y1.2.2.2.2.1,y94,0⟩:S_api_Thread)]:List S_api_Thread))))) else none)) else none) else none) else none) else (some (.out (s79,s81))))
def gen_Make_L4 (n:Nat)  (y1:((List (List UInt8))×(List (List UInt8))×Bool×(List (List UInt8))×(List (List UInt8))×Bool×(List (List UInt8))×(List (List UInt8))×Bool×(List (List UInt8))×(List (List UInt8))×Bool)):Nat→Int→(List S_api_Var)→Option (LR (List S_api_Var) (S_api_Prog×Int))
  | 0,_,_=>none
  | k134+1,s132,s133=>(bif decide (s132<((y1.2.2.2.2.2.2.1.length:Nat):Int)) then ((idx y1.2.2.2.2.2.2.1 s132).bind fun x143=>(bif decide ((s133.length+1) * 33≤140737488355328) then (gen_Make_L4 n y1 k134 (IntKind.i64.wrap (s132+1)) (s133++([(⟨x143,0,0⟩:S_api_Var)]:List S_api_Var))) else none)) else (some (.out s133)))
def gen_Make_L5 (n:Nat)  (v1_n:Int) (y1:((List (List UInt8))×(List (List UInt8))×Bool×(List (List UInt8))×(List (List UInt8))×Bool×(List (List UInt8))×(List (List UInt8))×Bool×(List (List UInt8))×(List (List UInt8))×Bool)):Nat→(List S_api_Node)→Int→(List S_api_Thread)→Option (LR ((List S_api_Node)×(List S_api_Thread)) (S_api_Prog×Int))
  | 0,_,_,_=>none
  | k151+1,s148,s149,s150=>(bif decide (s149<v1_n) then (bif (decide (0≤(IntKind.i32.wrap (IntKind.i64.wrap (48+s149))))&&decide ((IntKind.i32.wrap (IntKind.i64.wrap (48+s149)))<128)) then (bif decide ((([116]:List UInt8)).length+(([UInt8.ofNat (IntKind.i32.wrap (IntKind.i64.wrap (48+s149))).toNat])).length≤140737488355328) then (bif decide (y1.2.2.2.2.2.2.2.1.length * 17≤140737488355328) then ((m_gen_kinds_2 n v1_n).bind fun y163=>(bif decide ((s150.length+1) * 73≤140737488355328) then ((m_gen_of n (([116]:List UInt8)++([UInt8.ofNat (IntKind.i32.wrap (IntKind.i64.wrap (48+s149))).toNat])) ([99,115]:List UInt8)).bind fun y167=>(bif decide (0<s149) then ((m_gen_two n 6 s148 y167).bind fun y170=>(gen_Make_L5 n v1_n y1 k151 y170 (IntKind.i64.wrap (s149+1)) (s150++([(⟨(([116]:List UInt8)++([UInt8.ofNat (IntKind.i32.wrap (IntKind.i64.wrap (48+s149))).toNat])),y1.2.2.2.2.2.2.2.1,y163,0⟩:S_api_Thread)]:List S_api_Thread)))) else (gen_Make_L5 n v1_n y1 k151 y167 (IntKind.i64.wrap (s149+1)) (s150++([(⟨(([116]:List UInt8)++([UInt8.ofNat (IntKind.i32.wrap (IntKind.i64.wrap (48+s149))).toNat])),y1.2.2.2.2.2.2.2.1,y163,0⟩:S_api_Thread)]:List S_api_Thread))))) else none)) else none) else none) else none) else (some (.out (s148,s150))))
def gen_Make_L6 (n:Nat)  (y1:((List (List UInt8))×(List (List UInt8))×Bool×(List (List UInt8))×(List (List UInt8))×Bool×(List (List UInt8))×(List (List UInt8))×Bool×(List (List UInt8))×(List (List UInt8))×Bool)):Nat→Int→(List S_api_Var)→Option (LR (List S_api_Var) (S_api_Prog×Int))
  | 0,_,_=>none
  | k203+1,s201,s202=>(bif decide (s201<((y1.2.2.2.2.2.2.2.2.2.1.length:Nat):Int)) then ((idx y1.2.2.2.2.2.2.2.2.2.1 s201).bind fun x212=>(bif decide ((s202.length+1) * 33≤140737488355328) then (gen_Make_L6 n y1 k203 (IntKind.i64.wrap (s201+1)) (s202++([(⟨x212,0,0⟩:S_api_Var)]:List S_api_Var))) else none)) else (some (.out s202)))
def gen_Make_L7 (n:Nat)  (v1_n:Int) (y1:((List (List UInt8))×(List (List UInt8))×Bool×(List (List UInt8))×(List (List UInt8))×Bool×(List (List UInt8))×(List (List UInt8))×Bool×(List (List UInt8))×(List (List UInt8))×Bool)):Nat→(List S_api_Node)→Int→(List S_api_Thread)→Option (LR ((List S_api_Node)×(List S_api_Thread)) (S_api_Prog×Int))
  | 0,_,_,_=>none
  | k220+1,s217,s218,s219=>(bif decide (s218<v1_n) then (bif (decide (0≤(IntKind.i32.wrap (IntKind.i64.wrap (48+s218))))&&decide ((IntKind.i32.wrap (IntKind.i64.wrap (48+s218)))<128)) then (bif decide ((([116]:List UInt8)).length+(([UInt8.ofNat (IntKind.i32.wrap (IntKind.i64.wrap (48+s218))).toNat])).length≤140737488355328) then (bif decide (y1.2.2.2.2.2.2.2.2.2.2.1.length * 17≤140737488355328) then ((m_gen_kinds_3 n v1_n).bind fun y232=>(bif decide ((s219.length+1) * 73≤140737488355328) then ((m_gen_of n (([116]:List UInt8)++([UInt8.ofNat (IntKind.i32.wrap (IntKind.i64.wrap (48+s218))).toNat])) ([99,115]:List UInt8)).bind fun y236=>(bif decide (0<s218) then ((m_gen_two n 6 s217 y236).bind fun y239=>(gen_Make_L7 n v1_n y1 k220 y239 (IntKind.i64.wrap (s218+1)) (s219++([(⟨(([116]:List UInt8)++([UInt8.ofNat (IntKind.i32.wrap (IntKind.i64.wrap (48+s218))).toNat])),y1.2.2.2.2.2.2.2.2.2.2.1,y232,0⟩:S_api_Thread)]:List S_api_Thread)))) else (gen_Make_L7 n v1_n y1 k220 y236 (IntKind.i64.wrap (s218+1)) (s219++([(⟨(([116]:List UInt8)++([UInt8.ofNat (IntKind.i32.wrap (IntKind.i64.wrap (48+s218))).toNat])),y1.2.2.2.2.2.2.2.2.2.2.1,y232,0⟩:S_api_Thread)]:List S_api_Thread))))) else none)) else none) else none) else none) else (some (.out (s217,s219))))
def m_gen_Make:Nat→Int→Int→Int→Option (S_api_Prog×Int)
  | 0,_,_,_=>none
  | n+1,v0_which,v1_n,v2_mod=>((m_gen_kinds n ).bind fun y1=>(bif decide (v0_which<1) then (some ((⟨0,([]:List S_api_Var),([]:List S_api_Thread),([]:List S_api_Claim)⟩:S_api_Prog),1)) else (bif decide (4≤v0_which) then (some ((⟨0,([]:List S_api_Var),([]:List S_api_Thread),([]:List S_api_Claim)⟩:S_api_Prog),1)) else (bif decide (v1_n<1) then (some ((⟨0,([]:List S_api_Var),([]:List S_api_Thread),([]:List S_api_Claim)⟩:S_api_Prog),1)) else (bif decide (4<v1_n) then (some ((⟨0,([]:List S_api_Var),([]:List S_api_Thread),([]:List S_api_Claim)⟩:S_api_Prog),1)) else (bif decide (v2_mod≤v1_n) then (some ((⟨0,([]:List S_api_Var),([]:List S_api_Thread),([]:List S_api_Claim)⟩:S_api_Prog),1)) else (bif decide (16<v2_mod) then (some ((⟨0,([]:List S_api_Var),([]:List S_api_Thread),([]:List S_api_Claim)⟩:S_api_Prog),1)) else (bif decide (v0_which=((0:Nat):Int)) then ((gen_Make_L0 n y1 n 0 ([]:List S_api_Var)).bind fun o19=>match o19 with|.out x25=>((gen_Make_L1 n v1_n n).bind fun o33=>match o33 with|.out _=>(bif y1.2.2.1 then ((m_gen_num n 1).bind fun y38=>((m_gen_two n 12 ([]:List S_api_Node) y38).bind fun y40=>((m_gen_loc n ([99]:List UInt8)).bind fun y44=>((m_gen_num n v1_n).bind fun y46=>((m_gen_two n 9 y44 y46).bind fun y48=>(bif decide ((((([]:List S_api_Claim)++([(⟨3,y40,0⟩:S_api_Claim)]:List S_api_Claim))).length+1) * 41≤140737488355328) then (some ((⟨v2_mod,x25,([]:List S_api_Thread),((([]:List S_api_Claim)++([(⟨3,y40,0⟩:S_api_Claim)]:List S_api_Claim))++([(⟨1,y48,0⟩:S_api_Claim)]:List S_api_Claim))⟩:S_api_Prog),0)) else none)))))) else ((m_gen_loc n ([99]:List UInt8)).bind fun y52=>((m_gen_num n v1_n).bind fun y54=>((m_gen_two n 9 y52 y54).bind fun y56=>(some ((⟨v2_mod,x25,([]:List S_api_Thread),(([]:List S_api_Claim)++([(⟨1,y56,0⟩:S_api_Claim)]:List S_api_Claim))⟩:S_api_Prog),0))))))|.ret v=>some v)|.ret v=>some v) else (bif decide (v0_which=((1:Nat):Int)) then ((gen_Make_L2 n y1 n 0 ([]:List S_api_Var)).bind fun o72=>match o72 with|.out x78=>((gen_Make_L3 n v1_n y1 n ([]:List S_api_Node) 0 ([]:List S_api_Thread)).bind fun o89=>match o89 with|.out (x104,x105)=>(bif y1.2.2.2.2.2.1 then ((m_gen_num n 1).bind fun y107=>((m_gen_two n 12 x104 y107).bind fun y109=>((m_gen_loc n ([99]:List UInt8)).bind fun y113=>((m_gen_num n v1_n).bind fun y115=>((m_gen_two n 9 y113 y115).bind fun y117=>(bif decide ((((([]:List S_api_Claim)++([(⟨3,y109,0⟩:S_api_Claim)]:List S_api_Claim))).length+1) * 41≤140737488355328) then (some ((⟨v2_mod,x78,x105,((([]:List S_api_Claim)++([(⟨3,y109,0⟩:S_api_Claim)]:List S_api_Claim))++([(⟨1,y117,0⟩:S_api_Claim)]:List S_api_Claim))⟩:S_api_Prog),0)) else none)))))) else ((m_gen_loc n ([99]:List UInt8)).bind fun y121=>((m_gen_num n v1_n).bind fun y123=>((m_gen_two n 9 y121 y123).bind fun y125=>(some ((⟨v2_mod,x78,x105,(([]:List S_api_Claim)++([(⟨1,y125,0⟩:S_api_Claim)]:List S_api_Claim))⟩:S_api_Prog),0))))))|.ret v=>some v)|.ret v=>some v) else (bif decide (v0_which=((2:Nat):Int)) then ((gen_Make_L4 n y1 n 0 ([]:List S_api_Var)).bind fun o141=>match o141 with|.out x147=>((gen_Make_L5 n v1_n y1 n ([]:List S_api_Node) 0 ([]:List S_api_Thread)).bind fun o158=>match o158 with|.out (x173,x174)=>(bif y1.2.2.2.2.2.2.2.2.1 then ((m_gen_num n 1).bind fun y176=>((m_gen_two n 12 x173 y176).bind fun y178=>((m_gen_loc n ([99]:List UInt8)).bind fun y182=>((m_gen_num n v1_n).bind fun y184=>((m_gen_two n 9 y182 y184).bind fun y186=>(bif decide ((((([]:List S_api_Claim)++([(⟨3,y178,0⟩:S_api_Claim)]:List S_api_Claim))).length+1) * 41≤140737488355328) then (some ((⟨v2_mod,x147,x174,((([]:List S_api_Claim)++([(⟨3,y178,0⟩:S_api_Claim)]:List S_api_Claim))++([(⟨1,y186,0⟩:S_api_Claim)]:List S_api_Claim))⟩:S_api_Prog),0)) else none)))))) else ((m_gen_loc n ([99]:List UInt8)).bind fun y190=>((m_gen_num n v1_n).bind fun y192=>((m_gen_two n 9 y190 y192).bind fun y194=>(some ((⟨v2_mod,x147,x174,(([]:List S_api_Claim)++([(⟨1,y194,0⟩:S_api_Claim)]:List S_api_Claim))⟩:S_api_Prog),0))))))|.ret v=>some v)|.ret v=>some v) else (bif decide (v0_which=((3:Nat):Int)) then ((gen_Make_L6 n y1 n 0 ([]:List S_api_Var)).bind fun o210=>match o210 with|.out x216=>((gen_Make_L7 n v1_n y1 n ([]:List S_api_Node) 0 ([]:List S_api_Thread)).bind fun o227=>match o227 with|.out (x242,x243)=>(bif y1.2.2.2.2.2.2.2.2.2.2.2 then ((m_gen_num n 1).bind fun y245=>((m_gen_two n 12 x242 y245).bind fun y247=>((m_gen_loc n ([99]:List UInt8)).bind fun y251=>((m_gen_num n v1_n).bind fun y253=>((m_gen_two n 9 y251 y253).bind fun y255=>(bif decide ((((([]:List S_api_Claim)++([(⟨3,y247,0⟩:S_api_Claim)]:List S_api_Claim))).length+1) * 41≤140737488355328) then (some ((⟨v2_mod,x216,x243,((([]:List S_api_Claim)++([(⟨3,y247,0⟩:S_api_Claim)]:List S_api_Claim))++([(⟨1,y255,0⟩:S_api_Claim)]:List S_api_Claim))⟩:S_api_Prog),0)) else none)))))) else ((m_gen_loc n ([99]:List UInt8)).bind fun y259=>((m_gen_num n v1_n).bind fun y261=>((m_gen_two n 9 y259 y261).bind fun y263=>(some ((⟨v2_mod,x216,x243,(([]:List S_api_Claim)++([(⟨1,y263,0⟩:S_api_Claim)]:List S_api_Claim))⟩:S_api_Prog),0))))))|.ret v=>some v)|.ret v=>some v) else none)))))))))))
def m_gen_Barrier:Nat→Int→Int→Option (S_api_Prog×Int)
  | 0,_,_=>none
  | n+1,v0_n,v1_mod=>((m_gen_Make n 3 v0_n v1_mod).bind fun y1=>(some (y1.1,y1.2)))
def m_gen_Lock:Nat→Int→Int→Option (S_api_Prog×Int)
  | 0,_,_=>none
  | n+1,v0_n,v1_mod=>((m_gen_Make n 1 v0_n v1_mod).bind fun y1=>(some (y1.1,y1.2)))
def m_gen_Text:Nat→Int→Int→Int→Option (List UInt8)
  | 0,_,_,_=>none
  | n+1,v0_which,v1_n,v2_mod=>((m_gen_Make n v0_which v1_n v2_mod).bind fun y1=>(bif (y1.2 != 0) then (some ([]:List UInt8)) else ((m_prog_Show n y1.1).bind fun y4=>(some y4))))
def m_gen_Ticket:Nat→Int→Int→Option (S_api_Prog×Int)
  | 0,_,_=>none
  | n+1,v0_n,v1_mod=>((m_gen_Make n 2 v0_n v1_mod).bind fun y1=>(some (y1.1,y1.2)))
def m_ref26_body:Nat→Int→Int→Option (List UInt8)
  | 0,_,_=>none
  | n+1,v0_kind,v1_n=>(bif (v0_kind==1) then (some (List.append ([114,101,103,32,97,44,32,99,115,59,32,115,101,116,32,97,32,61,32,49,59,32,119,104,105,108,101,32,97,32,33,61,32,48,32,123,32,120,99,104,103,32,97,32,61,32,108,44,32,49,59,32,125,32,115,101,116,32,99,115,32,61,32]:List UInt8) ([49,59,32,108,111,97,100,32,97,32,61,32,99,59,32,115,116,111,114,101,32,99,32,61,32,97,32,43,32,49,59,32,115,101,116,32,99,115,32,61,32,48,59,32,102,101,110,99,101,59,32,115,116,111,114,101,32,108,32,61,32,48,59]:List UInt8))) else (bif (v0_kind==2) then (some (List.append ([114,101,103,32,97,44,32,98,44,32,99,115,59,32,102,97,100,100,32,97,32,61,32,110,101,120,116,44,32,49,59,32,97,119,97,105,116,32,110,111,119,32,61,61,32,97,59,32,115,101,116,32,99,115,32,61,32,49,59,32,108,111,97]:List UInt8) ([100,32,98,32,61,32,99,59,32,115,116,111,114,101,32,99,32,61,32,98,32,43,32,49,59,32,115,101,116,32,99,115,32,61,32,48,59,32,102,101,110,99,101,59,32,115,116,111,114,101,32,110,111,119,32,61,32,97,32,43,32,49,59]:List UInt8))) else ((m_ref01_Digits n v1_n).bind fun y3=>(bif decide ((([114,101,103,32,97,59,32,102,97,100,100,32,97,32,61,32,99,44,32,49,59,32,97,119,97,105,116,32,99,32,61,61,32]:List UInt8)).length+y3.length≤140737488355328) then (bif decide (((([114,101,103,32,97,59,32,102,97,100,100,32,97,32,61,32,99,44,32,49,59,32,97,119,97,105,116,32,99,32,61,61,32]:List UInt8)++y3)).length+(([59]:List UInt8)).length≤140737488355328) then (some ((([114,101,103,32,97,59,32,102,97,100,100,32,97,32,61,32,99,44,32,49,59,32,97,119,97,105,116,32,99,32,61,61,32]:List UInt8)++y3)++([59]:List UInt8))) else none) else none))))
def m_ref26_locs:Nat→Int→Option (List UInt8)
  | 0,_=>none
  | n+1,v0_kind=>(bif (v0_kind==1) then (some ([108,111,99,32,108,32,61,32,48,59,32,108,111,99,32,99,32,61,32,48,59]:List UInt8)) else (bif (v0_kind==2) then (some ([108,111,99,32,110,101,120,116,32,61,32,48,59,32,108,111,99,32,110,111,119,32,61,32,48,59,32,108,111,99,32,99,32,61,32,48,59]:List UInt8)) else (some ([108,111,99,32,99,32,61,32,48,59]:List UInt8))))
def ref26_Make_L0 (n:Nat)  (v0_kind:Int) (v1_n:Int):Nat→(List UInt8)→(List UInt8)→Int→Option (LR ((List UInt8)×(List UInt8)) (S_api_Prog×Int))
  | 0,_,_,_=>none
  | k17+1,s14,s15,s16=>(bif decide (s16<v1_n) then ((m_ref01_Digits n s16).bind fun y26=>(bif decide ((([116]:List UInt8)).length+y26.length≤140737488355328) then (bif decide (s14.length+(([32,116,104,114,101,97,100,32]:List UInt8)).length≤140737488355328) then (bif decide (((s14++([32,116,104,114,101,97,100,32]:List UInt8))).length+((([116]:List UInt8)++y26)).length≤140737488355328) then (bif decide ((((s14++([32,116,104,114,101,97,100,32]:List UInt8))++(([116]:List UInt8)++y26))).length+(([32,123,32]:List UInt8)).length≤140737488355328) then ((m_ref26_body n v0_kind v1_n).bind fun y32=>(bif decide (((((s14++([32,116,104,114,101,97,100,32]:List UInt8))++(([116]:List UInt8)++y26))++([32,123,32]:List UInt8))).length+y32.length≤140737488355328) then (bif decide ((((((s14++([32,116,104,114,101,97,100,32]:List UInt8))++(([116]:List UInt8)++y26))++([32,123,32]:List UInt8))++y32)).length+(([32,125]:List UInt8)).length≤140737488355328) then (bif decide (0<s16) then (bif decide (s15.length+(([32,43,32]:List UInt8)).length≤140737488355328) then (bif decide (((s15++([32,43,32]:List UInt8))).length+((([116]:List UInt8)++y26)).length≤140737488355328) then (bif decide ((((s15++([32,43,32]:List UInt8))++(([116]:List UInt8)++y26))).length+(([46,99,115]:List UInt8)).length≤140737488355328) then (ref26_Make_L0 n v0_kind v1_n k17 (((((s14++([32,116,104,114,101,97,100,32]:List UInt8))++(([116]:List UInt8)++y26))++([32,123,32]:List UInt8))++y32)++([32,125]:List UInt8)) (((s15++([32,43,32]:List UInt8))++(([116]:List UInt8)++y26))++([46,99,115]:List UInt8)) (IntKind.i64.wrap (s16+1))) else none) else none) else none) else (bif decide (s15.length+((([116]:List UInt8)++y26)).length≤140737488355328) then (bif decide (((s15++(([116]:List UInt8)++y26))).length+(([46,99,115]:List UInt8)).length≤140737488355328) then (ref26_Make_L0 n v0_kind v1_n k17 (((((s14++([32,116,104,114,101,97,100,32]:List UInt8))++(([116]:List UInt8)++y26))++([32,123,32]:List UInt8))++y32)++([32,125]:List UInt8)) ((s15++(([116]:List UInt8)++y26))++([46,99,115]:List UInt8)) (IntKind.i64.wrap (s16+1))) else none) else none)) else none) else none)) else none) else none) else none) else none)) else (some (.out (s14,s15))))
def m_ref26_Make:Nat→Int→Int→Int→Option (S_api_Prog×Int)
  | 0,_,_,_=>none
  | n+1,v0_kind,v1_n,v2_mod=>(bif decide (v0_kind<1) then (some ((⟨0,([]:List S_api_Var),([]:List S_api_Thread),([]:List S_api_Claim)⟩:S_api_Prog),1)) else (bif decide (3<v0_kind) then (some ((⟨0,([]:List S_api_Var),([]:List S_api_Thread),([]:List S_api_Claim)⟩:S_api_Prog),1)) else (bif decide (v1_n<1) then (some ((⟨0,([]:List S_api_Var),([]:List S_api_Thread),([]:List S_api_Claim)⟩:S_api_Prog),1)) else (bif decide (4<v1_n) then (some ((⟨0,([]:List S_api_Var),([]:List S_api_Thread),([]:List S_api_Claim)⟩:S_api_Prog),1)) else (bif decide (v2_mod≤v1_n) then (some ((⟨0,([]:List S_api_Var),([]:List S_api_Thread),([]:List S_api_Claim)⟩:S_api_Prog),1)) else (bif decide (16<v2_mod) then (some ((⟨0,([]:List S_api_Var),([]:List S_api_Thread),([]:List S_api_Claim)⟩:S_api_Prog),1)) else ((m_ref01_Digits n v2_mod).bind fun y7=>(bif decide ((([109,111,100,32]:List UInt8)).length+y7.length≤140737488355328) then (bif decide (((([109,111,100,32]:List UInt8)++y7)).length+(([59,32]:List UInt8)).length≤140737488355328) then ((m_ref26_locs n v0_kind).bind fun y11=>(bif decide ((((([109,111,100,32]:List UInt8)++y7)++([59,32]:List UInt8))).length+y11.length≤140737488355328) then ((ref26_Make_L0 n v0_kind v1_n n (((([109,111,100,32]:List UInt8)++y7)++([59,32]:List UInt8))++y11) ([]:List UInt8) 0).bind fun o24=>match o24 with|.out (x43,x44)=>(bif decide (v0_kind<3) then (bif decide (x43.length+(([32,97,108,119,97,121,115,32,40]:List UInt8)).length≤140737488355328) then (bif decide (((x43++([32,97,108,119,97,121,115,32,40]:List UInt8))).length+x44.length≤140737488355328) then (bif decide ((((x43++([32,97,108,119,97,121,115,32,40]:List UInt8))++x44)).length+(([41,32,60,61,32,49,59]:List UInt8)).length≤140737488355328) then (bif decide (((((x43++([32,97,108,119,97,121,115,32,40]:List UInt8))++x44)++([41,32,60,61,32,49,59]:List UInt8))).length+(([32,102,111,114,97,108,108,32,99,32,61,61,32]:List UInt8)).length≤140737488355328) then ((m_ref01_Digits n v1_n).bind fun y50=>(bif decide ((((((x43++([32,97,108,119,97,121,115,32,40]:List UInt8))++x44)++([41,32,60,61,32,49,59]:List UInt8))++([32,102,111,114,97,108,108,32,99,32,61,61,32]:List UInt8))).length+y50.length≤140737488355328) then (bif decide (((((((x43++([32,97,108,119,97,121,115,32,40]:List UInt8))++x44)++([41,32,60,61,32,49,59]:List UInt8))++([32,102,111,114,97,108,108,32,99,32,61,61,32]:List UInt8))++y50)).length+(([59]:List UInt8)).length≤140737488355328) then ((m_ref04_Parse n ((((((x43++([32,97,108,119,97,121,115,32,40]:List UInt8))++x44)++([41,32,60,61,32,49,59]:List UInt8))++([32,102,111,114,97,108,108,32,99,32,61,61,32]:List UInt8))++y50)++([59]:List UInt8))).bind fun y54=>((m_ref04_Bare n y54.1).bind fun y56=>(some (y56,y54.2.1)))) else none) else none)) else none) else none) else none) else none) else (bif decide (x43.length+(([32,102,111,114,97,108,108,32,99,32,61,61,32]:List UInt8)).length≤140737488355328) then ((m_ref01_Digits n v1_n).bind fun y59=>(bif decide (((x43++([32,102,111,114,97,108,108,32,99,32,61,61,32]:List UInt8))).length+y59.length≤140737488355328) then (bif decide ((((x43++([32,102,111,114,97,108,108,32,99,32,61,61,32]:List UInt8))++y59)).length+(([59]:List UInt8)).length≤140737488355328) then ((m_ref04_Parse n (((x43++([32,102,111,114,97,108,108,32,99,32,61,61,32]:List UInt8))++y59)++([59]:List UInt8))).bind fun y63=>((m_ref04_Bare n y63.1).bind fun y65=>(some (y65,y63.2.1)))) else none) else none)) else none))|.ret v=>some v) else none)) else none) else none))))))))
def m_law26_known:Nat→Option Bool
  | 0=>none
  | n+1=>((m_gen_Lock n 2 3).bind fun y1=>((m_gen_Ticket n 2 2).bind fun y3=>(bif (y1.2==0) then (bif (((y1.1.f_Threads.length:Nat):Int)==2) then (bif (((y1.1.f_Claims.length:Nat):Int)==2) then (bif (((y1.1.f_Locs.length:Nat):Int)==2) then (bif (y3.2==1) then ((m_gen_Text n 3 1 2).bind fun y10=>(bif (y10==(List.append ([109,111,100,32,50,59,10,108,111,99,32,99,32,61,32,48,59,10,116,104,114,101,97,100,32,116,48,32,123,10,32,32,114,101,103,32,97,59,10,32,32,102,97,100]:List UInt8) ([100,32,97,32,61,32,99,44,32,49,59,10,32,32,97,119,97,105,116,32,99,32,61,61,32,49,59,10,125,10,102,111,114,97,108,108,32,99,32,61,61,32,49,59,10]:List UInt8))) then ((m_gen_Text n 4 1 2).bind fun y13=>(some (y13==([]:List UInt8)))) else (some false))) else (some false)) else (some false)) else (some false)) else (some false)) else (some false))))
def m_law26_GenMakes:Nat→Int→Int→Int→Option Bool
  | 0,_,_,_=>none
  | n+1,v0_kind,v1_n,v2_mod=>((m_gen_Make n v0_kind v1_n v2_mod).bind fun y1=>((m_ref26_Make n v0_kind v1_n v2_mod).bind fun y3=>((m_ref04_Same n y1.1 y3.1 true).bind fun y5=>(bif y5 then (bif (y1.2 != y3.2) then (some false) else (bif (y3.2==0) then ((m_ref04_Show n y3.1).bind fun y10=>((m_gen_Lock n v1_n v2_mod).bind fun y12=>((m_ref26_Make n 1 v1_n v2_mod).bind fun y14=>((m_gen_Ticket n v1_n v2_mod).bind fun y16=>((m_ref26_Make n 2 v1_n v2_mod).bind fun y18=>((m_gen_Barrier n v1_n v2_mod).bind fun y20=>((m_ref26_Make n 3 v1_n v2_mod).bind fun y22=>((m_gen_Text n v0_kind v1_n v2_mod).bind fun y24=>(bif (y24==y10) then ((m_ref04_Same n y12.1 y14.1 true).bind fun y27=>(bif y27 then (bif (y12.2==y14.2) then ((m_ref04_Same n y16.1 y18.1 true).bind fun y31=>(bif y31 then (bif (y16.2==y18.2) then ((m_ref04_Same n y20.1 y22.1 true).bind fun y35=>(bif y35 then (bif (y20.2==y22.2) then ((m_law26_known n ).bind fun y39=>(some y39)) else (some false)) else (some false))) else (some false)) else (some false))) else (some false)) else (some false))) else (some false)))))))))) else ((m_gen_Lock n v1_n v2_mod).bind fun y41=>((m_ref26_Make n 1 v1_n v2_mod).bind fun y43=>((m_gen_Ticket n v1_n v2_mod).bind fun y45=>((m_ref26_Make n 2 v1_n v2_mod).bind fun y47=>((m_gen_Barrier n v1_n v2_mod).bind fun y49=>((m_ref26_Make n 3 v1_n v2_mod).bind fun y51=>((m_gen_Text n v0_kind v1_n v2_mod).bind fun y53=>(bif (y53==([]:List UInt8)) then ((m_ref04_Same n y41.1 y43.1 true).bind fun y56=>(bif y56 then (bif (y41.2==y43.2) then ((m_ref04_Same n y45.1 y47.1 true).bind fun y60=>(bif y60 then (bif (y45.2==y47.2) then ((m_ref04_Same n y49.1 y51.1 true).bind fun y64=>(bif y64 then (bif (y49.2==y51.2) then ((m_law26_known n ).bind fun y68=>(some y68)) else (some false)) else (some false))) else (some false)) else (some false))) else (some false)) else (some false))) else (some false))))))))))) else (some false)))))
end Go.Proofs.YtgelgahilfojdaaGreat
end
section
namespace Go.Proofs.YtgelgahilfojdaaGreat
set_option linter.unusedVariables false
set_option linter.unusedSimpArgs false
theorem wrap_one (k : Nat) (h : k < 4611686018427387904) : IntKind.i64.wrap ((k : Int) + 1) = ((k + 1 : Nat) : Int) := wrap_succ k (by omega)
theorem bif_decide {α : Type} {p : Prop} [Decidable p] (h : p) (a b : α) : (bif decide p then a else b) = a := by rw [decide_eq_true h]; rfl
theorem bif_not {α : Type} {p : Prop} [Decidable p] (h : ¬ p) (a b : α) : (bif decide p then a else b) = b := by rw [decide_eq_false h]; rfl
end Go.Proofs.YtgelgahilfojdaaGreat
end
section
namespace Go.Proofs.YtgelgahilfojdaaGreat
set_option linter.unusedVariables false
set_option linter.unusedSimpArgs false
theorem idx_some {α : Type} {l : List α} {i : Nat} {x : α} (h : l[i]? = some x) : idx l (i : Int) = some x := by rw [idx_nat, h]
end Go.Proofs.YtgelgahilfojdaaGreat
end
section
namespace Go.Proofs.YtgelgahilfojdaaGreat
structure Tok where
  kind : Int
  text : List UInt8
  n : Int
  at' : Int
def blankB (c : Int) : Bool := decide (c = 32 ∨ c = 9 ∨ c = 10 ∨ c = 13)
def gapS : Bool → List UInt8 → Nat
  | _, [] => 0
  | true, c :: t => if c.toNat = 10 then 1 + gapS false t else 1 + gapS true t
  | false, c :: t => if blankB c.toNat then 1 + gapS false t else if c.toNat = 35 then 1 + gapS true t else 0
inductive Lx where
  | tok (kind : Int) (len : Nat) (n : Nat)
  | err (e : Int)
def oneL (l : List UInt8) : Lx := match l with
  | [] => .err 3
  | c :: _ =>
    if letterB c.toNat then (if runLen wordB l > 16 then .err 2 else .tok 1 (runLen wordB l) 0)
    else if digitB c.toNat then (if valueL (l.take (runLen digitB l)) > 9999 then .err 4 else .tok 2 (runLen digitB l) (valueL (l.take (runLen digitB l))))
    else if signLen l = 0 then .err 3 else .tok 3 (signLen l) 0
structure ScanRes where
  toks : List Tok
  err : Int
  at' : Int
def lexFrom : Nat → List UInt8 → Nat → List Tok → ScanRes
  | 0, _, _, acc => ⟨acc, 0, 0⟩
  | f + 1, l, p, acc => match l.drop (gapS false l) with
    | [] => ⟨acc, 0, 0⟩
    | c :: t => match oneL (c :: t) with
      | .err e => ⟨[], e, (p + gapS false l : Nat)⟩
      | .tok k n v => lexFrom f ((c :: t).drop n) (p + gapS false l + n) (acc ++ [⟨k, (c :: t).take n, v, (p + gapS false l : Nat)⟩])
def scanL (l : List UInt8) : ScanRes := if l.length > 20000 then ⟨[], 2, 20000⟩ else lexFrom (l.length + 1) l 0 []
theorem gapS_le (b : Bool) (l : List UInt8) : gapS b l ≤ l.length := by
  induction l generalizing b with
  | nil => simp [gapS]
  | cons c t ih =>
    have h1 := ih true; have h2 := ih false
    cases b <;> simp only [gapS, List.length_cons] <;> repeat' split
    all_goals omega
theorem runLen_le (p : Int → Bool) (l : List UInt8) : runLen p l ≤ l.length := (List.takeWhile_prefix (fun c : UInt8 => p c.toNat) (l := l)).length_le
theorem runLen_cons (p : Int → Bool) (c : UInt8) (t : List UInt8) : runLen p (c :: t) = if p c.toNat then runLen p t + 1 else 0 := by
  unfold runLen
  rw [List.takeWhile_cons]
  split <;> simp
theorem signLen_le (c : UInt8) (t : List UInt8) : signLen (c :: t) ≤ (c :: t).length := by
  unfold signLen
  split
  · rename_i h
    rcases t with _ | ⟨d, t⟩
    · simp [signs2] at h
    · simp
  · split <;> simp
theorem oneL_len {l : List UInt8} {k : Int} {n v : Nat} (h : oneL l = .tok k n v) : 0 < n ∧ n ≤ l.length := by
  rcases l with _ | ⟨c, t⟩
  · simp [oneL] at h
  · simp only [oneL] at h
    split at h
    · rename_i hc
      split at h
      · simp at h
      · simp only [Lx.tok.injEq] at h
        obtain ⟨_, rfl, _⟩ := h
        have h1 : wordB c.toNat = true := by simp [wordB, hc]
        exact ⟨by rw [runLen_cons, if_pos h1]; omega, runLen_le _ _⟩
    · split at h
      · rename_i hc
        split at h
        · simp at h
        · simp only [Lx.tok.injEq] at h
          obtain ⟨_, rfl, _⟩ := h
          exact ⟨by rw [runLen_cons, if_pos hc]; omega, runLen_le _ _⟩
      · split at h
        · simp at h
        · simp only [Lx.tok.injEq] at h
          obtain ⟨_, rfl, _⟩ := h
          exact ⟨by omega, signLen_le _ _⟩
theorem oneL_err {l : List UInt8} {e : Int} (h : oneL l = .err e) : (e != 0) = true := by
  rcases l with _ | ⟨c, t⟩
  · simp only [oneL, Lx.err.injEq] at h; subst h; rfl
  · simp only [oneL] at h
    repeat' split at h
    all_goals first
      | (simp only [Lx.err.injEq] at h; subst h; rfl)
      | simp at h
theorem lexFrom_fuel (f g : Nat) (l : List UInt8) (p : Nat) (acc : List Tok) (hf : l.length < f) (hg : l.length < g) : lexFrom f l p acc = lexFrom g l p acc := by
  induction f generalizing g l p acc with
  | zero => omega
  | succ f ih =>
    cases g with
    | zero => omega
    | succ g =>
      simp only [lexFrom]
      split
      · rfl
      · rename_i c t hd
        have hlen : (c :: t).length = l.length - gapS false l := by rw [← hd]; simp
        split
        · rfl
        · rename_i k n v ho
          have hn := oneL_len ho
          have hlt : ((c :: t).drop n).length < l.length := by
            simp only [List.length_drop]
            simp only [List.length_cons] at hlen hn ⊢
            omega
          exact ih g _ _ _ (by omega) (by omega)
end Go.Proofs.YtgelgahilfojdaaGreat
end
section
namespace Go.Proofs.YtgelgahilfojdaaGreat
theorem gapS_true (l : List UInt8) : gapS true l = runLen lineB l + gapS false (l.drop (runLen lineB l)) := by
  induction l with
  | nil => simp [gapS, runLen]
  | cons c t ih =>
    rw [runLen_cons]
    by_cases h : c.toNat = 10
    · have h1 : lineB c.toNat = false := by simp [lineB, h]
      rw [if_neg (by rw [h1]; simp), List.drop_zero, gapS, gapS, if_pos h, if_pos (by simp [blankB, h])]
      omega
    · have h1 : lineB c.toNat = true := by simp only [lineB, decide_eq_true_eq]; omega
      rw [if_pos h1, gapS, if_neg h, ih, List.drop_succ_cons]
      omega
theorem gapS_remark {c : UInt8} {t : List UInt8} (h : c.toNat = 35) : gapS false (c :: t) = runLen lineB (c :: t) + gapS false ((c :: t).drop (runLen lineB (c :: t))) := by
  rw [← gapS_true]
  have hb : blankB c.toNat = false := by simp [blankB, h]
  rw [gapS, gapS, if_neg (by rw [hb]; simp), if_pos h, if_neg (by omega)]
theorem gapS_blank {c : UInt8} {t : List UInt8} (h : blankB c.toNat = true) : gapS false (c :: t) = 1 + gapS false t := by rw [gapS, if_pos h]
theorem gapS_none {c : UInt8} {t : List UInt8} (h : blankB c.toNat = false) (h2 : c.toNat ≠ 35) : gapS false (c :: t) = 0 := by rw [gapS, if_neg (by rw [h]; simp), if_neg h2]
end Go.Proofs.YtgelgahilfojdaaGreat
end
section
namespace Go.Proofs.YtgelgahilfojdaaGreat
def signsL : List (List UInt8) := signs2 ++ signs1.map fun c => [c]
theorem signs2_len {m : List UInt8} (h : m ∈ signs2) : m.length = 2 := by
  simp only [signs2, List.mem_cons, List.not_mem_nil, or_false] at h
  rcases h with rfl | rfl | rfl | rfl | rfl <;> rfl
theorem take_of_prefix {m l : List UInt8} (h : m <+: l) : l.take m.length = m := by
  obtain ⟨t, rfl⟩ := h
  simp
theorem signLen_first {l : List UInt8} {k : Nat} (hk : k < signsL.length) (hp : signsL[k] <+: l) (hn : ∀ j (h : j < signsL.length), j < k → ¬ signsL[j] <+: l) :
    signLen l = signsL[k].length ∧ l.take signsL[k].length = signsL[k] := by
  refine ⟨?_, take_of_prefix hp⟩
  have h5 : signs2.length = 5 := rfl
  have hcont : ∀ (h : l.take 2 ∈ signs2), ∃ j, ∃ (hj : j < signs2.length), signs2[j] <+: l := fun h => by
    obtain ⟨j, hj, e⟩ := List.getElem_of_mem h
    exact ⟨j, hj, by rw [e]; exact List.take_prefix 2 l⟩
  rcases Nat.lt_or_ge k 5 with hlt | hge
  · have e : signsL[k] = signs2[k]'(by omega) := by simp only [signsL]; rw [List.getElem_append_left]
    rw [e] at hp ⊢
    have hm : signs2[k]'(by omega) ∈ signs2 := List.getElem_mem _
    have hl := signs2_len hm
    have ht := take_of_prefix hp
    rw [hl] at ht ⊢
    unfold signLen
    rw [if_pos (by rw [ht]; exact List.contains_iff_mem.2 hm)]
  · have e : signsL[k] = [signs1[k - 5]'(by simp [signsL, h5] at hk; omega)] := by
      simp only [signsL]
      rw [List.getElem_append_right (by omega)]
      simp [h5]
    rw [e] at hp ⊢
    have hno : ¬ l.take 2 ∈ signs2 := fun h => by
      obtain ⟨j, hj, hj2⟩ := hcont h
      refine hn j (by simp [signsL]; omega) (by omega) ?_
      have e : signsL[j]'(by simp [signsL]; omega) = signs2[j] := by simp only [signsL]; rw [List.getElem_append_left]
      rw [e]; exact hj2
    obtain ⟨t, rfl⟩ := hp
    unfold signLen
    rw [if_neg (by simpa using hno)]
    simp
theorem signLen_none {l : List UInt8} (hn : ∀ j (h : j < signsL.length), ¬ signsL[j] <+: l) : signLen l = 0 := by
  have h5 : signs2.length = 5 := rfl
  unfold signLen
  rw [if_neg, if_neg]
  · intro h
    rcases l with _ | ⟨c, t⟩
    · simp at h
    · simp only [List.head?_cons, Option.any_some] at h
      have h' := List.contains_iff_mem.1 h
      obtain ⟨j, hj, e⟩ := List.getElem_of_mem h'
      refine hn (5 + j) (by simp [signsL, h5]; omega) ?_
      have e2 : signsL[5 + j]'(by simp [signsL, h5]; omega) = [signs1[j]] := by
        simp only [signsL]
        rw [List.getElem_append_right (by omega)]
        simp [h5]
      rw [e2, e]
      exact ⟨t, rfl⟩
  · intro h
    have h' := List.contains_iff_mem.1 h
    obtain ⟨j, hj, e⟩ := List.getElem_of_mem h'
    refine hn j (by simp [signsL]; omega) ?_
    have e2 : signsL[j]'(by simp [signsL]; omega) = signs2[j] := by simp only [signsL]; rw [List.getElem_append_left]
    rw [e2, e]
    exact List.take_prefix 2 l
end Go.Proofs.YtgelgahilfojdaaGreat
end
section
namespace Go.Proofs.YtgelgahilfojdaaGreat
set_option linter.unusedVariables false
set_option linter.unusedSimpArgs false
abbrev Nd := S_api_Node
def kidsF (op : Int) : Int := if 1 ≤ op ∧ op ≤ 4 then 0 else if op = 5 then 1 else if 6 ≤ op ∧ op ≤ 14 then 2 else -1
inductive Tr where
  | leaf (x : Nd)
  | un (x : Nd) (a : Tr)
  | bin (x : Nd) (a b : Tr)
def Tr.flat : Tr → List Nd
  | .leaf x => [x]
  | .un x a => x :: a.flat
  | .bin x a b => x :: (a.flat ++ b.flat)
def Tr.wf : Tr → Prop
  | .leaf x => kidsF x.f_Op = 0
  | .un x a => kidsF x.f_Op = 1 ∧ a.wf
  | .bin x a b => kidsF x.f_Op = 2 ∧ a.wf ∧ b.wf
end Go.Proofs.YtgelgahilfojdaaGreat
end
section
namespace Go.Proofs.YtgelgahilfojdaaGreat
set_option linter.unusedVariables false
set_option linter.unusedSimpArgs false
theorem rletter_m (n : Nat) (c : Int) : m_ref01_letter (n + 1) c = some (letterB c) := by
  rw [m_ref01_letter]
  by_cases h1 : 97 ≤ c <;> by_cases h2 : c ≤ 122 <;> by_cases h3 : 65 ≤ c <;> by_cases h4 : c ≤ 90 <;> simp [letterB, h1, h2, h3, h4] <;> (by_cases h5 : c = 95 <;> simp [h5])
theorem rdigit_m (n : Nat) (c : Int) : m_ref01_digit (n + 1) c = some (digitB c) := by
  rw [m_ref01_digit]
  by_cases h1 : 48 ≤ c <;> simp [digitB, h1]
end Go.Proofs.YtgelgahilfojdaaGreat
end
section
namespace Go.Proofs.YtgelgahilfojdaaGreat
set_option linter.unusedVariables false
set_option linter.unusedSimpArgs false
def findF {α : Type} (p : α → Bool) : List α → Nat → Option Nat
  | [], _ => none
  | x :: l, i => bif p x then some i else findF p l (i + 1)
theorem findF_lt {α : Type} {p : α → Bool} : ∀ {l : List α} {i j : Nat}, findF p l i = some j → i ≤ j ∧ j < i + l.length ∧ ∃ x, l[j - i]? = some x ∧ p x = true := by
  intro l
  induction l with
  | nil => intro i j h; cases h
  | cons x l ih =>
    intro i j h
    rw [findF] at h
    cases hp : p x with
    | true =>
      rw [hp] at h
      obtain rfl : i = j := Option.some.inj h
      exact ⟨Nat.le_refl _, by simp, x, by simp, hp⟩
    | false =>
      rw [hp] at h
      obtain ⟨h1, h2, y, h3, h4⟩ := ih h
      refine ⟨by omega, by simp; omega, y, ?_, h4⟩
      rw [show j - i = (j - (i + 1)) + 1 by omega, List.getElem?_cons_succ]; exact h3
theorem find_list {α τ : Type} (l : List α) (L : Nat → Nat → Option (LR Unit τ)) (p : α → Bool) (g : Nat → α → Option (LR Unit τ)) (h0 : ∀ k, L (k + 1) l.length = some (.out ()))
    (h1 : ∀ k i x, i < l.length → l[i]? = some x → L (k + 1) i = bif p x then g i x else L k (i + 1)) :
    ∀ (m k i : Nat), i + m = l.length → m < k → L k i = match findF p (l.drop i) i with | some j => (match l[j]? with | some x => g j x | none => none) | none => some (.out ()) := by
  intro m
  induction m with
  | zero =>
    intro k i hi hk
    obtain ⟨k, rfl⟩ : ∃ j, k = j + 1 := ⟨k - 1, by omega⟩
    obtain rfl : i = l.length := by omega
    rw [h0, List.drop_length]; rfl
  | succ m ih =>
    intro k i hi hk
    obtain ⟨k, rfl⟩ : ∃ j, k = j + 1 := ⟨k - 1, by omega⟩
    have hlt : i < l.length := by omega
    rw [h1 k i l[i] hlt (List.getElem?_eq_getElem hlt), ih k (i + 1) (by omega) (by omega), List.drop_eq_getElem_cons hlt, findF]
    cases hp : p l[i] with
    | true => simp only [cond_true, List.getElem?_eq_getElem hlt]
    | false => rfl
theorem run_list {τ : Type} (s : List UInt8) (p : Int → Bool) (L : Nat → Nat → Option (LR Int τ)) (h0 : ∀ k, L (k + 1) s.length = some (.out (s.length : Int)))
    (h1 : ∀ k i c, i < s.length → s[i]? = some c → L (k + 1) i = bif p c.toNat then L k (i + 1) else some (.out (i : Int))) :
    ∀ (m k i : Nat), i + m = s.length → m < k → L k i = some (.out ((i + runLen p (s.drop i) : Nat) : Int)) := by
  intro m
  induction m with
  | zero =>
    intro k i hi hk
    obtain ⟨k, rfl⟩ : ∃ j, k = j + 1 := ⟨k - 1, by omega⟩
    obtain rfl : i = s.length := by omega
    rw [h0, List.drop_length]; simp [runLen]
  | succ m ih =>
    intro k i hi hk
    obtain ⟨k, rfl⟩ : ∃ j, k = j + 1 := ⟨k - 1, by omega⟩
    have hlt : i < s.length := by omega
    rw [h1 k i s[i] hlt (List.getElem?_eq_getElem hlt), List.drop_eq_getElem_cons hlt, runLen_cons]
    cases hp : p (s[i].toNat : Int) with
    | true => rw [cond_true, ih k (i + 1) (by omega) (by omega), if_pos rfl]; congr 3; omega
    | false => rw [cond_false, if_neg (by simp)]; rfl
theorem gap1_m (n : Nat) (s : List UInt8) (hs : s.length < 1000000) {k i : Nat} (hi : i ≤ s.length) (hk : s.length - i < k) : ref01_gap_L1 n s k (i : Int) = some (.out ((i + runLen lineB (s.drop i) : Nat) : Int)) := by
  refine run_list s lineB (fun k i => ref01_gap_L1 n s k (i : Int)) (fun k => ?_) (fun k i c hi hc => ?_) (s.length - i) k i (by omega) hk
  · rw [ref01_gap_L1, bif_not (by omega)]
  · rw [ref01_gap_L1, bif_decide (by omega), idx_some hc, Option.bind_some, wrap_one i (by omega)]
    have : (((c.toNat : Nat) : Int) != 10) = lineB c.toNat := by
      unfold lineB
      by_cases h : ((c.toNat : Nat) : Int) = 10 <;> simp [h]
    rw [this]
def outG (r : LR Int Int) : Int := match r with
  | .out x => x
  | .ret x => x
theorem gap_L (n : Nat) (s : List UInt8) (hs : s.length < 1000000) (hn : s.length < n) : ∀ (m k i : Nat), s.length - i ≤ m → i ≤ s.length → m < k → (ref01_gap_L0 n s k (i : Int)).map outG = some ((i + gapS false (s.drop i) : Nat) : Int) := by
  intro m
  induction m with
  | zero =>
    intro k i hm hi hk
    obtain ⟨k, rfl⟩ : ∃ j, k = j + 1 := ⟨k - 1, by omega⟩
    obtain rfl : i = s.length := by omega
    rw [ref01_gap_L0, bif_not (by omega), List.drop_length]; simp [gapS, outG]
  | succ m ih =>
    intro k i hm hi hk
    obtain ⟨k, rfl⟩ : ∃ j, k = j + 1 := ⟨k - 1, by omega⟩
    by_cases hlt : i < s.length
    · have hc : s[i]? = some s[i] := List.getElem?_eq_getElem hlt
      rw [ref01_gap_L0, bif_decide (by omega), idx_some hc, wrap_one i (by omega), List.drop_eq_getElem_cons hlt]
      generalize hcc : s[i] = c at *
      simp only [Option.bind_some]
      by_cases hb : blankB (c.toNat : Int) = true
      · have hi1 := ih k (i + 1) (by omega) (by omega) (by omega)
        have e : (ref01_gap_L0 n s k ((i + 1 : Nat) : Int)).map outG = some ((i + gapS false (c :: s.drop (i + 1)) : Nat) : Int) := by
          rw [hi1, gapS_blank hb]; congr 1; omega
        rw [← e]
        unfold blankB at hb
        rw [decide_eq_true_eq] at hb
        rcases hb with h | h | h | h <;> rw [h] <;> rfl
      · have hb' : blankB (c.toNat : Int) = false := by simpa using hb
        have hnb := hb'
        unfold blankB at hnb
        rw [decide_eq_false_iff_not] at hnb
        rw [beq_eq_false_iff_ne.2 (show ((c.toNat : Nat) : Int) ≠ 32 by omega), beq_eq_false_iff_ne.2 (show ((c.toNat : Nat) : Int) ≠ 9 by omega), beq_eq_false_iff_ne.2 (show ((c.toNat : Nat) : Int) ≠ 10 by omega), beq_eq_false_iff_ne.2 (show ((c.toNat : Nat) : Int) ≠ 13 by omega)]
        simp only [cond_false]
        by_cases h35 : c.toNat = 35
        · have hr := gap1_m n s hs (k := n) (i := i) (by omega) (by omega)
          have hd : s.drop i = c :: s.drop (i + 1) := by rw [List.drop_eq_getElem_cons hlt, hcc]
          have hl1 : 1 ≤ runLen lineB (s.drop i) := by
            rw [hd, runLen_cons, if_pos (by rw [h35]; decide)]; omega
          have hl2 := runLen_le lineB (s.drop i)
          rw [List.length_drop] at hl2
          rw [h35, hr, Option.bind_some]
          show Option.map outG (ref01_gap_L0 n s k _) = _
          rw [ih k (i + runLen lineB (s.drop i)) (by omega) (by omega) (by omega), gapS_remark h35, ← hd, List.drop_drop]
          congr 1; omega
        · rw [beq_eq_false_iff_ne.2 (show ((c.toNat : Nat) : Int) ≠ 35 by omega), cond_false, gapS_none hb' h35]
          rfl
    · obtain rfl : i = s.length := by omega
      rw [ref01_gap_L0, bif_not (by omega), List.drop_length]; simp [gapS, outG]
theorem gap_m (n : Nat) (s : List UInt8) (i : Nat) (hs : s.length < 1000000) (hn : s.length + 1 < n) (hi : i ≤ s.length) : m_ref01_gap n s (i : Int) = some ((i + gapS false (s.drop i) : Nat) : Int) := by
  obtain ⟨n, rfl⟩ : ∃ j, n = j + 1 := ⟨n - 1, by omega⟩
  obtain ⟨r, h1, h2⟩ := Option.map_eq_some_iff.1 (gap_L n s hs (by omega) s.length n i (by omega) hi (by omega))
  rw [m_ref01_gap, h1]
  cases r <;> exact congrArg some h2
def tokOf (s : List UInt8) (at' : Nat) : Lx → S_api_Token × Int
  | .tok k n v => (⟨k, (s.drop at').take n, v, at'⟩, 0)
  | .err e => (⟨0, [], 0, 0⟩, e)
theorem word_L (n : Nat) (s : List UInt8) (hs : s.length < 1000000) (a : Nat) (k i : Nat) (h0 : a < i) (hi : i ≤ s.length) (hk : s.length - i < k) : ref01_one_L0 (n + 1) s (a : Int) k (i : Int) = some (.out ((i + runLen wordB (s.drop i) : Nat) : Int)) := by
  have key : ∀ (m k i : Nat), a < i → i + m = s.length → m < k → ref01_one_L0 (n + 1) s (a : Int) k (i : Int) = some (.out ((i + runLen wordB (s.drop i) : Nat) : Int)) := by
    intro m
    induction m with
    | zero =>
      intro k i ha hi hk
      obtain ⟨k, rfl⟩ : ∃ j, k = j + 1 := ⟨k - 1, by omega⟩
      obtain rfl : i = s.length := by omega
      rw [ref01_one_L0, bif_not (by omega), List.drop_length]; simp [runLen]
    | succ m ih =>
      intro k i ha hi hk
      obtain ⟨k, rfl⟩ : ∃ j, k = j + 1 := ⟨k - 1, by omega⟩
      have hlt : i < s.length := by omega
      rw [ref01_one_L0, bif_decide (by omega), idx_some (List.getElem?_eq_getElem hlt), Option.bind_some, rletter_m, Option.bind_some, Option.bind_some, rdigit_m, Option.bind_some, wrap_one i (by omega), bif_decide (by omega), List.drop_eq_getElem_cons hlt, runLen_cons]
      have e := ih k (i + 1) (by omega) (by omega) (by omega)
      unfold wordB
      cases letterB (s[i].toNat : Int) with
      | true => rw [cond_true, e, Bool.true_or, if_pos rfl]; congr 3; unfold wordB; omega
      | false =>
        cases digitB (s[i].toNat : Int) with
        | true => rw [cond_false, cond_true, e, Bool.or_true, if_pos rfl]; congr 3; unfold wordB; omega
        | false => rw [cond_false, cond_false, if_neg (by simp)]; rfl
  exact key (s.length - i) k i h0 (by omega) hk
theorem digits_L (n : Nat) (s : List UInt8) (hs : s.length < 1000000) : ∀ (m k i v : Nat), i + m = s.length → m < k → v ≤ 10000 →
    ref01_one_L1 (n + 1) s k (i : Int) (v : Int) = some (.out (((i + runLen digitB (s.drop i) : Nat) : Int), (((s.drop i).take (runLen digitB (s.drop i))).foldl (fun n c => min (10 * n + (c.toNat - 48)) 10000) v : Nat))) := by
  intro m
  induction m with
  | zero =>
    intro k i v hi hk hv
    obtain ⟨k, rfl⟩ : ∃ j, k = j + 1 := ⟨k - 1, by omega⟩
    obtain rfl : i = s.length := by omega
    rw [ref01_one_L1, bif_not (by omega), List.drop_length]; simp [runLen]
  | succ m ih =>
    intro k i v hi hk hv
    obtain ⟨k, rfl⟩ : ∃ j, k = j + 1 := ⟨k - 1, by omega⟩
    have hlt : i < s.length := by omega
    rw [ref01_one_L1, bif_decide (by omega), idx_some (List.getElem?_eq_getElem hlt), Option.bind_some, rdigit_m, Option.bind_some, Option.bind_some, wrap_one i (by omega), List.drop_eq_getElem_cons hlt, runLen_cons]
    cases hd : digitB (s[i].toNat : Int) with
    | false => rw [cond_false, if_neg (by simp)]; simp
    | true =>
      have hd' : 48 ≤ s[i].toNat ∧ s[i].toNat ≤ 57 := by
        unfold digitB at hd; rw [decide_eq_true_eq] at hd; omega
      have w1 : IntKind.u8.wrap ((s[i].toNat : Int) - 48) = ((s[i].toNat - 48 : Nat) : Int) := by
        simp only [IntKind.wrap, IntKind.bits, IntKind.signed]
        simp; omega
      rw [cond_true, if_pos rfl, w1, wrap64 (n := 10 * (v : Int)) (by omega), wrap64 (n := ((s[i].toNat - 48 : Nat) : Int)) (by omega), wrap64 (by omega)]
      have e : (if 10000 < 10 * (v : Int) + ((s[i].toNat - 48 : Nat) : Int) then (10000 : Int) else 10 * (v : Int) + ((s[i].toNat - 48 : Nat) : Int)) = ((min (10 * v + (s[i].toNat - 48)) 10000 : Nat) : Int) := by split <;> omega
      rw [e, ih k (i + 1) _ (by omega) (by omega) (by omega), List.take_succ_cons, List.foldl_cons]
      congr 3; omega
theorem signs_is (n : Nat) : m_ref01_signs (n + 1) = some signsL := rfl
theorem take_drop' (s : List UInt8) (a k : Nat) : List.drop a (List.take (a + k) s) = (s.drop a).take k := by rw [List.drop_take]; congr 1; omega
theorem sign_L (n : Nat) (s : List UInt8) (hs : s.length < 1000000) (a : Nat) (ha : a ≤ s.length) {k : Nat} (hk : 20 < k) :
    ref01_one_L2 n s (a : Int) signsL k 0 = match findF (fun x : List UInt8 => decide (x <+: s.drop a)) signsL 0 with
      | some j => (match signsL[j]? with | some x => some (.ret ((⟨3, x, 0, (a : Int)⟩ : S_api_Token), 0)) | none => none)
      | none => some (.out ()) := by
  have hlen : signsL.length = 18 := rfl
  have h := find_list signsL (fun k i => ref01_one_L2 n s (a : Int) signsL k (i : Int)) (fun x : List UInt8 => decide (x <+: s.drop a)) (fun i x => some (.ret ((⟨3, x, 0, (a : Int)⟩ : S_api_Token), 0))) (fun k => by rw [ref01_one_L2, bif_not (by omega)]) (fun k i x hi hx => by
    have hxl : x.length ≤ 2 := by
      have hm := List.mem_of_getElem? hx
      have : signsL.all (fun x => decide (x.length ≤ 2)) = true := by decide
      simpa using List.all_eq_true.1 this x hm
    rw [ref01_one_L2, bif_decide (by omega), idx_some hx, Option.bind_some, Option.bind_some, wrap_one i (by omega), wrap64 (n := (a : Int) + (x.length : Int)) (by omega)]
    by_cases hl : (a : Int) + (x.length : Int) ≤ (s.length : Int)
    · have c : (decide (0 ≤ (a : Int) + (x.length : Int)) && decide ((a : Int) + (x.length : Int) ≤ (s.length : Int)) && decide (0 ≤ (a : Int)) && decide ((a : Int) ≤ (a : Int) + (x.length : Int))) = true := by
        rw [decide_eq_true (by omega), decide_eq_true hl, decide_eq_true (by omega), decide_eq_true (by omega)]; rfl
      rw [bif_decide hl, c, cond_true, Int.toNat_natCast, show ((a : Int) + (x.length : Int)).toNat = a + x.length by omega, take_drop', Option.bind_some]
      have e : ((s.drop a).take x.length == x) = decide (x <+: s.drop a) := by
        rw [Bool.eq_iff_iff, beq_iff_eq, decide_eq_true_eq, List.prefix_iff_eq_take]
        exact ⟨fun h => h.symm, fun h => h.symm⟩
      rw [e]
    · have e : decide (x <+: s.drop a) = false := decide_eq_false fun hp => by
        have := hp.length_le
        rw [List.length_drop] at this; omega
      rw [bif_not hl, e, cond_false]) signsL.length k 0 (by omega) (by omega)
  rw [List.drop_zero] at h
  refine h.trans ?_
  cases findF (fun x : List UInt8 => decide (x <+: s.drop a)) signsL 0 with
  | none => rfl
  | some j => (dsimp only; generalize signsL[j]? = q; cases q <;> rfl)
theorem findF_least {α : Type} {p : α → Bool} : ∀ {l : List α} {i j : Nat}, findF p l i = some j → ∀ k x, i + k < j → l[k]? = some x → p x = false := by
  intro l
  induction l with
  | nil => intro i j h; cases h
  | cons y l ih =>
    intro i j h k x hk hx
    rw [findF] at h
    cases hp : p y with
    | true =>
      rw [hp] at h
      have : i = j := Option.some.inj h
      omega
    | false =>
      rw [hp] at h
      cases k with
      | zero => obtain rfl : y = x := by simpa using hx
                exact hp
      | succ k => exact ih h k x (by omega) (by simpa using hx)
theorem findF_none {α : Type} {p : α → Bool} : ∀ {l : List α} {i : Nat}, findF p l i = none → ∀ x ∈ l, p x = false := by
  intro l
  induction l with
  | nil => intro i _ x hx; cases hx
  | cons y l ih =>
    intro i h x hx
    rw [findF] at h
    cases hp : p y with
    | true => rw [hp] at h; cases h
    | false =>
      rw [hp] at h
      rcases List.mem_cons.1 hx with rfl | hx
      · exact hp
      · exact ih h x hx
theorem one_m (n : Nat) (s : List UInt8) (a : Nat) (hs : s.length < 1000000) (hn : s.length + 30 < n) (ha : a < s.length) : m_ref01_one n s (a : Int) = some (tokOf s a (oneL (s.drop a))) := by
  obtain ⟨n, rfl⟩ : ∃ j, n = j + 2 := ⟨n - 2, by omega⟩
  have hd : s.drop a = s[a] :: s.drop (a + 1) := List.drop_eq_getElem_cons ha
  have hcons : ∀ p, runLen p (s.drop a) = if p s[a].toNat then runLen p (s.drop (a + 1)) + 1 else 0 := fun p => by rw [hd, runLen_cons]
  have hlen := fun p => runLen_le p (s.drop a)
  rw [List.length_drop] at hlen
  have hone : oneL (s.drop a) = if letterB s[a].toNat then (if runLen wordB (s.drop a) > 16 then .err 2 else .tok 1 (runLen wordB (s.drop a)) 0)
    else if digitB s[a].toNat then (if valueL ((s.drop a).take (runLen digitB (s.drop a))) > 9999 then .err 4 else .tok 2 (runLen digitB (s.drop a)) (valueL ((s.drop a).take (runLen digitB (s.drop a)))))
    else if signLen (s.drop a) = 0 then .err 3 else .tok 3 (signLen (s.drop a)) 0 := by rw [hd]; rfl
  have cut : ∀ m : Nat, m ≤ s.length - a → (decide (0 ≤ ((a + m : Nat) : Int)) && decide (((a + m : Nat) : Int) ≤ (s.length : Int)) && decide (0 ≤ (a : Int)) && decide ((a : Int) ≤ ((a + m : Nat) : Int))) = true := by
    intro m hm
    rw [decide_eq_true (by omega), decide_eq_true (by omega), decide_eq_true (by omega), decide_eq_true (by omega)]; rfl
  rw [m_ref01_one, ref01_one_L0, bif_decide (by omega), idx_some (List.getElem?_eq_getElem ha), Option.bind_some, rletter_m, Option.bind_some, wrap_one a (by omega), bif_not (show ¬ (a : Int) < (a : Int) by omega), hone]
  cases hl : letterB (s[a].toNat : Int) with
  | true =>
    have hw : wordB (s[a].toNat : Int) = true := by unfold wordB; rw [hl]; rfl
    have h1 := hcons wordB
    rw [if_pos hw] at h1
    have h2 := hlen wordB
    rw [cond_true, word_L n s hs a n (a + 1) (by omega) (by omega) (by omega), if_pos rfl]
    have e : a + 1 + runLen wordB (s.drop (a + 1)) = a + runLen wordB (s.drop a) := by omega
    rw [e]
    simp only [Option.bind_some]
    rw [bif_decide (by omega), wrap64 (by omega)]
    by_cases c : runLen wordB (s.drop a) > 16
    · rw [bif_decide (by omega), if_pos c]; rfl
    · rw [bif_not (by omega), if_neg c, cut _ (by omega), cond_true, Int.toNat_natCast, Int.toNat_natCast, take_drop']; rfl
  | false =>
    rw [cond_false, if_neg (by simp)]
    simp only [Option.bind_some]
    rw [bif_not (show ¬ (a : Int) < (a : Int) by omega)]
    have hD := digits_L n s hs (s.length - a) (n + 1) a 0 (by omega) (by omega) (by omega)
    have hD : ref01_one_L1 (n + 1) s (n + 1) (a : Int) 0 = some (.out (((a + runLen digitB (s.drop a) : Nat) : Int), ((valueL ((s.drop a).take (runLen digitB (s.drop a))) : Nat) : Int))) := hD
    rw [hD]
    simp only [Option.bind_some]
    have h1 := hcons digitB
    cases hg : digitB (s[a].toNat : Int) with
    | true =>
      rw [hg, if_pos rfl] at h1
      have h2 := hlen digitB
      rw [bif_decide (by omega), if_pos rfl]
      by_cases c : valueL ((s.drop a).take (runLen digitB (s.drop a))) > 9999
      · rw [bif_decide (by omega), if_pos c]; rfl
      · rw [bif_not (by omega), if_neg c, cut _ (by omega), cond_true, Int.toNat_natCast, Int.toNat_natCast, take_drop']; rfl
    | false =>
      rw [hg, if_neg (by simp)] at h1
      rw [bif_not (by omega), if_neg (by simp), signs_is, Option.bind_some, sign_L (n + 1) s hs a (by omega) (by omega)]
      cases hf : findF (fun x : List UInt8 => decide (x <+: s.drop a)) signsL 0 with
      | none =>
        have hnone : signLen (s.drop a) = 0 := signLen_none fun j hj => by
          have := findF_none hf signsL[j] (List.getElem_mem hj)
          simpa using this
        rw [hnone, if_pos rfl]; rfl
      | some j =>
        obtain ⟨_, j2, x, j3, j4⟩ := findF_lt hf
        rw [Nat.sub_zero] at j3
        have hj : j < signsL.length := by omega
        have hx : signsL[j] = x := by rw [List.getElem?_eq_getElem hj] at j3; exact Option.some.inj j3
        have hfirst := signLen_first (l := s.drop a) hj (by rw [hx]; simpa using j4) (fun k hk hkj => by
          have := findF_least hf k signsL[k] (by omega) (List.getElem?_eq_getElem hk)
          simpa using this)
        rw [hx] at hfirst
        have hx0 : 0 < x.length := by
          have : signsL.all (fun x => decide (0 < x.length)) = true := by decide
          have := List.all_eq_true.1 this x (List.mem_of_getElem? j3)
          simpa using this
        rw [hfirst.1, if_neg (by omega)]
        simp only [j3, Option.bind_some, tokOf, hfirst.2]
        rfl
def tkS (t : Tok) : S_api_Token := ⟨t.kind, t.text, t.n, t.at'⟩
def resS (r : ScanRes) : List S_api_Token × Int × Int := (r.toks.map tkS, r.err, r.at')
def outS (r : LR (List S_api_Token) (List S_api_Token × Int × Int)) : List S_api_Token × Int × Int := match r with
  | .out x => (x, 0, 0)
  | .ret x => x
theorem scan_L (n : Nat) (s : List UInt8) (hs : s.length ≤ 20000) (hn : s.length + 40 < n) : ∀ (m k p f : Nat) (acc : List Tok), s.length - p ≤ m → m < k → (s.drop p).length < f → p ≤ s.length → acc.length ≤ p →
    (ref01_Scan_L0 n s k ((p + gapS false (s.drop p) : Nat) : Int) (acc.map tkS)).map outS = some (resS (lexFrom f (s.drop p) p acc)) := by
  intro m
  induction m with
  | zero =>
    intro k p f acc hm hk hf hp ha
    obtain ⟨k, rfl⟩ : ∃ j, k = j + 1 := ⟨k - 1, by omega⟩
    obtain ⟨f, rfl⟩ : ∃ j, f = j + 1 := ⟨f - 1, by omega⟩
    obtain rfl : p = s.length := by omega
    rw [List.drop_length, ref01_Scan_L0, bif_not (by simp [gapS])]; rfl
  | succ m ih =>
    intro k p f acc hm hk hf hp ha
    obtain ⟨k, rfl⟩ : ∃ j, k = j + 1 := ⟨k - 1, by omega⟩
    obtain ⟨f, rfl⟩ : ∃ j, f = j + 1 := ⟨f - 1, by omega⟩
    have hg := gapS_le false (s.drop p)
    rw [List.length_drop] at hg
    have hdd : (s.drop p).drop (gapS false (s.drop p)) = s.drop (p + gapS false (s.drop p)) := by rw [List.drop_drop]
    generalize hi : p + gapS false (s.drop p) = i at *
    rw [lexFrom, hdd, hi]
    by_cases c : i < s.length
    · have hcons : s.drop i = s[i] :: s.drop (i + 1) := List.drop_eq_getElem_cons c
      rw [ref01_Scan_L0, bif_decide (by omega), one_m n s i (by omega) (by omega) c, Option.bind_some]
      rw [hcons]
      dsimp only
      rw [← hcons]
      cases ho : oneL (s.drop i) with
      | err e =>
        have he : (e != 0) = true := oneL_err ho
        simp only [tokOf, he, cond_true]; rfl
      | tok kd ln v =>
        obtain ⟨l1, l2⟩ := oneL_len ho
        rw [List.length_drop] at l2
        have htl : ((s.drop i).take ln).length = ln := by rw [List.length_take, List.length_drop]; omega
        have e0 : ((0 : Int) != 0) = false := rfl
        simp only [tokOf, e0, cond_false, htl]
        rw [bif_decide (by rw [List.length_map]; omega), wrap64 (by omega), show (i : Int) + (ln : Int) = ((i + ln : Nat) : Int) by omega, gap_m n s (i + ln) (by omega) (by omega) (by omega), Option.bind_some]
        have hh := ih k (i + ln) f (acc ++ [⟨kd, (s.drop i).take ln, v, (i : Nat)⟩]) (by omega) (by omega) (by rw [List.length_drop] at hf ⊢; omega) (by omega) (by simp; omega)
        rw [List.map_append] at hh
        rw [List.drop_drop]
        exact hh
    · obtain rfl : i = s.length := by omega
      rw [List.drop_length, ref01_Scan_L0, bif_not (by omega)]; rfl
theorem scan_m (n : Nat) (s : List UInt8) (hs : s.length < 1000000) (hn : s.length + 50 < n) : m_ref01_Scan n s = some (resS (scanL s)) := by
  obtain ⟨n, rfl⟩ : ∃ j, n = j + 1 := ⟨n - 1, by omega⟩
  rw [m_ref01_Scan, scanL]
  by_cases c : 20000 < (s.length : Int)
  · rw [bif_decide c, if_pos (by omega)]; rfl
  · rw [bif_not c, if_neg (by omega), show (0 : Int) = ((0 : Nat) : Int) from rfl, gap_m n s 0 (by omega) (by omega) (by omega), Option.bind_some]
    obtain ⟨r, h1, h2⟩ := Option.map_eq_some_iff.1 (scan_L n s (by omega) (by omega) s.length n 0 (s.length + 1) [] (by omega) (by omega) (by simp) (by omega) (by simp))
    have h1 : ref01_Scan_L0 n s n ((0 + gapS false (s.drop 0) : Nat) : Int) [] = some r := h1
    rw [h1, Option.bind_some]
    have h2 : outS r = resS (lexFrom (s.length + 1) s 0 []) := by rw [h2, List.drop_zero]
    rw [← h2]
    cases r <;> rfl
end Go.Proofs.YtgelgahilfojdaaGreat
end
