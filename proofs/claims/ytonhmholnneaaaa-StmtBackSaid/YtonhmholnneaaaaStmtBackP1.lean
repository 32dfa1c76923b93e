/- Parts of the proofs: what they lean on. Conditions: none. -/
import Derived.Test.YtonhmholnneaaaaProg
import Derived.Test.YtonhmholnneaaaaStmS11
section
namespace Go.Proofs.Ytonhmholnneaaaa
set_option linter.unusedVariables false
structure S_api_Node where
  f_Op : Int
  f_N : Int
  f_Name : (List UInt8)
  f_In : (List UInt8)
  f_At : Int
  deriving DecidableEq, Inhabited
def c_api_Node (x : S_api_Node) : List AV := [AV.int .i64 (x.f_Op), AV.int .i64 (x.f_N), AV.str (x.f_Name), AV.str (x.f_In), AV.int .i64 (x.f_At)]
def c_sl___api_Node (l : (List S_api_Node)) : List AV := [AV.sl 5 (List.map c_api_Node l)]
structure S_api_Stmt where
  f_Kind : Int
  f_Reg : (List UInt8)
  f_Loc : (List UInt8)
  f_E : (List S_api_Node)
  f_F : (List S_api_Node)
  f_Ne : Bool
  f_Body : Int
  f_Else : Int
  f_At : Int
  deriving DecidableEq, Inhabited
def c_api_Stmt (x : S_api_Stmt) : List AV := [AV.int .i64 (x.f_Kind), AV.str (x.f_Reg), AV.str (x.f_Loc), AV.sl 5 (List.map c_api_Node (x.f_E)), AV.sl 5 (List.map c_api_Node (x.f_F)), AV.bool (x.f_Ne), AV.int .i64 (x.f_Body), AV.int .i64 (x.f_Else), AV.int .i64 (x.f_At)]
structure S_api_Token where
  f_Kind : Int
  f_Text : (List UInt8)
  f_N : Int
  f_At : Int
  deriving DecidableEq, Inhabited
def c_api_Token (x : S_api_Token) : List AV := [AV.int .i64 (x.f_Kind), AV.str (x.f_Text), AV.int .i64 (x.f_N), AV.int .i64 (x.f_At)]
structure S_stmt_kind where
  f_word : (List UInt8)
  f_form : (List UInt8)
  f_body : Bool
  f_more : Bool
  deriving DecidableEq, Inhabited
def c_stmt_kind (x : S_stmt_kind) : List AV := [AV.str (x.f_word), AV.str (x.f_form), AV.bool (x.f_body), AV.bool (x.f_more)]
def c_mp_map_string_int (p : ((List UInt8) × Int)) : List AV := [AV.str (p.1), AV.int .i64 (p.2)]
theorem look_c_mp_map_string_int (l : List ((List UInt8) × Int)) (k : (List UInt8)) (z : Int) : mpLook (AV.int .i64 (z)) (List.map c_mp_map_string_int l) (AV.str (k)) = AV.int .i64 (mget l k z) := look_map (ek := fun x => AV.str (x)) (ev := fun x => AV.int .i64 (x)) (c := c_mp_map_string_int) (fun _ => rfl) keyB_str k z l
theorem set_c_mp_map_string_int (l : List ((List UInt8) × Int)) (k : (List UInt8)) (v : Int) : mpSet (List.map c_mp_map_string_int l) (AV.str (k)) (AV.int .i64 (v)) = List.map c_mp_map_string_int (mset l k v) := set_map (ek := fun x => AV.str (x)) (ev := fun x => AV.int .i64 (x)) (c := c_mp_map_string_int) (fun _ => rfl) keyB_str k v l
theorem ls : (∀ {α β : Type} {f : α → β} {l : List α}, (l.map f).length = l.length) ∧ (∀ {α β : Type} (f : α → β) (l : List α), List.take l.length (List.map f l) = List.map f l) ∧ Program.cellsOf Try.prog 38 = 1 ∧ Program.cellsOf Try.prog 61 = 5 ∧ Program.cellsOf Try.prog 40 = 9 ∧ Program.cellsOf Try.prog 34 = 4 ∧ Program.cellsOf Try.prog 3 = 1 ∧ Program.cellsOf Try.prog 55 = 4 ∧ Program.cellsOf Try.prog 9 = 1 ∧ Program.cellsOf Try.prog 5 = 1 :=
  ⟨List.length_map .., take_map_len, by kernel_rfl, by kernel_rfl, by kernel_rfl, by kernel_rfl, by kernel_rfl, by kernel_rfl, by kernel_rfl, by kernel_rfl⟩
theorem lt : (∀ {α β : Type} (f : α → β) (l : List α), List.take l.length (List.map f l) = List.map f l) ∧ Program.cellsOf Try.prog 38 = 1 ∧ Program.cellsOf Try.prog 61 = 5 ∧ Program.cellsOf Try.prog 40 = 9 ∧ Program.cellsOf Try.prog 34 = 4 ∧ Program.cellsOf Try.prog 3 = 1 ∧ Program.cellsOf Try.prog 55 = 4 ∧ Program.cellsOf Try.prog 9 = 1 ∧ Program.cellsOf Try.prog 5 = 1 :=
  ls.2
theorem cq {ρ : Type} {cont : Tm → Hp → Option ρ} {tm tm' : Tm} {hp hp' : Hp} {r : Option ρ} (h : cont tm' hp' = r) (h1 : tm = tm' := by first | rfl | (simp only [ls] <;> rfl) | (simp only [ls, List.map_append, List.map_cons, List.map_nil, List.append_nil, List.length_set, length_copyL] <;> rfl)) (h2 : hp = hp' := by first | rfl | (simp only [ls] <;> rfl) | (simp only [ls, List.map_append, List.map_cons, List.map_nil, List.append_nil, List.length_set, length_copyL] <;> rfl)) : cont tm hp = r := cont_eq h h1 h2
theorem kq {ρ : Type} {K : Ex → Tm → Hp → Option ρ} {e : Ex} {tm tm' : Tm} {hp hp' : Hp} {r : Option ρ} (h : K e tm' hp' = r) (h1 : tm = tm' := by first | rfl | (simp only [ls] <;> rfl) | (simp only [ls, List.map_append, List.map_cons, List.map_nil, List.append_nil, List.length_set, length_copyL] <;> rfl)) (h2 : hp = hp' := by first | rfl | (simp only [ls] <;> rfl) | (simp only [ls, List.map_append, List.map_cons, List.map_nil, List.append_nil, List.length_set, length_copyL] <;> rfl)) : K e tm hp = r := kont_eq h h1 h2
theorem fq {ρ : Type} {x y z : Option ρ} (h : x = y := by first | rfl | (simp only [length_copyL, List.length_set] <;> rfl) | (simp only [ls] <;> rfl)) (h2 : y = z := by first | rfl | (simp only [List.map_take, List.map_drop]; done) | (simp only [List.map_take, List.map_drop] <;> rfl) | (simp only [ls, List.drop_zero, List.length_set, length_copyL] <;> rfl)) : x = z := h.trans h2
theorem c0 : ((0 : Nat) : Int) = 0 := rfl
theorem rq {ρ : Type} {x z : Option ρ} (h : x = z := by first | rfl | (simp only [ls] <;> rfl)) : x = z := h
abbrev iA (x : Int) : AV := .int .i64 x
abbrev bA (x : Bool) : AV := .bool x
abbrev sA (x : List UInt8) : AV := .str x
theorem sj {α : Type} {a r : α} (h : some a = some r) : a = r := Option.some.inj h
theorem lq {ρ σ τ ν : Type} {body : Tm → Hp → (Ex → Tm → Hp → Option ρ) → Option ρ} {keep : Nat → List Nat} {h0 : Nat} {K : Ex → Tm → Hp → Option ρ} {r : Option ρ} (id : Nat) (tmOf : σ → (Nat → Nat) → Tm) (hpOf : σ → (Nat → Nat) → Hp) (tmX : τ → (Nat → Nat) → Tm) (hpX : τ → (Nat → Nat) → Hp) (encR : ν → ρ) (L : Nat → σ → Option (LR τ ν)) (hL : ∀ s, L 0 s = none) (o : LR τ ν) (n : Nat) (s : σ) (a : Nat → Nat) {tm : Tm} {hp : Hp} (h : L n s = some o)
    (hround : ∀ (k : Nat) (s : σ) (a : Nat → Nat) (K' : Ex → Tm → Hp → Option ρ) (cont : Tm → Hp → Option ρ), (∀ tm hp, K' .ret tm hp = K .ret tm hp) → (∀ s' a', L k s' = some o → cont (tmOf s' a') (hpOf s' a') = r) → L (k + 1) s = some o → LRes K' id tmX hpX encR r o →
      forceL force (fun tm => forceHp (fun hp => body tm hp (fun e tm hp => forceL force (fun tm => forceHp (fun hp => match e with
        | .normal => cont tm hp
        | .exit id => K' (.exit id) tm hp
        | .ret => K' .ret tm hp) (waneHp h0 hp)) (keepTm (keep (exMode e)) h0 hp 0 tm))) (hpOf s a)) (tmOf s a) = r)
    (hx : LRes K id tmX hpX encR r o)
    (h1 : tm = tmOf s a := by first | rfl | (simp only [ls] <;> rfl) | (simp only [ls, List.map_append, List.map_cons, List.map_nil, List.append_nil, List.length_set, length_copyL] <;> rfl)) (h2 : hp = hpOf s a := by first | rfl | (simp only [ls] <;> rfl) | (simp only [ls, List.map_append, List.map_cons, List.map_nil, List.append_nil, List.length_set, length_copyL] <;> rfl)) : rounds body keep h0 n tm hp K = r :=
  rounds_sim id tmOf hpOf tmX hpX encR L hL o hround n s a tm hp h hx h1 h2
theorem lrc {ρ τ ν : Type} {K : Ex → Tm → Hp → Option ρ} {id : Nat} {tmX : τ → (Nat → Nat) → Tm} {hpX : τ → (Nat → Nat) → Hp} {encR : ν → ρ} {r : Option ρ} {o : LR τ ν} (h1 : ∀ v, o = .ret v → r = some (encR v)) (h2 : ∀ t a, o = .out t → K (.exit id) (tmX t a) (hpX t a) = r) : LRes K id tmX hpX encR r o := by
  cases o with
  | out t => exact fun a => h2 t a rfl
  | ret v => exact h1 v rfl
theorem nn {α : Type} {r : α} {P : Prop} : (none : Option α) = some r → P := fun h => by cases h
theorem chk_k {α : Type} {c : Bool} {a : Option α} {r : α} {G : Prop} (h1 : c = true → a = some r → G) : (bif c then a else none) = some r → G := fun h => chk_some2 h h1
theorem br {α ρ : Type} {c : Bool} {a b : Option α} {r : α} {L L1 L2 R : ρ} (k1 : a = some r → L1 = R) (k2 : b = some r → L2 = R) (w1 : c = true → L = L1 := by (intro hc; simp only [hc, ls]; (conv => lhs; whnf); try exact rfl)) (w2 : c = false → L = L2 := by (intro hc; simp only [hc, ls]; (conv => lhs; whnf); try exact rfl)) : (bif c then a else b) = some r → L = R := by
  cases c
  · exact fun h => (w2 rfl).trans (k2 h)
  · exact fun h => (w1 rfl).trans (k1 h)
theorem bt {α ρ : Type} {c : Bool} {a : Option α} {r : α} {L L1 R : ρ} (k1 : a = some r → L1 = R) (w1 : c = true → L = L1 := by (intro hc; simp only [hc, ls]; (conv => lhs; whnf); try exact rfl)) : (bif c then a else none) = some r → L = R := by
  cases c
  · exact fun h => nn h
  · exact fun h => (w1 rfl).trans (k1 h)
theorem cp {α ρ : Type} {c : Bool} {a : Option α} {r : α} {L L1 R : ρ} (k1 : a = some r → L1 = R) (w1 : c = true → ∀ q, L1 = q → L = q := by (intro hc q hq; refine bif_pos hc ?_; try simp only [ls]; (conv => lhs; whnf); exact hq)) : (bif c then a else none) = some r → L = R := chk_k fun hc h => w1 hc _ (k1 h)
theorem sl {α : Type} (f : α → List AV) (l : List α) (i j : Nat) : List.drop i (List.take j (List.map f l)) = List.map f (List.drop i (List.take j l)) := by rw [List.map_drop, List.map_take]
theorem cs {α ρ : Type} {c : Bool} {a : Option α} {r : α} {E : Prop} {L L1 R : ρ} (e : E) (k1 : a = some r → L1 = R) (w1 : c = true → E → ∀ q, L1 = q → L = q := by (intro hc he q hq; try simp only [ls]; refine bif_pos hc ?_; simp only [he, ls]; (conv => lhs; whnf); exact hq)) : (bif c then a else none) = some r → L = R := chk_k fun hc h => w1 hc e _ (k1 h)
theorem ixs {β ρ : Type} {l : List UInt8} {i : Int} {g : UInt8 → Option β} {r : β} {L : ρ} {L1 : UInt8 → ρ} {R : ρ} (k : ∀ x, g x = some r → L1 x = R) (w : ∀ x, idx l i = some x → ∀ q, L1 x = q → L = q := by (intro x hx q hq; refine bif_pos (idx_in hx) ?_; simp only [idx_str hx, ls]; (conv => lhs; whnf); exact hq)) : (idx l i).bind g = some r → L = R := fun h => bind_some2 h fun x hx h2 => w x hx _ (k x h2)
theorem ix {α β ρ : Type} {l : List α} {i : Int} {g : α → Option β} {r : β} {L : ρ} {L1 : α → ρ} {R : ρ} (k : ∀ x, g x = some r → L1 x = R) (w : ∀ x, idx l i = some x → ∀ q, L1 x = q → L = q := by (intro x hx q hq; refine bif_pos (by first | exact idx_in hx | exact idx_in' hx | (have z := idx_in hx; simp only [ls] at z ⊢; exact z)) ?_; simp only [idx_nth hx, ls]; (conv => lhs; whnf); exact hq)) : (idx l i).bind g = some r → L = R := fun h => bind_some2 h fun x hx h2 => w x hx _ (k x h2)
theorem ca {α β ρ : Type} {P : Program} {H : Hints} {X : Ext} {call : CallT} {n : Nat} {m : Option α} {g : α → Option β} {r : β} {f : FuncId} {a : List AV} {p : Hp} {v : α → Option (AV × Hp)} {L : ρ} {L1 : α → ρ} {R : ρ} (hc : ∀ g l h, call false g l h = callN P H X n g l h) (hk : ∀ y, m = some y → callN P H X n f a p = v y) (k : ∀ y, g y = some r → L1 y = R) (w : ∀ y, call false f a p = v y → L = L1 y := by (intro y hk; (first | simp only [hk] | rewrite [hk] | (simp only [ls]; simp only [hk])); (conv => lhs; whnf); try exact rfl)) : m.bind g = some r → L = R := fun h => bind_some2 h fun y hy h2 => (w y ((hc _ _ _).trans (hk y hy))).trans (k y h2)
theorem cr {α β ρ : Type} {P : Program} {H : Hints} {X : Ext} {call : CallT} {n : Nat} {m : Option α} {g : α → Option β} {r : β} {f : FuncId} {a : List AV} {p : Hp} {v : α → Option (AV × Hp)} {L : ρ} {L1 : α → ρ} {R : ρ} (hc : ∀ g l h, call false g l h = callN P H X n g l h) (hk : ∀ y, m = some y → callN P H X n f a p = v y) (k : ∀ y, g y = some r → L1 y = R) (w : ∀ y, call false f a p = v y → L = L1 y := by (intro y hk; (try simp only [List.length_nil, List.map_nil] at hk); (try simp only [List.length_nil, List.map_nil]); (try simp only [List.drop_zero, ls]); (first | simp only [hk] | rewrite [hk]); (try simp only [ls]); (conv => lhs; whnf); try exact rfl)) : m.bind g = some r → L = R := ca hc hk k w
theorem ap {α : Type} (f : α → List AV) (a : List (List AV)) (l : List α) (y : List (List AV)) (m : List α) (ha : a = List.map f l := by rfl) (hy : y = List.map f m := by rfl) : a ++ y = List.map f (l ++ m) ∧ a.length + y.length = (l ++ m).length ∧ l.length + y.length = (l ++ m).length ∧ l.length + m.length = (l ++ m).length ∧ a.length + m.length = (l ++ m).length := by
  subst ha; subst hy; simp
theorem ar {α ρ : Type} {c : Bool} {a : Option α} {r : α} {E : Prop} {L L1 R : ρ} (e : E) (k1 : a = some r → L1 = R) (w1 : c = true → E → ∀ q, L1 = q → L = q := by (intro hc he q hq; (first | refine bif_pos (app_row hc (by first | rfl | simp only [List.length_map]) (by first | rfl | simp only [List.length_map]) (by first | rfl | simp only [List.length_map, take_map_len]) (by kernel_rfl)) ?_ | refine bif_pos (app_row2 hc (by first | rfl | simp only [List.length_map]) (by first | rfl | simp only [List.length_map, take_map_len]) (by kernel_rfl)) ?_); (try simp only [lt]); (try simp only [he]); (try simp only [ls, c0]); (try simp only [he]); (try simp only [ls]); (conv => lhs; whnf); exact hq)) : (bif c then a else none) = some r → L = R := chk_k fun hc h => w1 hc e _ (k1 h)
theorem rz {α ρ : Type} {a r : α} {L R : ρ} (k : a = r → L = R := by (intro e; cases e; first | rfl | (simp only [ls] <;> rfl))) : some a = some r → L = R := fun h => k (sj h)
end Go.Proofs.Ytonhmholnneaaaa
end
section
namespace Go.Proofs.Ytonhmholnneaaaa
set_option linter.unusedVariables false
set_option linter.unusedSimpArgs false
theorem rep_one {α : Type} {r : Rd α} {f : α → AV} (he : Enc r (fun x => [f x])) {W : World} {s : Option Addr} {len cap : Nat} {x : α} (h : r.rel W (Value.slice s len cap).cells.toList x) : Rep (SAll W) W [] [] (f x) (.slice s len cap) := by
  obtain ⟨h1, _⟩ := he _ _ _ h
  cases h1 with | cons _ _ _ _ _ _ h t => exact h
theorem bs_inj {a b : List UInt8} (h : bs a = bs b) : a = b := by
  have := congrArg (fun x : ByteArray => x.data.toList) h
  simpa [bs] using this
def rd_int_i64 : Rd Int := rInt .i64
theorem op_int_i64 : Opens Try.prog 3 rd_int_i64 := opens_int Try.underlying3 (by kernel_rfl)
theorem en_int_i64 : Enc rd_int_i64 encI := enc_int _
def rd_string : Rd (List UInt8) := rStr
theorem op_string : Opens Try.prog 9 rd_string := opens_str Try.underlying9 (by kernel_rfl)
theorem en_string : Enc rd_string encS := enc_str
def rd_api_Node : Rd S_api_Node := rMap (fun x => ⟨x.1, x.2.1, x.2.2.1, x.2.2.2.1, x.2.2.2.2⟩) (rPair rd_int_i64 (rPair rd_int_i64 (rPair rd_string (rPair rd_string rd_int_i64))))
theorem op_api_Node : Opens Try.prog 61 rd_api_Node := opens_map _ (opens_struct Try.underlying61 (by kernel_rfl) (fields_cons rfl op_int_i64 (fields_cons rfl op_int_i64 (fields_cons rfl op_string (fields_cons rfl op_string (fields_one rfl op_int_i64) (by decide)) (by decide)) (by decide)) (by decide)))
theorem en_api_Node : Enc rd_api_Node c_api_Node := enc_map (fun _ => rfl) (enc_pair en_int_i64 (enc_pair en_int_i64 (enc_pair en_string (enc_pair en_string en_int_i64))))
def rd_sl_api_Node : Rd (List S_api_Node) := rSlice rd_api_Node
theorem op_sl_api_Node : Opens Try.prog 38 rd_sl_api_Node := opens_slice Try.underlying38 (by kernel_rfl) op_api_Node (by decide)
theorem en_sl_api_Node : Enc rd_sl_api_Node (fun l => [AV.sl 5 (l.map c_api_Node)]) := enc_slice en_api_Node
def rd_bool : Rd Bool := rBool
theorem op_bool : Opens Try.prog 4 rd_bool := opens_bool Try.underlying4 (by kernel_rfl)
theorem en_bool : Enc rd_bool encBl := enc_bool
def rd_api_Stmt : Rd S_api_Stmt := rMap (fun x => ⟨x.1, x.2.1, x.2.2.1, x.2.2.2.1, x.2.2.2.2.1, x.2.2.2.2.2.1, x.2.2.2.2.2.2.1, x.2.2.2.2.2.2.2.1, x.2.2.2.2.2.2.2.2⟩) (rPair rd_int_i64 (rPair rd_string (rPair rd_string (rPair rd_sl_api_Node (rPair rd_sl_api_Node (rPair rd_bool (rPair rd_int_i64 (rPair rd_int_i64 rd_int_i64))))))))
theorem op_api_Stmt : Opens Try.prog 40 rd_api_Stmt := opens_map _ (opens_struct Try.underlying40 (by kernel_rfl) (fields_cons rfl op_int_i64 (fields_cons rfl op_string (fields_cons rfl op_string (fields_cons rfl op_sl_api_Node (fields_cons rfl op_sl_api_Node (fields_cons rfl op_bool (fields_cons rfl op_int_i64 (fields_cons rfl op_int_i64 (fields_one rfl op_int_i64) (by decide)) (by decide)) (by decide)) (by decide)) (by decide)) (by decide)) (by decide)) (by decide)))
theorem en_api_Stmt : Enc rd_api_Stmt c_api_Stmt := enc_map (fun _ => rfl) (enc_pair en_int_i64 (enc_pair en_string (enc_pair en_string (enc_pair en_sl_api_Node (enc_pair en_sl_api_Node (enc_pair en_bool (enc_pair en_int_i64 (enc_pair en_int_i64 en_int_i64))))))))
def rd_sl_api_Stmt : Rd (List S_api_Stmt) := rSlice rd_api_Stmt
theorem op_sl_api_Stmt : Opens Try.prog 22 rd_sl_api_Stmt := opens_slice Try.underlying22 (by kernel_rfl) op_api_Stmt (by decide)
theorem en_sl_api_Stmt : Enc rd_sl_api_Stmt (fun l => [AV.sl 9 (l.map c_api_Stmt)]) := enc_slice en_api_Stmt
end Go.Proofs.Ytonhmholnneaaaa
end
section
namespace Go.Proofs.Ytonhmholnneaaaa
set_option linter.unusedVariables false
set_option linter.unusedSimpArgs false
set_option maxRecDepth 100000
set_option maxHeartbeats 4000000
noncomputable abbrev CN := callN Try.prog HH XT
def ref01_gap_L1 (n:Nat)  (v0_s:(List UInt8)):Nat→Int→Option (LR Int Int)
  | 0,_=>none
  | k22+1,s21=>(bif decide (s21<((v0_s.length:Nat):Int)) then ((idx v0_s s21).bind fun x31=>(bif ((x31.toNat:Int) != 10) then (ref01_gap_L1 n v0_s k22 (IntKind.i64.wrap (s21+1))) else (some (.out s21)))) else (some (.out s21)))
def ref01_gap_L0 (n:Nat)  (v0_s:(List UInt8)):Nat→Int→Option (LR Int Int)
  | 0,_=>none
  | k2+1,s1=>(bif decide (s1<((v0_s.length:Nat):Int)) then ((idx v0_s s1).bind fun x11=>(bif ((x11.toNat:Int)==32) then (ref01_gap_L0 n v0_s k2 (IntKind.i64.wrap (s1+1))) else ((idx v0_s s1).bind fun x13=>(bif ((x13.toNat:Int)==9) then (ref01_gap_L0 n v0_s k2 (IntKind.i64.wrap (s1+1))) else ((idx v0_s s1).bind fun x15=>(bif ((x15.toNat:Int)==10) then (ref01_gap_L0 n v0_s k2 (IntKind.i64.wrap (s1+1))) else ((idx v0_s s1).bind fun x17=>(bif ((x17.toNat:Int)==13) then (ref01_gap_L0 n v0_s k2 (IntKind.i64.wrap (s1+1))) else ((idx v0_s s1).bind fun x19=>(bif ((x19.toNat:Int)==35) then ((ref01_gap_L1 n v0_s n s1).bind fun o29=>match o29 with|.out x34=>(ref01_gap_L0 n v0_s k2 x34)|.ret v=>some (.ret v)) else (some (.ret s1)))))))))))) else (some (.out s1)))
def m_ref01_gap:Nat→(List UInt8)→Int→Option Int
  | 0,_,_=>none
  | n+1,v0_s,v1_at=>((ref01_gap_L0 n v0_s n v1_at).bind fun o9=>match o9 with|.out x37=>(some x37)|.ret v=>some v)
def m_ref01_digit:Nat→Int→Option Bool
  | 0,_=>none
  | n+1,v0_c=>(bif decide (48≤v0_c) then (some (decide (v0_c≤57))) else (some false))
def m_ref01_letter:Nat→Int→Option Bool
  | 0,_=>none
  | n+1,v0_c=>(bif decide (97≤v0_c) then (bif decide (v0_c≤122) then (some true) else (bif decide (65≤v0_c) then (bif decide (v0_c≤90) then (some true) else (some (v0_c==95))) else (some (v0_c==95)))) else (bif decide (65≤v0_c) then (bif decide (v0_c≤90) then (some true) else (some (v0_c==95))) else (some (v0_c==95))))
def m_ref01_signs:Nat→Option (List (List UInt8))
  | 0=>none
  | n+1=>(some ([([61,61]:List UInt8),([33,61]:List UInt8),([60,61]:List UInt8),([38,38]:List UInt8),([124,124]:List UInt8),([59]:List UInt8),([44]:List UInt8),([123]:List UInt8),([125]:List UInt8),([40]:List UInt8),([41]:List UInt8),([46]:List UInt8),([61]:List UInt8),([43]:List UInt8),([45]:List UInt8),([42]:List UInt8),([33]:List UInt8),([60]:List UInt8)]:List (List UInt8)))
def ref01_one_L0 (n:Nat)  (v0_s:(List UInt8)) (v1_at:Int):Nat→Int→Option (LR Int (S_api_Token×Int))
  | 0,_=>none
  | k2+1,s1=>(bif decide (s1<((v0_s.length:Nat):Int)) then ((idx v0_s s1).bind fun x11=>((m_ref01_letter n (x11.toNat:Int)).bind fun y12=>(bif y12 then (ref01_one_L0 n v0_s v1_at k2 (IntKind.i64.wrap (s1+1))) else (bif decide (v1_at<s1) then ((idx v0_s s1).bind fun x16=>((m_ref01_digit n (x16.toNat:Int)).bind fun y17=>(bif y17 then (ref01_one_L0 n v0_s v1_at k2 (IntKind.i64.wrap (s1+1))) else (some (.out s1))))) else (some (.out s1)))))) else (some (.out s1)))
def ref01_one_L1 (n:Nat)  (v0_s:(List UInt8)):Nat→Int→Int→Option (LR (Int×Int) (S_api_Token×Int))
  | 0,_,_=>none
  | k27+1,s25,s26=>(bif decide (s25<((v0_s.length:Nat):Int)) then ((idx v0_s s25).bind fun x36=>((m_ref01_digit n (x36.toNat:Int)).bind fun y37=>(bif y37 then ((idx v0_s s25).bind fun x40=>(ref01_one_L1 n v0_s k27 (IntKind.i64.wrap (s25+1)) (if 10000<(IntKind.i64.wrap ((IntKind.i64.wrap (10 * s26))+(IntKind.i64.wrap (IntKind.u8.wrap ((x40.toNat:Int) - 48))))) then 10000 else (IntKind.i64.wrap ((IntKind.i64.wrap (10 * s26))+(IntKind.i64.wrap (IntKind.u8.wrap ((x40.toNat:Int) - 48)))))))) else (some (.out (s25,s26)))))) else (some (.out (s25,s26))))
def ref01_one_L2 (n:Nat)  (v0_s:(List UInt8)) (v1_at:Int) (y47:(List (List UInt8))):Nat→Int→Option (LR Unit (S_api_Token×Int))
  | 0,_=>none
  | k50+1,s49=>(bif decide (s49<((y47.length:Nat):Int)) then ((idx y47 s49).bind fun x59=>(bif decide ((IntKind.i64.wrap (v1_at+((x59.length:Nat):Int)))≤((v0_s.length:Nat):Int)) then (bif (decide (0≤(IntKind.i64.wrap (v1_at+((x59.length:Nat):Int))))&&decide ((IntKind.i64.wrap (v1_at+((x59.length:Nat):Int)))≤((v0_s.length:Nat):Int))&&decide (0≤v1_at)&&decide (v1_at≤(IntKind.i64.wrap (v1_at+((x59.length:Nat):Int))))) then ((idx y47 s49).bind fun x62=>(bif ((List.drop (v1_at.toNat) (List.take ((IntKind.i64.wrap (v1_at+((x59.length:Nat):Int))).toNat) v0_s))==x62) then ((idx y47 s49).bind fun x64=>(some (.ret ((⟨3,x64,0,v1_at⟩:S_api_Token),0)))) else (ref01_one_L2 n v0_s v1_at y47 k50 (IntKind.i64.wrap (s49+1))))) else none) else (ref01_one_L2 n v0_s v1_at y47 k50 (IntKind.i64.wrap (s49+1))))) else (some (.out ())))
def m_ref01_one:Nat→(List UInt8)→Int→Option (S_api_Token×Int)
  | 0,_,_=>none
  | n+1,v0_s,v1_at=>((ref01_one_L0 n v0_s v1_at n v1_at).bind fun o9=>match o9 with|.out x21=>(bif decide (v1_at<x21) then (bif decide (16<(IntKind.i64.wrap (x21 - v1_at))) then (some ((⟨0,([]:List UInt8),0,0⟩:S_api_Token),2)) else (bif (decide (0≤x21)&&decide (x21≤((v0_s.length:Nat):Int))&&decide (0≤v1_at)&&decide (v1_at≤x21)) then (some ((⟨1,(List.drop (v1_at.toNat) (List.take (x21.toNat) v0_s)),0,v1_at⟩:S_api_Token),0)) else none)) else ((ref01_one_L1 n v0_s n x21 0).bind fun o34=>match o34 with|.out (x42,x43)=>(bif decide (v1_at<x42) then (bif decide (9999<x43) then (some ((⟨0,([]:List UInt8),0,0⟩:S_api_Token),4)) else (bif (decide (0≤x42)&&decide (x42≤((v0_s.length:Nat):Int))&&decide (0≤v1_at)&&decide (v1_at≤x42)) then (some ((⟨2,(List.drop (v1_at.toNat) (List.take (x42.toNat) v0_s)),x43,v1_at⟩:S_api_Token),0)) else none)) else ((m_ref01_signs n ).bind fun y47=>((ref01_one_L2 n v0_s v1_at y47 n 0).bind fun o57=>match o57 with|.out _=>(some ((⟨0,([]:List UInt8),0,0⟩:S_api_Token),3))|.ret v=>some v)))|.ret v=>some v))|.ret v=>some v)
def ref01_Scan_L0 (n:Nat)  (v0_s:(List UInt8)):Nat→Int→(List S_api_Token)→Option (LR (List S_api_Token) ((List S_api_Token)×Int×Int))
  | 0,_,_=>none
  | k6+1,s4,s5=>(bif decide (s4<((v0_s.length:Nat):Int)) then ((m_ref01_one n v0_s s4).bind fun y15=>(bif (y15.2 != 0) then (some (.ret (([]:List S_api_Token),y15.2,s4))) else (bif decide ((s5.length+1) * 41≤140737488355328) then ((m_ref01_gap n v0_s (IntKind.i64.wrap (s4+((y15.1.f_Text.length:Nat):Int)))).bind fun y20=>(ref01_Scan_L0 n v0_s k6 y20 (s5++([y15.1]:List S_api_Token)))) else none))) else (some (.out s5)))
def m_ref01_Scan:Nat→(List UInt8)→Option ((List S_api_Token)×Int×Int)
  | 0,_=>none
  | n+1,v0_s=>(bif decide (20000<((v0_s.length:Nat):Int)) then (some (([]:List S_api_Token),2,20000)) else ((m_ref01_gap n v0_s 0).bind fun y2=>((ref01_Scan_L0 n v0_s n y2 ([]:List S_api_Token)).bind fun o13=>match o13 with|.out x23=>(some (x23,0,0))|.ret v=>some v)))
def ref02_Light_L0 (n:Nat)  (v0_l:(List S_api_Node)):Nat→Int→Option (LR Unit Bool)
  | 0,_=>none
  | k3+1,s2=>(bif decide (s2<((v0_l.length:Nat):Int)) then ((idx v0_l s2).bind fun x12=>(bif decide (100<((x12.f_Name.length:Nat):Int)) then (some (.ret false)) else ((idx v0_l s2).bind fun x14=>(bif decide (100<((x14.f_In.length:Nat):Int)) then (some (.ret false)) else (ref02_Light_L0 n v0_l k3 (IntKind.i64.wrap (s2+1))))))) else (some (.out ())))
def m_ref02_Light:Nat→(List S_api_Node)→Option Bool
  | 0,_=>none
  | n+1,v0_l=>(bif decide (250<((v0_l.length:Nat):Int)) then (some false) else ((ref02_Light_L0 n v0_l n 0).bind fun o10=>match o10 with|.out _=>(some true)|.ret v=>some v))
def ref02_Same_L0 (n:Nat)  (v0_a:(List S_api_Node)) (v1_b:(List S_api_Node)):Nat→Bool→Int→Option (LR Unit Bool)
  | 0,_,_=>none
  | k4+1,s2,s3=>(bif decide (s3<((v0_a.length:Nat):Int)) then ((idx v0_a s3).bind fun x13=>((idx v1_b s3).bind fun x14=>(bif (x13.f_Op != x14.f_Op) then (some (.ret false)) else ((idx v0_a s3).bind fun x16=>((idx v1_b s3).bind fun x17=>(bif (x16.f_N != x17.f_N) then (some (.ret false)) else ((idx v0_a s3).bind fun x19=>((idx v1_b s3).bind fun x20=>(bif (x19.f_Name==x20.f_Name) then ((idx v0_a s3).bind fun x22=>((idx v1_b s3).bind fun x23=>(bif (x22.f_In==x23.f_In) then (bif s2 then ((idx v0_a s3).bind fun x26=>((idx v1_b s3).bind fun x27=>(bif (x26.f_At != x27.f_At) then (some (.ret false)) else (ref02_Same_L0 n v0_a v1_b k4 true (IntKind.i64.wrap (s3+1)))))) else (ref02_Same_L0 n v0_a v1_b k4 false (IntKind.i64.wrap (s3+1)))) else (some (.ret false))))) else (some (.ret false))))))))))) else (some (.out ())))
def m_ref02_Same:Nat→(List S_api_Node)→(List S_api_Node)→Bool→Option Bool
  | 0,_,_,_=>none
  | n+1,v0_a,v1_b,v2_places=>(bif (((v0_a.length:Nat):Int) != ((v1_b.length:Nat):Int)) then (some false) else ((ref02_Same_L0 n v0_a v1_b n v2_places 0).bind fun o11=>match o11 with|.out _=>(some true)|.ret v=>some v))
def m_expr_kids:Nat→Int→Option Int
  | 0,_=>none
  | n+1,v0_op=>(bif decide (1≤v0_op) then (bif decide (v0_op≤4) then (some 0) else (bif (v0_op==5) then (some 1) else (bif decide (6≤v0_op) then (bif decide (v0_op≤14) then (some 2) else (some (-1))) else (some (-1))))) else (bif (v0_op==5) then (some 1) else (bif decide (6≤v0_op) then (bif decide (v0_op≤14) then (some 2) else (some (-1))) else (some (-1)))))
def expr_End_L0 (n:Nat)  (v0_l:(List S_api_Node)):Nat→Int→Int→Option (LR Unit Int)
  | 0,_,_=>none
  | k4+1,s2,s3=>(bif decide (s2<((v0_l.length:Nat):Int)) then ((idx v0_l s2).bind fun x13=>((m_expr_kids n x13.f_Op).bind fun y14=>(bif decide (y14<0) then (some (.ret (-1))) else (bif ((IntKind.i64.wrap (s3+(IntKind.i64.wrap (y14 - 1))))==0) then (some (.ret (IntKind.i64.wrap (s2+1)))) else (expr_End_L0 n v0_l k4 (IntKind.i64.wrap (s2+1)) (IntKind.i64.wrap (s3+(IntKind.i64.wrap (y14 - 1))))))))) else (some (.out ())))
def m_expr_End:Nat→(List S_api_Node)→Int→Option Int
  | 0,_,_=>none
  | n+1,v0_l,v1_i=>(bif decide (v1_i<0) then (some (-1)) else ((expr_End_L0 n v0_l n v1_i 1).bind fun o11=>match o11 with|.out _=>(some (-1))|.ret v=>some v))
def expr_Names_L0 (n:Nat)  (v0_l:(List S_api_Node)):Nat→Int→(List S_api_Node)→Option (LR (List S_api_Node) (List S_api_Node))
  | 0,_,_=>none
  | k3+1,s1,s2=>(bif decide (s1<((v0_l.length:Nat):Int)) then ((idx v0_l s1).bind fun x12=>(bif (x12.f_Op==2) then (bif decide ((s2.length+1) * 57≤140737488355328) then (expr_Names_L0 n v0_l k3 (IntKind.i64.wrap (s1+1)) (s2++([x12]:List S_api_Node))) else none) else (bif (x12.f_Op==3) then (bif decide ((s2.length+1) * 57≤140737488355328) then (expr_Names_L0 n v0_l k3 (IntKind.i64.wrap (s1+1)) (s2++([x12]:List S_api_Node))) else none) else (bif (x12.f_Op==4) then (bif decide ((s2.length+1) * 57≤140737488355328) then (expr_Names_L0 n v0_l k3 (IntKind.i64.wrap (s1+1)) (s2++([x12]:List S_api_Node))) else none) else (expr_Names_L0 n v0_l k3 (IntKind.i64.wrap (s1+1)) s2))))) else (some (.out s2)))
def m_expr_Names:Nat→(List S_api_Node)→Option (List S_api_Node)
  | 0,_=>none
  | n+1,v0_l=>((expr_Names_L0 n v0_l n 0 ([]:List S_api_Node)).bind fun o10=>match o10 with|.out x23=>(some x23)|.ret v=>some v)
def expr_depth_L1 (n:Nat) :Nat→(List Int)→Option (LR (List Int) Int)
  | 0,_=>none
  | k21+1,s20=>(bif decide (0<((s20.length:Nat):Int)) then ((idx s20 (IntKind.i64.wrap (((s20.length:Nat):Int) - 1))).bind fun x30=>((idx s20 (IntKind.i64.wrap (((s20.length:Nat):Int) - 1))).bind fun x31=>((idx (List.set s20 (IntKind.i64.wrap (((s20.length:Nat):Int) - 1)).toNat (IntKind.i64.wrap (x30 - 1))) (IntKind.i64.wrap (((s20.length:Nat):Int) - 1))).bind fun x33=>(bif decide (0<x33) then (some (.out (List.set s20 (IntKind.i64.wrap (((s20.length:Nat):Int) - 1)).toNat (IntKind.i64.wrap (x30 - 1))))) else (bif (decide (0≤(IntKind.i64.wrap (((s20.length:Nat):Int) - 1)))&&decide ((IntKind.i64.wrap (((s20.length:Nat):Int) - 1))≤((((List.set s20 (IntKind.i64.wrap (((s20.length:Nat):Int) - 1)).toNat (IntKind.i64.wrap (x30 - 1)))).length:Nat):Int))) then (expr_depth_L1 n k21 (List.take ((IntKind.i64.wrap (((s20.length:Nat):Int) - 1)).toNat) (List.set s20 (IntKind.i64.wrap (((s20.length:Nat):Int) - 1)).toNat (IntKind.i64.wrap (x30 - 1))))) else none))))) else (some (.out s20)))
def expr_depth_L0 (n:Nat)  (v0_l:(List S_api_Node)):Nat→Int→Int→(List Int)→Option (LR (Int×(List Int)) Int)
  | 0,_,_,_=>none
  | k4+1,s1,s2,s3=>(bif decide (s2<((v0_l.length:Nat):Int)) then ((idx v0_l s2).bind fun x13=>((m_expr_kids n x13.f_Op).bind fun y14=>(bif decide (0<y14) then (bif decide ((s3.length+1) * 9≤140737488355328) then (expr_depth_L0 n v0_l k4 (if s1<((s3.length:Nat):Int) then ((s3.length:Nat):Int) else s1) (IntKind.i64.wrap (s2+1)) (s3++([y14]:List Int))) else none) else ((expr_depth_L1 n n s3).bind fun o28=>match o28 with|.out x38=>(expr_depth_L0 n v0_l k4 (if s1<((s3.length:Nat):Int) then ((s3.length:Nat):Int) else s1) (IntKind.i64.wrap (s2+1)) x38)|.ret v=>some (.ret v))))) else (some (.out (s1,s3))))
def m_expr_depth:Nat→(List S_api_Node)→Option Int
  | 0,_=>none
  | n+1,v0_l=>((expr_depth_L0 n v0_l n 0 0 ([]:List Int)).bind fun o11=>match o11 with|.out (x41,x42)=>(some x41)|.ret v=>some v)
def expr_node_L0 (n:Nat)  (v1_rest:(List (List S_api_Node))):Nat→Int→(List S_api_Node)→Option (LR (List S_api_Node) (List S_api_Node))
  | 0,_,_=>none
  | k3+1,s1,s2=>(bif decide (s1<((v1_rest.length:Nat):Int)) then ((idx v1_rest s1).bind fun x12=>(bif decide ((s2.length+x12.length) * 57≤140737488355328) then (expr_node_L0 n v1_rest k3 (IntKind.i64.wrap (s1+1)) (s2++x12)) else none)) else (some (.out s2)))
def m_expr_node:Nat→S_api_Node→(List (List S_api_Node))→Option (List S_api_Node)
  | 0,_,_=>none
  | n+1,v0_x,v1_rest=>((expr_node_L0 n v1_rest n 0 ([v0_x]:List S_api_Node)).bind fun o10=>match o10 with|.out x16=>(some x16)|.ret v=>some v)
def m_expr_parser_is:Nat→(List UInt8)→(List S_api_Token)→Int→Int→Int→Int→Option Bool
  | 0,_,_,_,_,_,_=>none
  | n+1,v1_s,p_l,p_i,p_in,p_e,p_at=>(bif decide (p_i<((p_l.length:Nat):Int)) then ((idx p_l p_i).bind fun x2=>(bif (x2.f_Kind==3) then ((idx p_l p_i).bind fun x4=>(some (x4.f_Text==v1_s))) else (some false))) else (some false))
def m_expr_parser_fail:Nat→Int→(List S_api_Token)→Int→Int→Int→Int→Option ((List S_api_Node)×Int×Int)
  | 0,_,_,_,_,_,_=>none
  | n+1,v1_e,p_l,p_i,p_in,p_e,p_at=>(bif (p_e != 0) then (some (([]:List S_api_Node),p_e,p_at)) else (bif decide (p_i<((p_l.length:Nat):Int)) then ((idx p_l p_i).bind fun x3=>(some (([]:List S_api_Node),v1_e,x3.f_At))) else (bif (v1_e==5) then (bif decide (0<((p_l.length:Nat):Int)) then ((idx p_l (IntKind.i64.wrap (((p_l.length:Nat):Int) - 1))).bind fun x6=>((idx p_l (IntKind.i64.wrap (((p_l.length:Nat):Int) - 1))).bind fun x7=>(some (([]:List S_api_Node),6,IntKind.i64.wrap (x6.f_At+((x7.f_Text.length:Nat):Int)))))) else (some (([]:List S_api_Node),6,p_at))) else (bif decide (0<((p_l.length:Nat):Int)) then ((idx p_l (IntKind.i64.wrap (((p_l.length:Nat):Int) - 1))).bind fun x9=>((idx p_l (IntKind.i64.wrap (((p_l.length:Nat):Int) - 1))).bind fun x10=>(some (([]:List S_api_Node),v1_e,IntKind.i64.wrap (x9.f_At+((x10.f_Text.length:Nat):Int)))))) else (some (([]:List S_api_Node),v1_e,p_at))))))
def m_expr_parser_name:Nat→(List S_api_Token)→Int→Int→Int→Int→Option ((List UInt8)×Int×Bool×Int)
  | 0,_,_,_,_,_=>none
  | n+1,p_l,p_i,p_in,p_e,p_at=>(bif decide (((p_l.length:Nat):Int)≤p_i) then (some (([]:List UInt8),0,false,p_i)) else ((idx p_l p_i).bind fun x2=>(bif (x2.f_Kind != 1) then (some (([]:List UInt8),0,false,p_i)) else ((idx p_l p_i).bind fun x4=>((m_scan_Name n x4.f_Text).bind fun y5=>(bif y5 then ((idx p_l p_i).bind fun x8=>(some (x8.f_Text,x8.f_At,true,IntKind.i64.wrap (p_i+1)))) else (some (([]:List UInt8),0,false,p_i))))))))
def m_expr_sign:Nat→Int→Option (List UInt8)
  | 0,_=>none
  | n+1,v0_op=>(bif decide (v0_op=((14:Nat):Int)) then (some ([124,124]:List UInt8)) else (bif decide (v0_op=((13:Nat):Int)) then (some ([38,38]:List UInt8)) else (bif decide (v0_op=((12:Nat):Int)) then (some ([60,61]:List UInt8)) else (bif decide (v0_op=((11:Nat):Int)) then (some ([60]:List UInt8)) else (bif decide (v0_op=((10:Nat):Int)) then (some ([33,61]:List UInt8)) else (bif decide (v0_op=((9:Nat):Int)) then (some ([61,61]:List UInt8)) else (bif decide (v0_op=((8:Nat):Int)) then (some ([42]:List UInt8)) else (bif decide (v0_op=((7:Nat):Int)) then (some ([45]:List UInt8)) else (bif decide (v0_op=((6:Nat):Int)) then (some ([43]:List UInt8)) else (bif decide (v0_op=((5:Nat):Int)) then (some ([33]:List UInt8)) else (bif decide (v0_op=((4:Nat):Int)) then (some ([]:List UInt8)) else (bif decide (v0_op=((3:Nat):Int)) then (some ([]:List UInt8)) else (bif decide (v0_op=((2:Nat):Int)) then (some ([]:List UInt8)) else (bif decide (v0_op=((1:Nat):Int)) then (some ([]:List UInt8)) else (bif decide (v0_op=((0:Nat):Int)) then (some ([]:List UInt8)) else none)))))))))))))))
def expr_parser_row_L1 (n:Nat)  (v3_ops:(List Int)) (p_l:(List S_api_Token)) (s5:Int) (s6:Int) (s7:Int) (s8:Int):Nat→Int→Int→Option (LR Int ((List S_api_Node)×Int×Int×Int×Int))
  | 0,_,_=>none
  | k20+1,s18,s19=>(bif decide (s19<((v3_ops.length:Nat):Int)) then ((idx v3_ops s19).bind fun x29=>((m_expr_sign n x29).bind fun y30=>((m_expr_parser_is n y30 p_l s5 s6 s7 s8).bind fun y32=>(bif y32 then (expr_parser_row_L1 n v3_ops p_l s5 s6 s7 s8 k20 x29 (IntKind.i64.wrap (s19+1))) else (expr_parser_row_L1 n v3_ops p_l s5 s6 s7 s8 k20 s18 (IntKind.i64.wrap (s19+1))))))) else (some (.out s18)))
def expr_parser_row_L0 (n:Nat) (rec_expr_parser_both:(List S_api_Token)→Int→Int→Int→Int→Option ((List S_api_Node)×Int×Int×Int×Int)) (v3_ops:(List Int)) (p_l:(List S_api_Token)):Nat→Bool→(List S_api_Node)→Int→Int→Int→Int→Option (LR ((List S_api_Node)×Int×Int×Int×Int) ((List S_api_Node)×Int×Int×Int×Int))
  | 0,_,_,_,_,_,_=>none
  | k9+1,s3,s4,s5,s6,s7,s8=>(bif (s7==0) then ((expr_parser_row_L1 n v3_ops p_l s5 s6 s7 s8 n 0 0).bind fun o27=>match o27 with|.out x36=>(bif (x36==0) then (some (.out (s4,s5,s6,s7,s8))) else ((idx p_l s5).bind fun x38=>((rec_expr_parser_both p_l (IntKind.i64.wrap (s5+1)) s6 s7 s8).bind fun y39=>((m_expr_node n (⟨x36,0,([]:List UInt8),([]:List UInt8),x38.f_At⟩:S_api_Node) ([s4,y39.1]:List (List S_api_Node))).bind fun y41=>(bif s3 then (some (.out (y41,y39.2.1,y39.2.2.1,y39.2.2.2.1,y39.2.2.2.2))) else (expr_parser_row_L0 n rec_expr_parser_both v3_ops p_l k9 false y41 y39.2.1 y39.2.2.1 y39.2.2.2.1 y39.2.2.2.2))))))|.ret v=>some (.ret v)) else (some (.out (s4,s5,s6,s7,s8))))
def expr_parser_row_1_L1 (n:Nat)  (v3_ops:(List Int)) (p_l:(List S_api_Token)) (s5:Int) (s6:Int) (s7:Int) (s8:Int):Nat→Int→Int→Option (LR Int ((List S_api_Node)×Int×Int×Int×Int))
  | 0,_,_=>none
  | k20+1,s18,s19=>(bif decide (s19<((v3_ops.length:Nat):Int)) then ((idx v3_ops s19).bind fun x29=>((m_expr_sign n x29).bind fun y30=>((m_expr_parser_is n y30 p_l s5 s6 s7 s8).bind fun y32=>(bif y32 then (expr_parser_row_1_L1 n v3_ops p_l s5 s6 s7 s8 k20 x29 (IntKind.i64.wrap (s19+1))) else (expr_parser_row_1_L1 n v3_ops p_l s5 s6 s7 s8 k20 s18 (IntKind.i64.wrap (s19+1))))))) else (some (.out s18)))
def expr_parser_row_1_L0 (n:Nat) (rec_expr_parser_compared:(List S_api_Token)→Int→Int→Int→Int→Option ((List S_api_Node)×Int×Int×Int×Int)) (v3_ops:(List Int)) (p_l:(List S_api_Token)):Nat→Bool→(List S_api_Node)→Int→Int→Int→Int→Option (LR ((List S_api_Node)×Int×Int×Int×Int) ((List S_api_Node)×Int×Int×Int×Int))
  | 0,_,_,_,_,_,_=>none
  | k9+1,s3,s4,s5,s6,s7,s8=>(bif (s7==0) then ((expr_parser_row_1_L1 n v3_ops p_l s5 s6 s7 s8 n 0 0).bind fun o27=>match o27 with|.out x36=>(bif (x36==0) then (some (.out (s4,s5,s6,s7,s8))) else ((idx p_l s5).bind fun x38=>((rec_expr_parser_compared p_l (IntKind.i64.wrap (s5+1)) s6 s7 s8).bind fun y39=>((m_expr_node n (⟨x36,0,([]:List UInt8),([]:List UInt8),x38.f_At⟩:S_api_Node) ([s4,y39.1]:List (List S_api_Node))).bind fun y41=>(bif s3 then (some (.out (y41,y39.2.1,y39.2.2.1,y39.2.2.2.1,y39.2.2.2.2))) else (expr_parser_row_1_L0 n rec_expr_parser_compared v3_ops p_l k9 false y41 y39.2.1 y39.2.2.1 y39.2.2.2.1 y39.2.2.2.2))))))|.ret v=>some (.ret v)) else (some (.out (s4,s5,s6,s7,s8))))
def expr_parser_row_2_L1 (n:Nat)  (v3_ops:(List Int)) (p_l:(List S_api_Token)) (s5:Int) (s6:Int) (s7:Int) (s8:Int):Nat→Int→Int→Option (LR Int ((List S_api_Node)×Int×Int×Int×Int))
  | 0,_,_=>none
  | k20+1,s18,s19=>(bif decide (s19<((v3_ops.length:Nat):Int)) then ((idx v3_ops s19).bind fun x29=>((m_expr_sign n x29).bind fun y30=>((m_expr_parser_is n y30 p_l s5 s6 s7 s8).bind fun y32=>(bif y32 then (expr_parser_row_2_L1 n v3_ops p_l s5 s6 s7 s8 k20 x29 (IntKind.i64.wrap (s19+1))) else (expr_parser_row_2_L1 n v3_ops p_l s5 s6 s7 s8 k20 s18 (IntKind.i64.wrap (s19+1))))))) else (some (.out s18)))
def expr_parser_row_2_L0 (n:Nat) (rec_expr_parser_sum:(List S_api_Token)→Int→Int→Int→Int→Option ((List S_api_Node)×Int×Int×Int×Int)) (v3_ops:(List Int)) (p_l:(List S_api_Token)):Nat→Bool→(List S_api_Node)→Int→Int→Int→Int→Option (LR ((List S_api_Node)×Int×Int×Int×Int) ((List S_api_Node)×Int×Int×Int×Int))
  | 0,_,_,_,_,_,_=>none
  | k9+1,s3,s4,s5,s6,s7,s8=>(bif (s7==0) then ((expr_parser_row_2_L1 n v3_ops p_l s5 s6 s7 s8 n 0 0).bind fun o27=>match o27 with|.out x36=>(bif (x36==0) then (some (.out (s4,s5,s6,s7,s8))) else ((idx p_l s5).bind fun x38=>((rec_expr_parser_sum p_l (IntKind.i64.wrap (s5+1)) s6 s7 s8).bind fun y39=>((m_expr_node n (⟨x36,0,([]:List UInt8),([]:List UInt8),x38.f_At⟩:S_api_Node) ([s4,y39.1]:List (List S_api_Node))).bind fun y41=>(bif s3 then (some (.out (y41,y39.2.1,y39.2.2.1,y39.2.2.2.1,y39.2.2.2.2))) else (expr_parser_row_2_L0 n rec_expr_parser_sum v3_ops p_l k9 false y41 y39.2.1 y39.2.2.1 y39.2.2.2.1 y39.2.2.2.2))))))|.ret v=>some (.ret v)) else (some (.out (s4,s5,s6,s7,s8))))
def expr_parser_row_3_L1 (n:Nat)  (v3_ops:(List Int)) (p_l:(List S_api_Token)) (s5:Int) (s6:Int) (s7:Int) (s8:Int):Nat→Int→Int→Option (LR Int ((List S_api_Node)×Int×Int×Int×Int))
  | 0,_,_=>none
  | k20+1,s18,s19=>(bif decide (s19<((v3_ops.length:Nat):Int)) then ((idx v3_ops s19).bind fun x29=>((m_expr_sign n x29).bind fun y30=>((m_expr_parser_is n y30 p_l s5 s6 s7 s8).bind fun y32=>(bif y32 then (expr_parser_row_3_L1 n v3_ops p_l s5 s6 s7 s8 k20 x29 (IntKind.i64.wrap (s19+1))) else (expr_parser_row_3_L1 n v3_ops p_l s5 s6 s7 s8 k20 s18 (IntKind.i64.wrap (s19+1))))))) else (some (.out s18)))
def expr_parser_row_3_L0 (n:Nat) (rec_expr_parser_product:(List S_api_Token)→Int→Int→Int→Int→Option ((List S_api_Node)×Int×Int×Int×Int)) (v3_ops:(List Int)) (p_l:(List S_api_Token)):Nat→Bool→(List S_api_Node)→Int→Int→Int→Int→Option (LR ((List S_api_Node)×Int×Int×Int×Int) ((List S_api_Node)×Int×Int×Int×Int))
  | 0,_,_,_,_,_,_=>none
  | k9+1,s3,s4,s5,s6,s7,s8=>(bif (s7==0) then ((expr_parser_row_3_L1 n v3_ops p_l s5 s6 s7 s8 n 0 0).bind fun o27=>match o27 with|.out x36=>(bif (x36==0) then (some (.out (s4,s5,s6,s7,s8))) else ((idx p_l s5).bind fun x38=>((rec_expr_parser_product p_l (IntKind.i64.wrap (s5+1)) s6 s7 s8).bind fun y39=>((m_expr_node n (⟨x36,0,([]:List UInt8),([]:List UInt8),x38.f_At⟩:S_api_Node) ([s4,y39.1]:List (List S_api_Node))).bind fun y41=>(bif s3 then (some (.out (y41,y39.2.1,y39.2.2.1,y39.2.2.2.1,y39.2.2.2.2))) else (expr_parser_row_3_L0 n rec_expr_parser_product v3_ops p_l k9 false y41 y39.2.1 y39.2.2.1 y39.2.2.2.1 y39.2.2.2.2))))))|.ret v=>some (.ret v)) else (some (.out (s4,s5,s6,s7,s8))))
def expr_parser_row_4_L1 (n:Nat)  (v3_ops:(List Int)) (p_l:(List S_api_Token)) (s5:Int) (s6:Int) (s7:Int) (s8:Int):Nat→Int→Int→Option (LR Int ((List S_api_Node)×Int×Int×Int×Int))
  | 0,_,_=>none
  | k20+1,s18,s19=>(bif decide (s19<((v3_ops.length:Nat):Int)) then ((idx v3_ops s19).bind fun x29=>((m_expr_sign n x29).bind fun y30=>((m_expr_parser_is n y30 p_l s5 s6 s7 s8).bind fun y32=>(bif y32 then (expr_parser_row_4_L1 n v3_ops p_l s5 s6 s7 s8 k20 x29 (IntKind.i64.wrap (s19+1))) else (expr_parser_row_4_L1 n v3_ops p_l s5 s6 s7 s8 k20 s18 (IntKind.i64.wrap (s19+1))))))) else (some (.out s18)))
def expr_parser_row_4_L0 (n:Nat) (rec_expr_parser_single:(List S_api_Token)→Int→Int→Int→Int→Option ((List S_api_Node)×Int×Int×Int×Int)) (v3_ops:(List Int)) (p_l:(List S_api_Token)):Nat→Bool→(List S_api_Node)→Int→Int→Int→Int→Option (LR ((List S_api_Node)×Int×Int×Int×Int) ((List S_api_Node)×Int×Int×Int×Int))
  | 0,_,_,_,_,_,_=>none
  | k9+1,s3,s4,s5,s6,s7,s8=>(bif (s7==0) then ((expr_parser_row_4_L1 n v3_ops p_l s5 s6 s7 s8 n 0 0).bind fun o27=>match o27 with|.out x36=>(bif (x36==0) then (some (.out (s4,s5,s6,s7,s8))) else ((idx p_l s5).bind fun x38=>((rec_expr_parser_single p_l (IntKind.i64.wrap (s5+1)) s6 s7 s8).bind fun y39=>((m_expr_node n (⟨x36,0,([]:List UInt8),([]:List UInt8),x38.f_At⟩:S_api_Node) ([s4,y39.1]:List (List S_api_Node))).bind fun y41=>(bif s3 then (some (.out (y41,y39.2.1,y39.2.2.1,y39.2.2.2.1,y39.2.2.2.2))) else (expr_parser_row_4_L0 n rec_expr_parser_single v3_ops p_l k9 false y41 y39.2.1 y39.2.2.1 y39.2.2.2.1 y39.2.2.2.2))))))|.ret v=>some (.ret v)) else (some (.out (s4,s5,s6,s7,s8))))
mutual
def m_expr_parser_any:Nat→(List S_api_Token)→Int→Int→Int→Int→Option ((List S_api_Node)×Int×Int×Int×Int)
  | 0,_,_,_,_,_=>none
  | n+1,p_l,p_i,p_in,p_e,p_at=>(((m_expr_parser_row n) false ([14]:List Int) p_l p_i p_in p_e p_at).bind fun y1=>(some (y1.1,y1.2.1,y1.2.2.1,y1.2.2.2.1,y1.2.2.2.2)))
def m_expr_parser_both:Nat→(List S_api_Token)→Int→Int→Int→Int→Option ((List S_api_Node)×Int×Int×Int×Int)
  | 0,_,_,_,_,_=>none
  | n+1,p_l,p_i,p_in,p_e,p_at=>(((m_expr_parser_row_1 n) false ([13]:List Int) p_l p_i p_in p_e p_at).bind fun y1=>(some (y1.1,y1.2.1,y1.2.2.1,y1.2.2.2.1,y1.2.2.2.2)))
def m_expr_parser_compared:Nat→(List S_api_Token)→Int→Int→Int→Int→Option ((List S_api_Node)×Int×Int×Int×Int)
  | 0,_,_,_,_,_=>none
  | n+1,p_l,p_i,p_in,p_e,p_at=>(((m_expr_parser_row_2 n) true ([9,10,11,12]:List Int) p_l p_i p_in p_e p_at).bind fun y1=>(some (y1.1,y1.2.1,y1.2.2.1,y1.2.2.2.1,y1.2.2.2.2)))
def m_expr_parser_inner:Nat→(List S_api_Token)→Int→Int→Int→Int→Option ((List S_api_Node)×Int×Int×Int×Int)
  | 0,_,_,_,_,_=>none
  | n+1,p_l,p_i,p_in,p_e,p_at=>(bif decide (30≤p_in) then ((m_expr_parser_fail n 7 p_l p_i p_in p_e p_at).bind fun y2=>(some (y2.1,p_i,p_in,y2.2.1,y2.2.2))) else (((m_expr_parser_single n) p_l (IntKind.i64.wrap (p_i+1)) (IntKind.i64.wrap (p_in+1)) p_e p_at).bind fun y4=>(some (y4.1,y4.2.1,IntKind.i64.wrap (y4.2.2.1 - 1),y4.2.2.2.1,y4.2.2.2.2))))
def m_expr_parser_inner_1:Nat→(List S_api_Token)→Int→Int→Int→Int→Option ((List S_api_Node)×Int×Int×Int×Int)
  | 0,_,_,_,_,_=>none
  | n+1,p_l,p_i,p_in,p_e,p_at=>(bif decide (30≤p_in) then ((m_expr_parser_fail n 7 p_l p_i p_in p_e p_at).bind fun y2=>(some (y2.1,p_i,p_in,y2.2.1,y2.2.2))) else (((m_expr_parser_any n) p_l (IntKind.i64.wrap (p_i+1)) (IntKind.i64.wrap (p_in+1)) p_e p_at).bind fun y4=>(some (y4.1,y4.2.1,IntKind.i64.wrap (y4.2.2.1 - 1),y4.2.2.2.1,y4.2.2.2.2))))
def m_expr_parser_product:Nat→(List S_api_Token)→Int→Int→Int→Int→Option ((List S_api_Node)×Int×Int×Int×Int)
  | 0,_,_,_,_,_=>none
  | n+1,p_l,p_i,p_in,p_e,p_at=>(((m_expr_parser_row_4 n) false ([8]:List Int) p_l p_i p_in p_e p_at).bind fun y1=>(some (y1.1,y1.2.1,y1.2.2.1,y1.2.2.2.1,y1.2.2.2.2)))
def m_expr_parser_row:Nat→Bool→(List Int)→(List S_api_Token)→Int→Int→Int→Int→Option ((List S_api_Node)×Int×Int×Int×Int)
  | 0,_,_,_,_,_,_,_=>none
  | n+1,v2_once,v3_ops,p_l,p_i,p_in,p_e,p_at=>(((m_expr_parser_both n) p_l p_i p_in p_e p_at).bind fun y1=>((expr_parser_row_L0 n (m_expr_parser_both n) v3_ops p_l n v2_once y1.1 y1.2.1 y1.2.2.1 y1.2.2.2.1 y1.2.2.2.2).bind fun o16=>match o16 with|.out (x46,x47,x48,x49,x50)=>(some (x46,x47,x48,x49,x50))|.ret v=>some v))
def m_expr_parser_row_1:Nat→Bool→(List Int)→(List S_api_Token)→Int→Int→Int→Int→Option ((List S_api_Node)×Int×Int×Int×Int)
  | 0,_,_,_,_,_,_,_=>none
  | n+1,v2_once,v3_ops,p_l,p_i,p_in,p_e,p_at=>(((m_expr_parser_compared n) p_l p_i p_in p_e p_at).bind fun y1=>((expr_parser_row_1_L0 n (m_expr_parser_compared n) v3_ops p_l n v2_once y1.1 y1.2.1 y1.2.2.1 y1.2.2.2.1 y1.2.2.2.2).bind fun o16=>match o16 with|.out (x46,x47,x48,x49,x50)=>(some (x46,x47,x48,x49,x50))|.ret v=>some v))
def m_expr_parser_row_2:Nat→Bool→(List Int)→(List S_api_Token)→Int→Int→Int→Int→Option ((List S_api_Node)×Int×Int×Int×Int)
  | 0,_,_,_,_,_,_,_=>none
  | n+1,v2_once,v3_ops,p_l,p_i,p_in,p_e,p_at=>(((m_expr_parser_sum n) p_l p_i p_in p_e p_at).bind fun y1=>((expr_parser_row_2_L0 n (m_expr_parser_sum n) v3_ops p_l n v2_once y1.1 y1.2.1 y1.2.2.1 y1.2.2.2.1 y1.2.2.2.2).bind fun o16=>match o16 with|.out (x46,x47,x48,x49,x50)=>(some (x46,x47,x48,x49,x50))|.ret v=>some v))
def m_expr_parser_row_3:Nat→Bool→(List Int)→(List S_api_Token)→Int→Int→Int→Int→Option ((List S_api_Node)×Int×Int×Int×Int)
  | 0,_,_,_,_,_,_,_=>none
  | n+1,v2_once,v3_ops,p_l,p_i,p_in,p_e,p_at=>(((m_expr_parser_product n) p_l p_i p_in p_e p_at).bind fun y1=>((expr_parser_row_3_L0 n (m_expr_parser_product n) v3_ops p_l n v2_once y1.1 y1.2.1 y1.2.2.1 y1.2.2.2.1 y1.2.2.2.2).bind fun o16=>match o16 with|.out (x46,x47,x48,x49,x50)=>(some (x46,x47,x48,x49,x50))|.ret v=>some v))
def m_expr_parser_row_4:Nat→Bool→(List Int)→(List S_api_Token)→Int→Int→Int→Int→Option ((List S_api_Node)×Int×Int×Int×Int)
  | 0,_,_,_,_,_,_,_=>none
  | n+1,v2_once,v3_ops,p_l,p_i,p_in,p_e,p_at=>(((m_expr_parser_single n) p_l p_i p_in p_e p_at).bind fun y1=>((expr_parser_row_4_L0 n (m_expr_parser_single n) v3_ops p_l n v2_once y1.1 y1.2.1 y1.2.2.1 y1.2.2.2.1 y1.2.2.2.2).bind fun o16=>match o16 with|.out (x46,x47,x48,x49,x50)=>(some (x46,x47,x48,x49,x50))|.ret v=>some v))
def m_expr_parser_single:Nat→(List S_api_Token)→Int→Int→Int→Int→Option ((List S_api_Node)×Int×Int×Int×Int)
  | 0,_,_,_,_,_=>none
  | n+1,p_l,p_i,p_in,p_e,p_at=>(bif (p_e != 0) then (some (([]:List S_api_Node),p_i,p_in,p_e,p_at)) else ((m_expr_parser_is n ([33]:List UInt8) p_l p_i p_in p_e p_at).bind fun y2=>(bif y2 then ((idx p_l p_i).bind fun x5=>(((m_expr_parser_inner n) p_l p_i p_in p_e p_at).bind fun y6=>((m_expr_node n (⟨5,0,([]:List UInt8),([]:List UInt8),x5.f_At⟩:S_api_Node) ([y6.1]:List (List S_api_Node))).bind fun y8=>(some (y8,y6.2.1,y6.2.2.1,y6.2.2.2.1,y6.2.2.2.2))))) else ((m_expr_parser_is n ([40]:List UInt8) p_l p_i p_in p_e p_at).bind fun y10=>(bif y10 then (((m_expr_parser_inner_1 n) p_l p_i p_in p_e p_at).bind fun y13=>(bif (y13.2.2.2.1==0) then ((m_expr_parser_is n ([41]:List UInt8) p_l y13.2.1 y13.2.2.1 y13.2.2.2.1 y13.2.2.2.2).bind fun y16=>(bif y16 then (some (y13.1,IntKind.i64.wrap (y13.2.1+1),y13.2.2.1,y13.2.2.2.1,y13.2.2.2.2)) else ((m_expr_parser_fail n 5 p_l y13.2.1 y13.2.2.1 y13.2.2.2.1 y13.2.2.2.2).bind fun y19=>(some (y19.1,y13.2.1,y13.2.2.1,y19.2.1,y19.2.2))))) else (some (y13.1,IntKind.i64.wrap (y13.2.1+1),y13.2.2.1,y13.2.2.2.1,y13.2.2.2.2)))) else (bif decide (p_i<((p_l.length:Nat):Int)) then ((idx p_l p_i).bind fun x22=>(bif (x22.f_Kind==2) then ((idx p_l p_i).bind fun x24=>((m_expr_node n (⟨1,x24.f_N,([]:List UInt8),([]:List UInt8),x24.f_At⟩:S_api_Node) ([]:List (List S_api_Node))).bind fun y25=>(some (y25,IntKind.i64.wrap (p_i+1),p_in,p_e,p_at)))) else ((m_expr_parser_name n p_l p_i p_in p_e p_at).bind fun y27=>(bif y27.2.2.1 then ((m_expr_parser_is n ([46]:List UInt8) p_l y27.2.2.2 p_in p_e p_at).bind fun y30=>(bif y30 then ((m_expr_parser_name n p_l (IntKind.i64.wrap (y27.2.2.2+1)) p_in p_e p_at).bind fun y33=>(bif y33.2.2.1 then ((m_expr_node n (⟨4,0,y33.1,y27.1,y27.2.1⟩:S_api_Node) ([]:List (List S_api_Node))).bind fun y36=>(some (y36,y33.2.2.2,p_in,p_e,p_at))) else ((m_expr_parser_fail n 5 p_l y33.2.2.2 p_in p_e p_at).bind fun y38=>(some (y38.1,y33.2.2.2,p_in,y38.2.1,y38.2.2))))) else ((m_expr_node n (⟨2,0,y27.1,([]:List UInt8),y27.2.1⟩:S_api_Node) ([]:List (List S_api_Node))).bind fun y40=>(some (y40,y27.2.2.2,p_in,p_e,p_at))))) else ((m_expr_parser_fail n 5 p_l y27.2.2.2 p_in p_e p_at).bind fun y42=>(some (y42.1,y27.2.2.2,p_in,y42.2.1,y42.2.2))))))) else ((m_expr_parser_name n p_l p_i p_in p_e p_at).bind fun y44=>(bif y44.2.2.1 then ((m_expr_parser_is n ([46]:List UInt8) p_l y44.2.2.2 p_in p_e p_at).bind fun y47=>(bif y47 then ((m_expr_parser_name n p_l (IntKind.i64.wrap (y44.2.2.2+1)) p_in p_e p_at).bind fun y50=>(bif y50.2.2.1 then ((m_expr_node n (⟨4,0,y50.1,y44.1,y44.2.1⟩:S_api_Node) ([]:List (List S_api_Node))).bind fun y53=>(some (y53,y50.2.2.2,p_in,p_e,p_at))) else ((m_expr_parser_fail n 5 p_l y50.2.2.2 p_in p_e p_at).bind fun y55=>(some (y55.1,y50.2.2.2,p_in,y55.2.1,y55.2.2))))) else ((m_expr_node n (⟨2,0,y44.1,([]:List UInt8),y44.2.1⟩:S_api_Node) ([]:List (List S_api_Node))).bind fun y57=>(some (y57,y44.2.2.2,p_in,p_e,p_at))))) else ((m_expr_parser_fail n 5 p_l y44.2.2.2 p_in p_e p_at).bind fun y59=>(some (y59.1,y44.2.2.2,p_in,y59.2.1,y59.2.2)))))))))))
def m_expr_parser_sum:Nat→(List S_api_Token)→Int→Int→Int→Int→Option ((List S_api_Node)×Int×Int×Int×Int)
  | 0,_,_,_,_,_=>none
  | n+1,p_l,p_i,p_in,p_e,p_at=>(((m_expr_parser_row_3 n) false ([6,7]:List Int) p_l p_i p_in p_e p_at).bind fun y1=>(some (y1.1,y1.2.1,y1.2.2.1,y1.2.2.2.1,y1.2.2.2.2)))
end
def m_expr_Parse:Nat→(List S_api_Token)→Int→Option ((List S_api_Node)×Int×Int×Int)
  | 0,_,_=>none
  | n+1,v0_l,v1_i=>(bif decide (v1_i<0) then (some (([]:List S_api_Node),0,1,0)) else ((m_expr_parser_any n v0_l v1_i 0 0 0).bind fun y2=>(bif (y2.2.2.2.1 != 0) then (some (([]:List S_api_Node),0,y2.2.2.2.1,y2.2.2.2.2)) else ((m_expr_depth n y2.1).bind fun y5=>(bif decide (30<y5) then ((idx v0_l v1_i).bind fun x8=>(some (([]:List S_api_Node),0,7,x8.f_At))) else (bif decide (200<((y2.1.length:Nat):Int)) then ((idx v0_l v1_i).bind fun x10=>(some (([]:List S_api_Node),0,2,x10.f_At))) else (some (y2.1,y2.2.1,0,0))))))))
def m_expr_fits:Nat→S_api_Node→Option Bool
  | 0,_=>none
  | n+1,v0_x=>(bif decide (v0_x.f_At<0) then (some false) else (bif (v0_x.f_Op==1) then (bif ((v0_x.f_Op==v0_x.f_Op)&&((v0_x.f_N==v0_x.f_N)&&((v0_x.f_Name==([]:List UInt8))&&((v0_x.f_In==([]:List UInt8))&&((v0_x.f_At==v0_x.f_At)&&true))))) then (bif decide (0≤v0_x.f_N) then (some (decide (v0_x.f_N≤9999))) else (some false)) else (some false)) else (bif (v0_x.f_Op==4) then ((m_scan_Name n v0_x.f_In).bind fun y7=>(bif y7 then (bif ((v0_x.f_Op==v0_x.f_Op)&&((v0_x.f_N==0)&&((v0_x.f_Name==v0_x.f_Name)&&((v0_x.f_In==v0_x.f_In)&&((v0_x.f_At==v0_x.f_At)&&true))))) then ((m_scan_Name n v0_x.f_Name).bind fun y11=>(some y11)) else (some false)) else (some false))) else (bif (v0_x.f_Op==2) then (bif ((v0_x.f_Op==v0_x.f_Op)&&((v0_x.f_N==0)&&((v0_x.f_Name==v0_x.f_Name)&&((v0_x.f_In==([]:List UInt8))&&((v0_x.f_At==v0_x.f_At)&&true))))) then ((m_scan_Name n v0_x.f_Name).bind fun y16=>(some y16)) else (some false)) else (bif (v0_x.f_Op==3) then (bif ((v0_x.f_Op==v0_x.f_Op)&&((v0_x.f_N==0)&&((v0_x.f_Name==v0_x.f_Name)&&((v0_x.f_In==([]:List UInt8))&&((v0_x.f_At==v0_x.f_At)&&true))))) then ((m_scan_Name n v0_x.f_Name).bind fun y21=>(some y21)) else (some false)) else (some ((v0_x.f_Op==v0_x.f_Op)&&((v0_x.f_N==0)&&((v0_x.f_Name==([]:List UInt8))&&((v0_x.f_In==([]:List UInt8))&&((v0_x.f_At==v0_x.f_At)&&true)))))))))))
def expr_Right_L0 (n:Nat)  (v0_l:(List S_api_Node)):Nat→Int→Option (LR Unit Bool)
  | 0,_=>none
  | k7+1,s6=>(bif decide (s6<((v0_l.length:Nat):Int)) then ((idx v0_l s6).bind fun x16=>((m_expr_fits n x16).bind fun y17=>(bif y17 then (expr_Right_L0 n v0_l k7 (IntKind.i64.wrap (s6+1))) else (some (.ret false))))) else (some (.out ())))
def m_expr_Right:Nat→(List S_api_Node)→Option Bool
  | 0,_=>none
  | n+1,v0_l=>(bif (((v0_l.length:Nat):Int)==0) then (some false) else (bif decide (200<((v0_l.length:Nat):Int)) then (some false) else ((m_expr_End n v0_l 0).bind fun y3=>(bif (y3 != ((v0_l.length:Nat):Int)) then (some false) else ((expr_Right_L0 n v0_l n 0).bind fun o14=>match o14 with|.out _=>((m_expr_depth n v0_l).bind fun y21=>(some (decide (y21≤30))))|.ret v=>some v)))))
def m_expr_decimal:Nat→Int→Option (List UInt8)
  | 0,_=>none
  | n+1,v0_n=>(bif decide (v0_n<10) then (some ([UInt8.ofNat (IntKind.u8.wrap (IntKind.i64.wrap (48+v0_n))).toNat]:List UInt8)) else (((m_expr_decimal n) (IntKind.i64.wrap (Int.tdiv v0_n 10))).bind fun y2=>(bif decide (y2.length+(([UInt8.ofNat (IntKind.u8.wrap (IntKind.i64.wrap (48+(Int.tmod v0_n 10)))).toNat]:List UInt8)).length≤140737488355328) then (some (y2++([UInt8.ofNat (IntKind.u8.wrap (IntKind.i64.wrap (48+(Int.tmod v0_n 10)))).toNat]:List UInt8))) else none)))
def m_expr_shown:Nat→(List S_api_Node)→Int→Bool→Option ((List UInt8)×Int)
  | 0,_,_,_=>none
  | n+1,v0_l,v1_i,v2_operand=>((idx v0_l v1_i).bind fun x1=>(bif (x1.f_Op==1) then ((m_expr_decimal n x1.f_N).bind fun y3=>(some (y3,IntKind.i64.wrap (v1_i+1)))) else (bif (x1.f_Op==2) then (some (x1.f_Name,IntKind.i64.wrap (v1_i+1))) else (bif (x1.f_Op==3) then (some (x1.f_Name,IntKind.i64.wrap (v1_i+1))) else (bif (x1.f_Op==4) then (bif decide (x1.f_In.length+(([46]:List UInt8)).length≤140737488355328) then (bif decide (((x1.f_In++([46]:List UInt8))).length+x1.f_Name.length≤140737488355328) then (some (((x1.f_In++([46]:List UInt8))++x1.f_Name),IntKind.i64.wrap (v1_i+1))) else none) else none) else (bif (x1.f_Op==5) then (((m_expr_shown n) v0_l (IntKind.i64.wrap (v1_i+1)) true).bind fun y11=>((m_expr_sign n x1.f_Op).bind fun y13=>(bif decide (y13.length+y11.1.length≤140737488355328) then (some ((y13++y11.1),y11.2)) else none))) else (((m_expr_shown n) v0_l (IntKind.i64.wrap (v1_i+1)) true).bind fun y16=>(((m_expr_shown n) v0_l y16.2 true).bind fun y18=>(bif decide (y16.1.length+(([32]:List UInt8)).length≤140737488355328) then ((m_expr_sign n x1.f_Op).bind fun y21=>(bif decide (((y16.1++([32]:List UInt8))).length+y21.length≤140737488355328) then (bif decide ((((y16.1++([32]:List UInt8))++y21)).length+(([32]:List UInt8)).length≤140737488355328) then (bif decide (((((y16.1++([32]:List UInt8))++y21)++([32]:List UInt8))).length+y18.1.length≤140737488355328) then (bif v2_operand then (bif decide ((([40]:List UInt8)).length+(((((y16.1++([32]:List UInt8))++y21)++([32]:List UInt8))++y18.1)).length≤140737488355328) then (bif decide (((([40]:List UInt8)++((((y16.1++([32]:List UInt8))++y21)++([32]:List UInt8))++y18.1))).length+(([41]:List UInt8)).length≤140737488355328) then (some (((([40]:List UInt8)++((((y16.1++([32]:List UInt8))++y21)++([32]:List UInt8))++y18.1))++([41]:List UInt8)),y18.2)) else none) else none) else (some (((((y16.1++([32]:List UInt8))++y21)++([32]:List UInt8))++y18.1),y18.2))) else none) else none) else none)) else none)))))))))
def m_expr_Show:Nat→(List S_api_Node)→Option (List UInt8)
  | 0,_=>none
  | n+1,v0_l=>((m_expr_Right n v0_l).bind fun y1=>(bif y1 then ((m_expr_shown n v0_l 0 false).bind fun y4=>(some y4.1)) else (some ([]:List UInt8))))
def ref03_Light_L0 (n:Nat)  (v0_l:(List S_api_Stmt)):Nat→Int→Option (LR Unit Bool)
  | 0,_=>none
  | k3+1,s2=>(bif decide (s2<((v0_l.length:Nat):Int)) then ((idx v0_l s2).bind fun x12=>(bif decide (100<((x12.f_Reg.length:Nat):Int)) then (some (.ret false)) else ((idx v0_l s2).bind fun x14=>(bif decide (100<((x14.f_Loc.length:Nat):Int)) then (some (.ret false)) else ((idx v0_l s2).bind fun x16=>((m_ref02_Light n x16.f_E).bind fun y17=>(bif y17 then ((idx v0_l s2).bind fun x20=>((m_ref02_Light n x20.f_F).bind fun y21=>(bif y21 then (ref03_Light_L0 n v0_l k3 (IntKind.i64.wrap (s2+1))) else (some (.ret false))))) else (some (.ret false))))))))) else (some (.out ())))
def m_ref03_Light:Nat→(List S_api_Stmt)→Option Bool
  | 0,_=>none
  | n+1,v0_l=>(bif decide (60<((v0_l.length:Nat):Int)) then (some false) else ((ref03_Light_L0 n v0_l n 0).bind fun o10=>match o10 with|.out _=>(some true)|.ret v=>some v))
def ref03_Same_L0 (n:Nat)  (v0_a:(List S_api_Stmt)) (v1_b:(List S_api_Stmt)):Nat→Bool→Int→Option (LR Unit Bool)
  | 0,_,_=>none
  | k4+1,s2,s3=>(bif decide (s3<((v0_a.length:Nat):Int)) then ((idx v0_a s3).bind fun x13=>((idx v1_b s3).bind fun x14=>(bif (x13.f_Kind != x14.f_Kind) then (some (.ret false)) else (bif (x13.f_Reg==x14.f_Reg) then (bif (x13.f_Loc==x14.f_Loc) then (bif (x13.f_Ne==x14.f_Ne) then (bif (x13.f_Body != x14.f_Body) then (some (.ret false)) else (bif (x13.f_Else != x14.f_Else) then (some (.ret false)) else (bif s2 then (bif (x13.f_At != x14.f_At) then (some (.ret false)) else ((m_ref02_Same n x13.f_E x14.f_E true).bind fun y23=>(bif y23 then ((m_ref02_Same n x13.f_F x14.f_F true).bind fun y26=>(bif y26 then (ref03_Same_L0 n v0_a v1_b k4 true (IntKind.i64.wrap (s3+1))) else (some (.ret false)))) else (some (.ret false))))) else ((m_ref02_Same n x13.f_E x14.f_E false).bind fun y29=>(bif y29 then ((m_ref02_Same n x13.f_F x14.f_F false).bind fun y32=>(bif y32 then (ref03_Same_L0 n v0_a v1_b k4 false (IntKind.i64.wrap (s3+1))) else (some (.ret false)))) else (some (.ret false))))))) else (some (.ret false))) else (some (.ret false))) else (some (.ret false)))))) else (some (.out ())))
def m_ref03_Same:Nat→(List S_api_Stmt)→(List S_api_Stmt)→Bool→Option Bool
  | 0,_,_,_=>none
  | n+1,v0_a,v1_b,v2_places=>(bif (((v0_a.length:Nat):Int) != ((v1_b.length:Nat):Int)) then (some false) else ((ref03_Same_L0 n v0_a v1_b n v2_places 0).bind fun o11=>match o11 with|.out _=>(some true)|.ret v=>some v))
def m_stmt_nests:Nat→Int→Option Bool
  | 0,_=>none
  | n+1,v0_kind=>(bif (v0_kind==10) then (some true) else (bif (v0_kind==11) then (some true) else (bif (v0_kind==12) then (some true) else (some false))))
def stmt_walk_stmt_depth_1_L0 (n:Nat) (rec_stmt_depth_1:Int→Int→Int→(List S_api_Stmt)→Int→Option (Bool×Int)) (v0_l:(List S_api_Stmt)) (v2_to:Int) (o0:(List S_api_Stmt)):Nat→Int→Int→Option (LR Int (Bool×Int))
  | 0,_,_=>none
  | k3+1,s1,s2=>(bif decide (s1<v2_to) then ((idx v0_l s1).bind fun x12=>(bif decide (x12.f_Body<0) then (some (.ret (false,s2))) else (bif decide (x12.f_Else<0) then (some (.ret (false,s2))) else (bif decide ((IntKind.i64.wrap ((IntKind.i64.wrap (v2_to - s1)) - 1))<x12.f_Body) then (some (.ret (false,s2))) else (bif decide ((IntKind.i64.wrap ((IntKind.i64.wrap ((IntKind.i64.wrap (v2_to - s1)) - 1)) - x12.f_Body))<x12.f_Else) then (some (.ret (false,s2))) else ((rec_stmt_depth_1 s1 (IntKind.i64.wrap ((IntKind.i64.wrap (s1+1))+x12.f_Body)) (IntKind.i64.wrap ((IntKind.i64.wrap ((IntKind.i64.wrap (s1+1))+x12.f_Body))+x12.f_Else)) o0 s2).bind fun y17=>(bif y17.1 then (stmt_walk_stmt_depth_1_L0 n rec_stmt_depth_1 v0_l v2_to o0 k3 (IntKind.i64.wrap ((IntKind.i64.wrap ((IntKind.i64.wrap (s1+1))+x12.f_Body))+x12.f_Else)) y17.2) else (some (.ret (false,y17.2)))))))))) else (some (.out s2)))
mutual
def m_stmt_depth:Nat→(List S_api_Stmt)→Int→Int→Option Int
  | 0,_,_,_=>none
  | n+1,v0_l,v1_from,v2_to=>(((m_stmt_walk_stmt_depth_1 n) v0_l v1_from v2_to v0_l 0).bind fun y1=>(bif y1.1 then (some y1.2) else (some (-1))))
def m_stmt_depth_1:Nat→Int→Int→Int→(List S_api_Stmt)→Int→Option (Bool×Int)
  | 0,_,_,_,_,_=>none
  | n+1,v0_i,v1_mid,v2_end,o0,o1=>(((m_stmt_depth n) o0 (IntKind.i64.wrap (v0_i+1)) v1_mid).bind fun y1=>(((m_stmt_depth n) o0 v1_mid v2_end).bind fun y3=>((idx o0 v0_i).bind fun x5=>((m_stmt_nests n x5.f_Kind).bind fun y6=>(bif y6 then (bif (y1 != (-1)) then (some ((y3 != (-1)),max3 o1 (IntKind.i64.wrap (1+y1)) (IntKind.i64.wrap (1+y3)))) else (some (false,max3 o1 (IntKind.i64.wrap (1+y1)) (IntKind.i64.wrap (1+y3))))) else (bif (y1 != (-1)) then (some ((y3 != (-1)),o1)) else (some (false,o1))))))))
def m_stmt_walk_stmt_depth_1:Nat→(List S_api_Stmt)→Int→Int→(List S_api_Stmt)→Int→Option (Bool×Int)
  | 0,_,_,_,_,_=>none
  | n+1,v0_l,v1_from,v2_to,o0,o1=>((stmt_walk_stmt_depth_1_L0 n (m_stmt_depth_1 n) v0_l v2_to o0 n v1_from o1).bind fun o10=>match o10 with|.out x21=>(some (true,x21))|.ret v=>some v)
end
def m_stmt_Depth:Nat→(List S_api_Stmt)→Option Int
  | 0,_=>none
  | n+1,v0_l=>((m_stmt_depth n v0_l 0 ((v0_l.length:Nat):Int)).bind fun y1=>(some y1))
def m_stmt_kinds:Nat→Option (List S_stmt_kind)
  | 0=>none
  | n+1=>(some ([(⟨([]:List UInt8),([]:List UInt8),false,false⟩:S_stmt_kind),(⟨([115,107,105,112]:List UInt8),([59]:List UInt8),false,false⟩:S_stmt_kind),(⟨([115,101,116]:List UInt8),([114,61,101,59]:List UInt8),false,false⟩:S_stmt_kind),(⟨([108,111,97,100]:List UInt8),([114,61,108,59]:List UInt8),false,false⟩:S_stmt_kind),(⟨([115,116,111,114,101]:List UInt8),([108,61,101,59]:List UInt8),false,false⟩:S_stmt_kind),(⟨([99,97,115]:List UInt8),([114,61,108,44,101,44,102,59]:List UInt8),false,false⟩:S_stmt_kind),(⟨([102,97,100,100]:List UInt8),([114,61,108,44,101,59]:List UInt8),false,false⟩:S_stmt_kind),(⟨([120,99,104,103]:List UInt8),([114,61,108,44,101,59]:List UInt8),false,false⟩:S_stmt_kind),(⟨([102,101,110,99,101]:List UInt8),([59]:List UInt8),false,false⟩:S_stmt_kind),(⟨([97,119,97,105,116]:List UInt8),([108,113,101,59]:List UInt8),false,false⟩:S_stmt_kind),(⟨([105,102]:List UInt8),([101]:List UInt8),true,true⟩:S_stmt_kind),(⟨([119,104,105,108,101]:List UInt8),([101]:List UInt8),true,false⟩:S_stmt_kind),(⟨([108,111,111,112]:List UInt8),([]:List UInt8),true,false⟩:S_stmt_kind),(⟨([98,114,101,97,107]:List UInt8),([59]:List UInt8),false,false⟩:S_stmt_kind)]:List S_stmt_kind))
def m_stmt_parser_is:Nat→Int→(List UInt8)→(List S_api_Token)→Int→Int→Int→(List ((List UInt8)×Int))→Option Bool
  | 0,_,_,_,_,_,_,_=>none
  | n+1,v1_kind,v2_s,p_l,p_i,p_e,p_at,o1_m=>(bif decide (p_i<((p_l.length:Nat):Int)) then ((idx p_l p_i).bind fun x2=>(bif (x2.f_Kind==v1_kind) then ((idx p_l p_i).bind fun x4=>(some (x4.f_Text==v2_s))) else (some false))) else (some false))
def m_stmt_of:Nat→Int→Option (S_stmt_kind×Bool)
  | 0,_=>none
  | n+1,v0_n=>((m_stmt_kinds n ).bind fun y1=>(bif decide (v0_n<1) then (some ((⟨([]:List UInt8),([]:List UInt8),false,false⟩:S_stmt_kind),false)) else (bif decide (((y1.length:Nat):Int)≤v0_n) then (some ((⟨([]:List UInt8),([]:List UInt8),false,false⟩:S_stmt_kind),false)) else ((idx y1 v0_n).bind fun x5=>(some (x5,true))))))
def m_stmt_of_1:Nat→Option S_stmt_kind
  | 0=>none
  | n+1=>((m_stmt_kinds n ).bind fun y1=>(some (⟨([]:List UInt8),([]:List UInt8),false,false⟩:S_stmt_kind)))
def m_stmt_parser_place:Nat→Int→(List S_api_Token)→Int→Int→Int→(List ((List UInt8)×Int))→Option Int
  | 0,_,_,_,_,_,_=>none
  | n+1,v1_i,p_l,p_i,p_e,p_at,o1_m=>(bif decide (v1_i<((p_l.length:Nat):Int)) then ((idx p_l v1_i).bind fun x2=>(some x2.f_At)) else (bif decide (0<((p_l.length:Nat):Int)) then ((idx p_l (IntKind.i64.wrap (((p_l.length:Nat):Int) - 1))).bind fun x4=>((idx p_l (IntKind.i64.wrap (((p_l.length:Nat):Int) - 1))).bind fun x5=>(some (IntKind.i64.wrap (x4.f_At+((x5.f_Text.length:Nat):Int)))))) else (some 0)))
def m_stmt_parser_fail:Nat→(List S_api_Token)→Int→Int→Int→(List ((List UInt8)×Int))→Option (Int×Int)
  | 0,_,_,_,_,_=>none
  | n+1,p_l,p_i,p_e,p_at,o1_m=>(bif (p_e != 0) then (some (p_e,p_at)) else ((m_stmt_parser_place n p_i p_l p_i p_e p_at o1_m).bind fun y2=>(bif decide (((p_l.length:Nat):Int)≤p_i) then (some (6,y2)) else (some (5,y2)))))
def m_stmt_parser_sign:Nat→(List UInt8)→(List S_api_Token)→Int→Int→Int→(List ((List UInt8)×Int))→Option (Int×Int×Int)
  | 0,_,_,_,_,_,_=>none
  | n+1,v1_s,p_l,p_i,p_e,p_at,o1_m=>(bif (p_e != 0) then (some (p_i,p_e,p_at)) else ((m_stmt_parser_is n 3 v1_s p_l p_i p_e p_at o1_m).bind fun y2=>(bif y2 then (some (IntKind.i64.wrap (p_i+1),p_e,p_at)) else ((m_stmt_parser_fail n p_l p_i p_e p_at o1_m).bind fun y5=>(some (p_i,y5.1,y5.2))))))
def m_stmt_parser_name:Nat→(List S_api_Token)→Int→Int→Int→(List ((List UInt8)×Int))→Option ((List UInt8)×Int×Int×Int)
  | 0,_,_,_,_,_=>none
  | n+1,p_l,p_i,p_e,p_at,o1_m=>(bif (p_e != 0) then (some (([]:List UInt8),p_i,p_e,p_at)) else (bif decide (((p_l.length:Nat):Int)≤p_i) then ((m_stmt_parser_fail n p_l p_i p_e p_at o1_m).bind fun y3=>(some (([]:List UInt8),p_i,y3.1,y3.2))) else ((idx p_l p_i).bind fun x5=>(bif (x5.f_Kind != 1) then ((m_stmt_parser_fail n p_l p_i p_e p_at o1_m).bind fun y7=>(some (([]:List UInt8),p_i,y7.1,y7.2))) else ((idx p_l p_i).bind fun x9=>((m_scan_Name n x9.f_Text).bind fun y10=>(bif y10 then ((idx p_l (IntKind.i64.wrap ((IntKind.i64.wrap (p_i+1)) - 1))).bind fun x13=>(some (x13.f_Text,IntKind.i64.wrap (p_i+1),p_e,p_at))) else ((m_stmt_parser_fail n p_l p_i p_e p_at o1_m).bind fun y14=>(some (([]:List UInt8),p_i,y14.1,y14.2))))))))))
def m_stmt_parser_parts_1:Nat→(List S_api_Token)→Int→Int→Int→(List ((List UInt8)×Int))→Int→(List UInt8)→(List UInt8)→(List S_api_Node)→(List S_api_Node)→Bool→Int→Int→Int→Option (Int×Int×Int×(List UInt8))
  | 0,_,_,_,_,_,_,_,_,_,_,_,_,_,_=>none
  | n+1,o1_l,o1_i,o1_e,o1_at,o2_m,o4_Kind,o4_Reg,o4_Loc,o4_E,o4_F,o4_Ne,o4_Body,o4_Else,o4_At=>((m_stmt_parser_name n o1_l o1_i o1_e o1_at o2_m).bind fun y1=>(some (y1.2.1,y1.2.2.1,y1.2.2.2,y1.1)))
def m_stmt_parser_parts_2:Nat→(List S_api_Token)→Int→Int→Int→(List ((List UInt8)×Int))→Int→(List UInt8)→(List UInt8)→(List S_api_Node)→(List S_api_Node)→Bool→Int→Int→Int→Option (Int×Int×Int×(List UInt8))
  | 0,_,_,_,_,_,_,_,_,_,_,_,_,_,_=>none
  | n+1,o1_l,o1_i,o1_e,o1_at,o2_m,o4_Kind,o4_Reg,o4_Loc,o4_E,o4_F,o4_Ne,o4_Body,o4_Else,o4_At=>((m_stmt_parser_name n o1_l o1_i o1_e o1_at o2_m).bind fun y1=>(some (y1.2.1,y1.2.2.1,y1.2.2.2,y1.1)))
def stmt_plain_L0 (n:Nat)  (y1:(List S_api_Node)):Nat→Int→Option (LR Unit Bool)
  | 0,_=>none
  | k4+1,s3=>(bif decide (s3<((y1.length:Nat):Int)) then ((idx y1 s3).bind fun x13=>(bif (x13.f_Op != 2) then (some (.ret false)) else (stmt_plain_L0 n y1 k4 (IntKind.i64.wrap (s3+1))))) else (some (.out ())))
def m_stmt_plain:Nat→(List S_api_Node)→Option Bool
  | 0,_=>none
  | n+1,v0_l=>((m_expr_Names n v0_l).bind fun y1=>((stmt_plain_L0 n y1 n 0).bind fun o11=>match o11 with|.out _=>((m_expr_Right n v0_l).bind fun y16=>(some y16))|.ret v=>some v))
def m_stmt_parser_expr:Nat→(List S_api_Token)→Int→Int→Int→(List ((List UInt8)×Int))→Option ((List S_api_Node)×Int×Int×Int)
  | 0,_,_,_,_,_=>none
  | n+1,p_l,p_i,p_e,p_at,o1_m=>(bif (p_e != 0) then (some (([]:List S_api_Node),p_i,p_e,p_at)) else ((m_expr_Parse n p_l p_i).bind fun y2=>(bif (y2.2.2.1 != 0) then (some (([]:List S_api_Node),p_i,y2.2.2.1,y2.2.2.2)) else ((m_stmt_plain n y2.1).bind fun y5=>(bif y5 then (some (y2.1,y2.2.1,p_e,p_at)) else ((m_stmt_parser_fail n p_l p_i p_e p_at o1_m).bind fun y8=>(some (([]:List S_api_Node),p_i,y8.1,y8.2))))))))
def m_stmt_parser_parts_3:Nat→(List S_api_Token)→Int→Int→Int→(List ((List UInt8)×Int))→Int→(List UInt8)→(List UInt8)→(List S_api_Node)→(List S_api_Node)→Bool→Int→Int→Int→Option (Int×Int×Int×(List S_api_Node))
  | 0,_,_,_,_,_,_,_,_,_,_,_,_,_,_=>none
  | n+1,o1_l,o1_i,o1_e,o1_at,o2_m,o4_Kind,o4_Reg,o4_Loc,o4_E,o4_F,o4_Ne,o4_Body,o4_Else,o4_At=>((m_stmt_parser_expr n o1_l o1_i o1_e o1_at o2_m).bind fun y1=>(some (y1.2.1,y1.2.2.1,y1.2.2.2,y1.1)))
def m_stmt_parser_parts_4:Nat→(List S_api_Token)→Int→Int→Int→(List ((List UInt8)×Int))→Int→(List UInt8)→(List UInt8)→(List S_api_Node)→(List S_api_Node)→Bool→Int→Int→Int→Option (Int×Int×Int×(List S_api_Node))
  | 0,_,_,_,_,_,_,_,_,_,_,_,_,_,_=>none
  | n+1,o1_l,o1_i,o1_e,o1_at,o2_m,o4_Kind,o4_Reg,o4_Loc,o4_E,o4_F,o4_Ne,o4_Body,o4_Else,o4_At=>((m_stmt_parser_expr n o1_l o1_i o1_e o1_at o2_m).bind fun y1=>(some (y1.2.1,y1.2.2.1,y1.2.2.2,y1.1)))
def m_stmt_parser_parts_5:Nat→(List S_api_Token)→Int→Int→Int→(List ((List UInt8)×Int))→Int→(List UInt8)→(List UInt8)→(List S_api_Node)→(List S_api_Node)→Bool→Int→Int→Int→Option (Int×Int×Int×Bool)
  | 0,_,_,_,_,_,_,_,_,_,_,_,_,_,_=>none
  | n+1,o1_l,o1_i,o1_e,o1_at,o2_m,o4_Kind,o4_Reg,o4_Loc,o4_E,o4_F,o4_Ne,o4_Body,o4_Else,o4_At=>((m_stmt_parser_is n 3 ([33,61]:List UInt8) o1_l o1_i o1_e o1_at o2_m).bind fun y1=>(bif y1 then (some (IntKind.i64.wrap (o1_i+1),o1_e,o1_at,true)) else ((m_stmt_parser_sign n ([61,61]:List UInt8) o1_l o1_i o1_e o1_at o2_m).bind fun y4=>(some (y4.1,y4.2.1,y4.2.2,false)))))
def stmt_parser_list_L0 (n:Nat) (rec_stmt_parser_one:Int→(List S_api_Token)→Int→Int→Int→(List ((List UInt8)×Int))→Option ((List S_api_Stmt)×Int×Int×Int)) (v1_in:Int) (p_l:(List S_api_Token)) (o1_m:(List ((List UInt8)×Int))):Nat→Int→Int→Int→(List S_api_Stmt)→Option (LR (Int×Int×Int×(List S_api_Stmt)) ((List S_api_Stmt)×Int×Int×Int))
  | 0,_,_,_,_=>none
  | k5+1,s1,s2,s3,s4=>(bif (s2==0) then (bif decide (s1<((p_l.length:Nat):Int)) then ((m_stmt_parser_is n 3 ([125]:List UInt8) p_l s1 s2 s3 o1_m).bind fun y15=>(bif y15 then (some (.out (s1,s2,s3,s4))) else ((rec_stmt_parser_one v1_in p_l s1 s2 s3 o1_m).bind fun y18=>(bif decide ((s4.length+y18.1.length) * 121≤140737488355328) then (stmt_parser_list_L0 n rec_stmt_parser_one v1_in p_l o1_m k5 y18.2.1 y18.2.2.1 y18.2.2.2 (s4++y18.1)) else none)))) else (some (.out (s1,s2,s3,s4)))) else (some (.out (s1,s2,s3,s4))))
def stmt_parser_one_L0 (n:Nat)  (p_l:(List S_api_Token)) (o1_m:(List ((List UInt8)×Int))) (x4:S_api_Token) (y5:(S_stmt_kind×Bool)) (y8:Int):Nat→Int→Int→Int→Int→(List UInt8)→(List UInt8)→(List S_api_Node)→(List S_api_Node)→Bool→Option (LR (Int×Int×Int×(List UInt8)×(List UInt8)×(List S_api_Node)×(List S_api_Node)×Bool) ((List S_api_Stmt)×Int×Int×Int))
  | 0,_,_,_,_,_,_,_,_,_=>none
  | k24+1,s15,s16,s17,s18,s19,s20,s21,s22,s23=>(bif decide (s15<((y5.1.f_form.length:Nat):Int)) then ((idx y5.1.f_form s15).bind fun x33=>(bif decide ((x33.toNat:Int)=114) then (bif (s17==0) then ((m_stmt_parser_parts_1 n p_l s16 s17 s18 o1_m (mget o1_m x4.f_Text 0) s19 s20 s21 s22 s23 0 0 y8).bind fun y36=>(stmt_parser_one_L0 n p_l o1_m x4 y5 y8 k24 (IntKind.i64.wrap (s15+1)) y36.1 y36.2.1 y36.2.2.1 y36.2.2.2 s20 s21 s22 s23)) else (bif (decide (0≤(IntKind.i64.wrap (s15+1)))&&decide ((IntKind.i64.wrap (s15+1))≤((y5.1.f_form.length:Nat):Int))&&decide (0≤s15)&&decide (s15≤(IntKind.i64.wrap (s15+1)))) then ((m_stmt_parser_sign n (List.drop (s15.toNat) (List.take ((IntKind.i64.wrap (s15+1)).toNat) y5.1.f_form)) p_l s16 s17 s18 o1_m).bind fun y39=>(stmt_parser_one_L0 n p_l o1_m x4 y5 y8 k24 (IntKind.i64.wrap (s15+1)) y39.1 y39.2.1 y39.2.2 s19 s20 s21 s22 s23)) else none)) else (bif decide ((x33.toNat:Int)=108) then (bif (s17==0) then ((m_stmt_parser_parts_2 n p_l s16 s17 s18 o1_m (mget o1_m x4.f_Text 0) s19 s20 s21 s22 s23 0 0 y8).bind fun y43=>(stmt_parser_one_L0 n p_l o1_m x4 y5 y8 k24 (IntKind.i64.wrap (s15+1)) y43.1 y43.2.1 y43.2.2.1 s19 y43.2.2.2 s21 s22 s23)) else (bif (decide (0≤(IntKind.i64.wrap (s15+1)))&&decide ((IntKind.i64.wrap (s15+1))≤((y5.1.f_form.length:Nat):Int))&&decide (0≤s15)&&decide (s15≤(IntKind.i64.wrap (s15+1)))) then ((m_stmt_parser_sign n (List.drop (s15.toNat) (List.take ((IntKind.i64.wrap (s15+1)).toNat) y5.1.f_form)) p_l s16 s17 s18 o1_m).bind fun y46=>(stmt_parser_one_L0 n p_l o1_m x4 y5 y8 k24 (IntKind.i64.wrap (s15+1)) y46.1 y46.2.1 y46.2.2 s19 s20 s21 s22 s23)) else none)) else (bif decide ((x33.toNat:Int)=101) then (bif (s17==0) then ((m_stmt_parser_parts_3 n p_l s16 s17 s18 o1_m (mget o1_m x4.f_Text 0) s19 s20 s21 s22 s23 0 0 y8).bind fun y50=>(stmt_parser_one_L0 n p_l o1_m x4 y5 y8 k24 (IntKind.i64.wrap (s15+1)) y50.1 y50.2.1 y50.2.2.1 s19 s20 y50.2.2.2 s22 s23)) else (bif (decide (0≤(IntKind.i64.wrap (s15+1)))&&decide ((IntKind.i64.wrap (s15+1))≤((y5.1.f_form.length:Nat):Int))&&decide (0≤s15)&&decide (s15≤(IntKind.i64.wrap (s15+1)))) then ((m_stmt_parser_sign n (List.drop (s15.toNat) (List.take ((IntKind.i64.wrap (s15+1)).toNat) y5.1.f_form)) p_l s16 s17 s18 o1_m).bind fun y53=>(stmt_parser_one_L0 n p_l o1_m x4 y5 y8 k24 (IntKind.i64.wrap (s15+1)) y53.1 y53.2.1 y53.2.2 s19 s20 s21 s22 s23)) else none)) else (bif decide ((x33.toNat:Int)=102) then (bif (s17==0) then ((m_stmt_parser_parts_4 n p_l s16 s17 s18 o1_m (mget o1_m x4.f_Text 0) s19 s20 s21 s22 s23 0 0 y8).bind fun y57=>(stmt_parser_one_L0 n p_l o1_m x4 y5 y8 k24 (IntKind.i64.wrap (s15+1)) y57.1 y57.2.1 y57.2.2.1 s19 s20 s21 y57.2.2.2 s23)) else (bif (decide (0≤(IntKind.i64.wrap (s15+1)))&&decide ((IntKind.i64.wrap (s15+1))≤((y5.1.f_form.length:Nat):Int))&&decide (0≤s15)&&decide (s15≤(IntKind.i64.wrap (s15+1)))) then ((m_stmt_parser_sign n (List.drop (s15.toNat) (List.take ((IntKind.i64.wrap (s15+1)).toNat) y5.1.f_form)) p_l s16 s17 s18 o1_m).bind fun y60=>(stmt_parser_one_L0 n p_l o1_m x4 y5 y8 k24 (IntKind.i64.wrap (s15+1)) y60.1 y60.2.1 y60.2.2 s19 s20 s21 s22 s23)) else none)) else (bif decide ((x33.toNat:Int)=113) then (bif (s17==0) then ((m_stmt_parser_parts_5 n p_l s16 s17 s18 o1_m (mget o1_m x4.f_Text 0) s19 s20 s21 s22 s23 0 0 y8).bind fun y64=>(stmt_parser_one_L0 n p_l o1_m x4 y5 y8 k24 (IntKind.i64.wrap (s15+1)) y64.1 y64.2.1 y64.2.2.1 s19 s20 s21 s22 y64.2.2.2)) else (bif (decide (0≤(IntKind.i64.wrap (s15+1)))&&decide ((IntKind.i64.wrap (s15+1))≤((y5.1.f_form.length:Nat):Int))&&decide (0≤s15)&&decide (s15≤(IntKind.i64.wrap (s15+1)))) then ((m_stmt_parser_sign n (List.drop (s15.toNat) (List.take ((IntKind.i64.wrap (s15+1)).toNat) y5.1.f_form)) p_l s16 s17 s18 o1_m).bind fun y67=>(stmt_parser_one_L0 n p_l o1_m x4 y5 y8 k24 (IntKind.i64.wrap (s15+1)) y67.1 y67.2.1 y67.2.2 s19 s20 s21 s22 s23)) else none)) else (bif (decide (0≤(IntKind.i64.wrap (s15+1)))&&decide ((IntKind.i64.wrap (s15+1))≤((y5.1.f_form.length:Nat):Int))&&decide (0≤s15)&&decide (s15≤(IntKind.i64.wrap (s15+1)))) then ((m_stmt_parser_sign n (List.drop (s15.toNat) (List.take ((IntKind.i64.wrap (s15+1)).toNat) y5.1.f_form)) p_l s16 s17 s18 o1_m).bind fun y70=>(stmt_parser_one_L0 n p_l o1_m x4 y5 y8 k24 (IntKind.i64.wrap (s15+1)) y70.1 y70.2.1 y70.2.2 s19 s20 s21 s22 s23)) else none))))))) else (some (.out (s16,s17,s18,s19,s20,s21,s22,s23))))
mutual
def m_stmt_parser_block:Nat→Int→(List S_api_Token)→Int→Int→Int→(List ((List UInt8)×Int))→Option ((List S_api_Stmt)×Int×Int×Int)
  | 0,_,_,_,_,_,_=>none
  | n+1,v1_in,p_l,p_i,p_e,p_at,o1_m=>(bif (p_e==0) then ((m_stmt_parser_is n 3 ([123]:List UInt8) p_l p_i p_e p_at o1_m).bind fun y2=>(bif y2 then (bif decide (30≤v1_in) then ((m_stmt_parser_place n p_i p_l p_i p_e p_at o1_m).bind fun y6=>((m_stmt_parser_sign n ([123]:List UInt8) p_l p_i 7 y6 o1_m).bind fun y8=>(((m_stmt_parser_list n) (IntKind.i64.wrap (v1_in+1)) p_l y8.1 y8.2.1 y8.2.2 o1_m).bind fun y10=>((m_stmt_parser_sign n ([125]:List UInt8) p_l y10.2.1 y10.2.2.1 y10.2.2.2 o1_m).bind fun y12=>(some (y10.1,y12.1,y12.2.1,y12.2.2)))))) else ((m_stmt_parser_sign n ([123]:List UInt8) p_l p_i p_e p_at o1_m).bind fun y14=>(((m_stmt_parser_list n) (IntKind.i64.wrap (v1_in+1)) p_l y14.1 y14.2.1 y14.2.2 o1_m).bind fun y16=>((m_stmt_parser_sign n ([125]:List UInt8) p_l y16.2.1 y16.2.2.1 y16.2.2.2 o1_m).bind fun y18=>(some (y16.1,y18.1,y18.2.1,y18.2.2)))))) else ((m_stmt_parser_sign n ([123]:List UInt8) p_l p_i p_e p_at o1_m).bind fun y20=>(((m_stmt_parser_list n) (IntKind.i64.wrap (v1_in+1)) p_l y20.1 y20.2.1 y20.2.2 o1_m).bind fun y22=>((m_stmt_parser_sign n ([125]:List UInt8) p_l y22.2.1 y22.2.2.1 y22.2.2.2 o1_m).bind fun y24=>(some (y22.1,y24.1,y24.2.1,y24.2.2))))))) else ((m_stmt_parser_sign n ([123]:List UInt8) p_l p_i p_e p_at o1_m).bind fun y26=>(((m_stmt_parser_list n) (IntKind.i64.wrap (v1_in+1)) p_l y26.1 y26.2.1 y26.2.2 o1_m).bind fun y28=>((m_stmt_parser_sign n ([125]:List UInt8) p_l y28.2.1 y28.2.2.1 y28.2.2.2 o1_m).bind fun y30=>(some (y28.1,y30.1,y30.2.1,y30.2.2))))))
def m_stmt_parser_list:Nat→Int→(List S_api_Token)→Int→Int→Int→(List ((List UInt8)×Int))→Option ((List S_api_Stmt)×Int×Int×Int)
  | 0,_,_,_,_,_,_=>none
  | n+1,v1_in,p_l,p_i,p_e,p_at,o1_m=>((stmt_parser_list_L0 n (m_stmt_parser_one n) v1_in p_l o1_m n p_i p_e p_at ([]:List S_api_Stmt)).bind fun o12=>match o12 with|.out (x23,x24,x25,x26)=>(some (x26,x23,x24,x25))|.ret v=>some v)
def m_stmt_parser_one:Nat→Int→(List S_api_Token)→Int→Int→Int→(List ((List UInt8)×Int))→Option ((List S_api_Stmt)×Int×Int×Int)
  | 0,_,_,_,_,_,_=>none
  | n+1,v1_in,p_l,p_i,p_e,p_at,o1_m=>(bif decide (p_i<((p_l.length:Nat):Int)) then ((idx p_l p_i).bind fun x2=>(bif (x2.f_Kind==1) then ((idx p_l p_i).bind fun x4=>((m_stmt_of n (mget o1_m x4.f_Text 0)).bind fun y5=>(bif y5.2 then ((m_stmt_parser_place n p_i p_l p_i p_e p_at o1_m).bind fun y8=>(inlF n fun n10=>((stmt_parser_one_L0 n p_l o1_m x4 y5 y8 n 0 (IntKind.i64.wrap (p_i+1)) p_e p_at ([]:List UInt8) ([]:List UInt8) ([]:List S_api_Node) ([]:List S_api_Node) false).bind fun o31=>match o31 with|.out (x73,x74,x75,x76,x77,x78,x79,x80)=>(bif y5.1.f_body then (((m_stmt_parser_block n) v1_in p_l x73 x74 x75 o1_m).bind fun y82=>(bif y5.1.f_more then (bif (y82.2.2.1==0) then ((m_stmt_parser_is n 1 ([101,108,115,101]:List UInt8) p_l y82.2.1 y82.2.2.1 y82.2.2.2 o1_m).bind fun y86=>(bif y86 then (((m_stmt_parser_block n) v1_in p_l (IntKind.i64.wrap (y82.2.1+1)) y82.2.2.1 y82.2.2.2 o1_m).bind fun y89=>(bif decide (((([(⟨(mget o1_m x4.f_Text 0),x76,x77,x78,x79,x80,((y82.1.length:Nat):Int),((y89.1.length:Nat):Int),y8⟩:S_api_Stmt)]:List S_api_Stmt)).length+y82.1.length) * 121≤140737488355328) then (bif decide ((((([(⟨(mget o1_m x4.f_Text 0),x76,x77,x78,x79,x80,((y82.1.length:Nat):Int),((y89.1.length:Nat):Int),y8⟩:S_api_Stmt)]:List S_api_Stmt)++y82.1)).length+y89.1.length) * 121≤140737488355328) then (some (((([(⟨(mget o1_m x4.f_Text 0),x76,x77,x78,x79,x80,((y82.1.length:Nat):Int),((y89.1.length:Nat):Int),y8⟩:S_api_Stmt)]:List S_api_Stmt)++y82.1)++y89.1),y89.2.1,y89.2.2.1,y89.2.2.2)) else none) else none)) else (bif decide (((([(⟨(mget o1_m x4.f_Text 0),x76,x77,x78,x79,x80,((y82.1.length:Nat):Int),0,y8⟩:S_api_Stmt)]:List S_api_Stmt)).length+y82.1.length) * 121≤140737488355328) then (bif decide ((((([(⟨(mget o1_m x4.f_Text 0),x76,x77,x78,x79,x80,((y82.1.length:Nat):Int),0,y8⟩:S_api_Stmt)]:List S_api_Stmt)++y82.1)).length+0) * 121≤140737488355328) then (some ((([(⟨(mget o1_m x4.f_Text 0),x76,x77,x78,x79,x80,((y82.1.length:Nat):Int),0,y8⟩:S_api_Stmt)]:List S_api_Stmt)++y82.1),y82.2.1,y82.2.2.1,y82.2.2.2)) else none) else none))) else (bif decide (((([(⟨(mget o1_m x4.f_Text 0),x76,x77,x78,x79,x80,((y82.1.length:Nat):Int),0,y8⟩:S_api_Stmt)]:List S_api_Stmt)).length+y82.1.length) * 121≤140737488355328) then (bif decide ((((([(⟨(mget o1_m x4.f_Text 0),x76,x77,x78,x79,x80,((y82.1.length:Nat):Int),0,y8⟩:S_api_Stmt)]:List S_api_Stmt)++y82.1)).length+0) * 121≤140737488355328) then (some ((([(⟨(mget o1_m x4.f_Text 0),x76,x77,x78,x79,x80,((y82.1.length:Nat):Int),0,y8⟩:S_api_Stmt)]:List S_api_Stmt)++y82.1),y82.2.1,y82.2.2.1,y82.2.2.2)) else none) else none)) else (bif decide (((([(⟨(mget o1_m x4.f_Text 0),x76,x77,x78,x79,x80,((y82.1.length:Nat):Int),0,y8⟩:S_api_Stmt)]:List S_api_Stmt)).length+y82.1.length) * 121≤140737488355328) then (bif decide ((((([(⟨(mget o1_m x4.f_Text 0),x76,x77,x78,x79,x80,((y82.1.length:Nat):Int),0,y8⟩:S_api_Stmt)]:List S_api_Stmt)++y82.1)).length+0) * 121≤140737488355328) then (some ((([(⟨(mget o1_m x4.f_Text 0),x76,x77,x78,x79,x80,((y82.1.length:Nat):Int),0,y8⟩:S_api_Stmt)]:List S_api_Stmt)++y82.1),y82.2.1,y82.2.2.1,y82.2.2.2)) else none) else none))) else (bif y5.1.f_more then (bif (x74==0) then ((m_stmt_parser_is n 1 ([101,108,115,101]:List UInt8) p_l x73 x74 x75 o1_m).bind fun y112=>(bif y112 then (((m_stmt_parser_block n) v1_in p_l (IntKind.i64.wrap (x73+1)) x74 x75 o1_m).bind fun y115=>(bif decide (((([(⟨(mget o1_m x4.f_Text 0),x76,x77,x78,x79,x80,0,((y115.1.length:Nat):Int),y8⟩:S_api_Stmt)]:List S_api_Stmt)).length+y115.1.length) * 121≤140737488355328) then (some ((([(⟨(mget o1_m x4.f_Text 0),x76,x77,x78,x79,x80,0,((y115.1.length:Nat):Int),y8⟩:S_api_Stmt)]:List S_api_Stmt)++y115.1),y115.2.1,y115.2.2.1,y115.2.2.2)) else none)) else (some (([(⟨(mget o1_m x4.f_Text 0),x76,x77,x78,x79,x80,0,0,y8⟩:S_api_Stmt)]:List S_api_Stmt),x73,x74,x75)))) else (some (([(⟨(mget o1_m x4.f_Text 0),x76,x77,x78,x79,x80,0,0,y8⟩:S_api_Stmt)]:List S_api_Stmt),x73,x74,x75))) else (some (([(⟨(mget o1_m x4.f_Text 0),x76,x77,x78,x79,x80,0,0,y8⟩:S_api_Stmt)]:List S_api_Stmt),x73,x74,x75))))|.ret v=>some v))) else ((m_stmt_parser_fail n p_l p_i p_e p_at o1_m).bind fun y134=>(some (([]:List S_api_Stmt),p_i,y134.1,y134.2)))))) else ((m_stmt_of_1 n ).bind fun y136=>((m_stmt_parser_fail n p_l p_i p_e p_at o1_m).bind fun y138=>(some (([]:List S_api_Stmt),p_i,y138.1,y138.2)))))) else ((m_stmt_of_1 n ).bind fun y140=>((m_stmt_parser_fail n p_l p_i p_e p_at o1_m).bind fun y142=>(some (([]:List S_api_Stmt),p_i,y142.1,y142.2)))))
end
def stmt_Parse_L0 (n:Nat)  (y3:(List S_stmt_kind)):Nat→Int→(List ((List UInt8)×Int))→Option (LR (List ((List UInt8)×Int)) ((List S_api_Stmt)×Int×Int×Int))
  | 0,_,_=>none
  | k7+1,s5,s6=>(bif decide (s5<((y3.length:Nat):Int)) then ((idx y3 s5).bind fun x16=>(bif (x16.f_word==([]:List UInt8)) then (stmt_Parse_L0 n y3 k7 (IntKind.i64.wrap (s5+1)) s6) else (stmt_Parse_L0 n y3 k7 (IntKind.i64.wrap (s5+1)) (mset s6 x16.f_word s5)))) else (some (.out s6)))
def m_stmt_Parse:Nat→(List S_api_Token)→Int→Option ((List S_api_Stmt)×Int×Int×Int)
  | 0,_,_=>none
  | n+1,v0_l,v1_i=>(bif decide (v1_i<0) then (some (([]:List S_api_Stmt),0,1,0)) else (bif decide (((v0_l.length:Nat):Int)<v1_i) then (some (([]:List S_api_Stmt),0,1,0)) else ((m_stmt_kinds n ).bind fun y3=>((stmt_Parse_L0 n y3 n 0 ([]:(List ((List UInt8)×Int)))).bind fun o14=>match o14 with|.out x20=>((m_stmt_parser_list n 0 v0_l v1_i 0 0 x20).bind fun y21=>(bif (y21.2.2.1 != 0) then (some (([]:List S_api_Stmt),0,y21.2.2.1,y21.2.2.2)) else (bif decide (200<((y21.1.length:Nat):Int)) then ((m_stmt_parser_place n v1_i v0_l y21.2.1 y21.2.2.1 y21.2.2.2 x20).bind fun y25=>(some (([]:List S_api_Stmt),0,2,y25))) else (some (y21.1,y21.2.1,0,0)))))|.ret v=>some v))))
def stmt_kind_has_L0 (n:Nat)  (v0_k:S_stmt_kind) (v1_part:Int):Nat→Int→Option (LR Unit Bool)
  | 0,_=>none
  | k2+1,s1=>(bif decide (s1<((v0_k.f_form.length:Nat):Int)) then ((idx v0_k.f_form s1).bind fun x11=>(bif ((x11.toNat:Int)==v1_part) then (some (.ret true)) else (stmt_kind_has_L0 n v0_k v1_part k2 (IntKind.i64.wrap (s1+1))))) else (some (.out ())))
def m_stmt_kind_has:Nat→S_stmt_kind→Int→Option Bool
  | 0,_,_=>none
  | n+1,v0_k,v1_part=>((stmt_kind_has_L0 n v0_k v1_part n 0).bind fun o9=>match o9 with|.out _=>(some false)|.ret v=>some v)
def m_stmt_fits_1:Nat→Int→(List UInt8)→(List UInt8)→(List UInt8)→Bool→Bool→Option Bool
  | 0,_,_,_,_,_,_=>none
  | n+1,v0_part,v1_s,o0_word,o0_form,o0_body,o0_more=>((m_stmt_kind_has n (⟨o0_word,o0_form,o0_body,o0_more⟩:S_stmt_kind) v0_part).bind fun y1=>(bif y1 then ((m_scan_Name n v1_s).bind fun y4=>(bif y4 then (some true) else ((m_stmt_kind_has n (⟨o0_word,o0_form,o0_body,o0_more⟩:S_stmt_kind) v0_part).bind fun y7=>(bif y7 then (some false) else (some (v1_s==([]:List UInt8))))))) else ((m_stmt_kind_has n (⟨o0_word,o0_form,o0_body,o0_more⟩:S_stmt_kind) v0_part).bind fun y10=>(bif y10 then (some false) else (some (v1_s==([]:List UInt8)))))))
def m_stmt_fits_2:Nat→Int→(List S_api_Node)→(List UInt8)→(List UInt8)→Bool→Bool→Option Bool
  | 0,_,_,_,_,_,_=>none
  | n+1,v0_part,v1_l,o0_word,o0_form,o0_body,o0_more=>((m_stmt_kind_has n (⟨o0_word,o0_form,o0_body,o0_more⟩:S_stmt_kind) v0_part).bind fun y1=>(bif y1 then ((m_stmt_plain n v1_l).bind fun y4=>(bif y4 then (some true) else ((m_stmt_kind_has n (⟨o0_word,o0_form,o0_body,o0_more⟩:S_stmt_kind) v0_part).bind fun y7=>(bif y7 then (some false) else (some (((v1_l.length:Nat):Int)==0)))))) else ((m_stmt_kind_has n (⟨o0_word,o0_form,o0_body,o0_more⟩:S_stmt_kind) v0_part).bind fun y10=>(bif y10 then (some false) else (some (((v1_l.length:Nat):Int)==0))))))
def m_stmt_fits:Nat→S_api_Stmt→Option Bool
  | 0,_=>none
  | n+1,v0_x=>((m_stmt_of n v0_x.f_Kind).bind fun y1=>(bif y1.2 then (bif decide (v0_x.f_At<0) then (some false) else (bif v0_x.f_Ne then ((m_stmt_kind_has n y1.1 113).bind fun y6=>(bif y6 then ((m_stmt_fits_1 n 114 v0_x.f_Reg y1.1.f_word y1.1.f_form y1.1.f_body y1.1.f_more).bind fun y9=>(bif y9 then ((m_stmt_fits_1 n 108 v0_x.f_Loc y1.1.f_word y1.1.f_form y1.1.f_body y1.1.f_more).bind fun y12=>(bif y12 then ((m_stmt_fits_2 n 101 v0_x.f_E y1.1.f_word y1.1.f_form y1.1.f_body y1.1.f_more).bind fun y15=>(bif y15 then ((m_stmt_fits_2 n 102 v0_x.f_F y1.1.f_word y1.1.f_form y1.1.f_body y1.1.f_more).bind fun y18=>(bif y18 then (bif y1.1.f_body then (bif y1.1.f_more then (some true) else (some (v0_x.f_Else==0))) else (bif (v0_x.f_Body==0) then (bif y1.1.f_more then (some true) else (some (v0_x.f_Else==0))) else (some false))) else (some false))) else (some false))) else (some false))) else (some false))) else (some false))) else ((m_stmt_fits_1 n 114 v0_x.f_Reg y1.1.f_word y1.1.f_form y1.1.f_body y1.1.f_more).bind fun y25=>(bif y25 then ((m_stmt_fits_1 n 108 v0_x.f_Loc y1.1.f_word y1.1.f_form y1.1.f_body y1.1.f_more).bind fun y28=>(bif y28 then ((m_stmt_fits_2 n 101 v0_x.f_E y1.1.f_word y1.1.f_form y1.1.f_body y1.1.f_more).bind fun y31=>(bif y31 then ((m_stmt_fits_2 n 102 v0_x.f_F y1.1.f_word y1.1.f_form y1.1.f_body y1.1.f_more).bind fun y34=>(bif y34 then (bif y1.1.f_body then (bif y1.1.f_more then (some true) else (some (v0_x.f_Else==0))) else (bif (v0_x.f_Body==0) then (bif y1.1.f_more then (some true) else (some (v0_x.f_Else==0))) else (some false))) else (some false))) else (some false))) else (some false))) else (some false))))) else (some false)))
def stmt_Right_L0 (n:Nat)  (v0_l:(List S_api_Stmt)):Nat→Int→Option (LR Unit Bool)
  | 0,_=>none
  | k7+1,s6=>(bif decide (s6<((v0_l.length:Nat):Int)) then ((idx v0_l s6).bind fun x16=>((m_stmt_fits n x16).bind fun y17=>(bif y17 then (stmt_Right_L0 n v0_l k7 (IntKind.i64.wrap (s6+1))) else (some (.ret false))))) else (some (.out ())))
def m_stmt_Right:Nat→(List S_api_Stmt)→Option Bool
  | 0,_=>none
  | n+1,v0_l=>((m_stmt_Depth n v0_l).bind fun y1=>(bif (y1==(-1)) then (some false) else (bif decide (30<y1) then (some false) else (bif decide (200<((v0_l.length:Nat):Int)) then (some false) else ((stmt_Right_L0 n v0_l n 0).bind fun o14=>match o14 with|.out _=>(some true)|.ret v=>some v)))))
def stmt_head_L0 (n:Nat)  (v0_x:S_api_Stmt) (y1:(S_stmt_kind×Bool)):Nat→(List UInt8)→Int→Bool→Option (LR ((List UInt8)×Bool) (List UInt8))
  | 0,_,_,_=>none
  | k6+1,s3,s4,s5=>(bif decide (s4<((y1.1.f_form.length:Nat):Int)) then ((idx y1.1.f_form s4).bind fun x15=>(bif ((x15.toNat:Int)==114) then (bif decide ((([32]:List UInt8)).length+v0_x.f_Reg.length≤140737488355328) then (bif decide (s3.length+((([32]:List UInt8)++v0_x.f_Reg)).length≤140737488355328) then (stmt_head_L0 n v0_x y1 k6 (s3++(([32]:List UInt8)++v0_x.f_Reg)) (IntKind.i64.wrap (s4+1)) s5) else none) else none) else (bif ((x15.toNat:Int)==108) then (bif decide ((([32]:List UInt8)).length+v0_x.f_Loc.length≤140737488355328) then (bif decide (s3.length+((([32]:List UInt8)++v0_x.f_Loc)).length≤140737488355328) then (stmt_head_L0 n v0_x y1 k6 (s3++(([32]:List UInt8)++v0_x.f_Loc)) (IntKind.i64.wrap (s4+1)) s5) else none) else none) else (bif ((x15.toNat:Int)==101) then ((m_expr_Show n v0_x.f_E).bind fun y23=>(bif decide ((([32]:List UInt8)).length+y23.length≤140737488355328) then (bif decide (s3.length+((([32]:List UInt8)++y23)).length≤140737488355328) then (stmt_head_L0 n v0_x y1 k6 (s3++(([32]:List UInt8)++y23)) (IntKind.i64.wrap (s4+1)) s5) else none) else none)) else (bif ((x15.toNat:Int)==102) then ((m_expr_Show n v0_x.f_F).bind fun y28=>(bif decide ((([32]:List UInt8)).length+y28.length≤140737488355328) then (bif decide (s3.length+((([32]:List UInt8)++y28)).length≤140737488355328) then (stmt_head_L0 n v0_x y1 k6 (s3++(([32]:List UInt8)++y28)) (IntKind.i64.wrap (s4+1)) s5) else none) else none)) else (bif ((x15.toNat:Int)==113) then (bif s5 then (bif decide (s3.length+(([32,33,61]:List UInt8)).length≤140737488355328) then (stmt_head_L0 n v0_x y1 k6 (s3++([32,33,61]:List UInt8)) (IntKind.i64.wrap (s4+1)) true) else none) else (bif decide (s3.length+(([32,61,61]:List UInt8)).length≤140737488355328) then (stmt_head_L0 n v0_x y1 k6 (s3++([32,61,61]:List UInt8)) (IntKind.i64.wrap (s4+1)) false) else none)) else (bif ((x15.toNat:Int)==61) then (bif decide (s3.length+(([32,61]:List UInt8)).length≤140737488355328) then (stmt_head_L0 n v0_x y1 k6 (s3++([32,61]:List UInt8)) (IntKind.i64.wrap (s4+1)) s5) else none) else (bif (decide (0≤(IntKind.i32.wrap ((x15.toNat:Int))))&&decide ((IntKind.i32.wrap ((x15.toNat:Int)))<128)) then (bif decide (s3.length+(([UInt8.ofNat (IntKind.i32.wrap ((x15.toNat:Int))).toNat])).length≤140737488355328) then (stmt_head_L0 n v0_x y1 k6 (s3++([UInt8.ofNat (IntKind.i32.wrap ((x15.toNat:Int))).toNat])) (IntKind.i64.wrap (s4+1)) s5) else none) else none)))))))) else (some (.out (s3,s5))))
def m_stmt_head:Nat→S_api_Stmt→Option (List UInt8)
  | 0,_=>none
  | n+1,v0_x=>((m_stmt_of n v0_x.f_Kind).bind fun y1=>((stmt_head_L0 n v0_x y1 n y1.1.f_word 0 v0_x.f_Ne).bind fun o13=>match o13 with|.out (x41,x42)=>(some x41)|.ret v=>some v))
def stmt_pad_L0 (n:Nat)  (v0_deep:Int):Nat→(List UInt8)→Int→Option (LR (List UInt8) (List UInt8))
  | 0,_,_=>none
  | k3+1,s1,s2=>(bif decide (s2<v0_deep) then (bif decide (s1.length+(([32,32]:List UInt8)).length≤140737488355328) then (stmt_pad_L0 n v0_deep k3 (s1++([32,32]:List UInt8)) (IntKind.i64.wrap (s2+1))) else none) else (some (.out s1)))
def m_stmt_pad:Nat→Int→Option (List UInt8)
  | 0,_=>none
  | n+1,v0_deep=>((stmt_pad_L0 n v0_deep n ([]:List UInt8) 0).bind fun o10=>match o10 with|.out x14=>(some x14)|.ret v=>some v)
def stmt_walk_stmt_show_1_L0 (n:Nat) (rec_stmt_show_1:Int→Int→Int→(List UInt8)→Int→(List S_api_Stmt)→Option (Bool×(List UInt8))) (v0_l:(List S_api_Stmt)) (v2_to:Int) (o1:Int) (o2:(List S_api_Stmt)):Nat→Int→(List UInt8)→Option (LR (List UInt8) (Bool×(List UInt8)))
  | 0,_,_=>none
  | k3+1,s1,s2=>(bif decide (s1<v2_to) then ((idx v0_l s1).bind fun x12=>(bif decide (x12.f_Body<0) then (some (.ret (false,s2))) else (bif decide (x12.f_Else<0) then (some (.ret (false,s2))) else (bif decide ((IntKind.i64.wrap ((IntKind.i64.wrap (v2_to - s1)) - 1))<x12.f_Body) then (some (.ret (false,s2))) else (bif decide ((IntKind.i64.wrap ((IntKind.i64.wrap ((IntKind.i64.wrap (v2_to - s1)) - 1)) - x12.f_Body))<x12.f_Else) then (some (.ret (false,s2))) else ((rec_stmt_show_1 s1 (IntKind.i64.wrap ((IntKind.i64.wrap (s1+1))+x12.f_Body)) (IntKind.i64.wrap ((IntKind.i64.wrap ((IntKind.i64.wrap (s1+1))+x12.f_Body))+x12.f_Else)) s2 o1 o2).bind fun y17=>(bif y17.1 then (stmt_walk_stmt_show_1_L0 n rec_stmt_show_1 v0_l v2_to o1 o2 k3 (IntKind.i64.wrap ((IntKind.i64.wrap ((IntKind.i64.wrap (s1+1))+x12.f_Body))+x12.f_Else)) y17.2) else (some (.ret (false,y17.2)))))))))) else (some (.out s2)))
mutual
def m_stmt_show:Nat→(List S_api_Stmt)→Int→Int→Int→Option (List UInt8)
  | 0,_,_,_,_=>none
  | n+1,v0_l,v1_from,v2_to,v3_deep=>(((m_stmt_walk_stmt_show_1 n) v0_l v1_from v2_to ([]:List UInt8) v3_deep v0_l).bind fun y1=>(some y1.2))
def m_stmt_show_1:Nat→Int→Int→Int→(List UInt8)→Int→(List S_api_Stmt)→Option (Bool×(List UInt8))
  | 0,_,_,_,_,_,_=>none
  | n+1,v0_i,v1_mid,v2_end,o0,o1,o2=>((m_stmt_pad n o1).bind fun y1=>((idx o2 v0_i).bind fun x3=>((m_stmt_head n x3).bind fun y4=>(bif decide (y1.length+y4.length≤140737488355328) then (bif decide (o0.length+((y1++y4)).length≤140737488355328) then ((idx o2 v0_i).bind fun x8=>((m_stmt_nests n x8.f_Kind).bind fun y9=>(bif y9 then (((m_stmt_show n) o2 (IntKind.i64.wrap (v0_i+1)) v1_mid (IntKind.i64.wrap (o1+1))).bind fun y12=>(bif decide ((([32,123,10]:List UInt8)).length+y12.length≤140737488355328) then ((m_stmt_pad n o1).bind fun y15=>(bif decide (((([32,123,10]:List UInt8)++y12)).length+y15.length≤140737488355328) then (bif decide (((o0++(y1++y4))).length+(((([32,123,10]:List UInt8)++y12)++y15)).length≤140737488355328) then (bif decide (v1_mid<v2_end) then (((m_stmt_show n) o2 v1_mid v2_end (IntKind.i64.wrap (o1+1))).bind fun y20=>(bif decide ((([125,32,101,108,115,101,32,123,10]:List UInt8)).length+y20.length≤140737488355328) then ((m_stmt_pad n o1).bind fun y23=>(bif decide (((([125,32,101,108,115,101,32,123,10]:List UInt8)++y20)).length+y23.length≤140737488355328) then (bif decide ((((o0++(y1++y4))++((([32,123,10]:List UInt8)++y12)++y15))).length+(((([125,32,101,108,115,101,32,123,10]:List UInt8)++y20)++y23)).length≤140737488355328) then (bif decide (((((o0++(y1++y4))++((([32,123,10]:List UInt8)++y12)++y15))++((([125,32,101,108,115,101,32,123,10]:List UInt8)++y20)++y23))).length+(([125]:List UInt8)).length≤140737488355328) then (bif decide ((((((o0++(y1++y4))++((([32,123,10]:List UInt8)++y12)++y15))++((([125,32,101,108,115,101,32,123,10]:List UInt8)++y20)++y23))++([125]:List UInt8))).length+(([10]:List UInt8)).length≤140737488355328) then (some (true,(((((o0++(y1++y4))++((([32,123,10]:List UInt8)++y12)++y15))++((([125,32,101,108,115,101,32,123,10]:List UInt8)++y20)++y23))++([125]:List UInt8))++([10]:List UInt8)))) else none) else none) else none) else none)) else none)) else (bif decide ((((o0++(y1++y4))++((([32,123,10]:List UInt8)++y12)++y15))).length+(([125]:List UInt8)).length≤140737488355328) then (bif decide (((((o0++(y1++y4))++((([32,123,10]:List UInt8)++y12)++y15))++([125]:List UInt8))).length+(([10]:List UInt8)).length≤140737488355328) then (some (true,((((o0++(y1++y4))++((([32,123,10]:List UInt8)++y12)++y15))++([125]:List UInt8))++([10]:List UInt8)))) else none) else none)) else none) else none)) else none)) else (bif decide (((o0++(y1++y4))).length+(([10]:List UInt8)).length≤140737488355328) then (some (true,((o0++(y1++y4))++([10]:List UInt8)))) else none)))) else none) else none))))
def m_stmt_walk_stmt_show_1:Nat→(List S_api_Stmt)→Int→Int→(List UInt8)→Int→(List S_api_Stmt)→Option (Bool×(List UInt8))
  | 0,_,_,_,_,_,_=>none
  | n+1,v0_l,v1_from,v2_to,o0,o1,o2=>((stmt_walk_stmt_show_1_L0 n (m_stmt_show_1 n) v0_l v2_to o1 o2 n v1_from o0).bind fun o10=>match o10 with|.out x21=>(some (true,x21))|.ret v=>some v)
end
def m_stmt_Show:Nat→(List S_api_Stmt)→Int→Option (List UInt8)
  | 0,_,_=>none
  | n+1,v0_l,v1_deep=>(bif decide (v1_deep<0) then (some ([]:List UInt8)) else (bif decide (100<v1_deep) then (some ([]:List UInt8)) else ((m_stmt_Right n v0_l).bind fun y3=>(bif y3 then ((m_stmt_show n v0_l 0 ((v0_l.length:Nat):Int) v1_deep).bind fun y6=>(some y6)) else (some ([]:List UInt8))))))
def m_stmt_Tops_1:Nat→Int→Int→Int→(List Int)→Option (Bool×(List Int))
  | 0,_,_,_,_=>none
  | n+1,v0_i,v1_,v2_,o0=>(bif decide ((o0.length+1) * 9≤140737488355328) then (some (true,(o0++([v0_i]:List Int)))) else none)
def stmt_walk_stmt_Tops_1_L0 (n:Nat)  (v0_l:(List S_api_Stmt)) (v2_to:Int):Nat→Int→(List Int)→Option (LR (List Int) (Bool×(List Int)))
  | 0,_,_=>none
  | k3+1,s1,s2=>(bif decide (s1<v2_to) then ((idx v0_l s1).bind fun x12=>(bif decide (x12.f_Body<0) then (some (.ret (false,s2))) else (bif decide (x12.f_Else<0) then (some (.ret (false,s2))) else (bif decide ((IntKind.i64.wrap ((IntKind.i64.wrap (v2_to - s1)) - 1))<x12.f_Body) then (some (.ret (false,s2))) else (bif decide ((IntKind.i64.wrap ((IntKind.i64.wrap ((IntKind.i64.wrap (v2_to - s1)) - 1)) - x12.f_Body))<x12.f_Else) then (some (.ret (false,s2))) else ((m_stmt_Tops_1 n s1 (IntKind.i64.wrap ((IntKind.i64.wrap (s1+1))+x12.f_Body)) (IntKind.i64.wrap ((IntKind.i64.wrap ((IntKind.i64.wrap (s1+1))+x12.f_Body))+x12.f_Else)) s2).bind fun y17=>(bif y17.1 then (stmt_walk_stmt_Tops_1_L0 n v0_l v2_to k3 (IntKind.i64.wrap ((IntKind.i64.wrap ((IntKind.i64.wrap (s1+1))+x12.f_Body))+x12.f_Else)) y17.2) else (some (.ret (false,y17.2)))))))))) else (some (.out s2)))
def m_stmt_walk_stmt_Tops_1:Nat→(List S_api_Stmt)→Int→Int→(List Int)→Option (Bool×(List Int))
  | 0,_,_,_,_=>none
  | n+1,v0_l,v1_from,v2_to,o0=>((stmt_walk_stmt_Tops_1_L0 n v0_l v2_to n v1_from o0).bind fun o10=>match o10 with|.out x21=>(some (true,x21))|.ret v=>some v)
def m_stmt_Tops:Nat→(List S_api_Stmt)→Option (List Int)
  | 0,_=>none
  | n+1,v0_l=>((m_stmt_Depth n v0_l).bind fun y1=>(bif (y1==(-1)) then (some ([]:List Int)) else ((m_stmt_walk_stmt_Tops_1 n v0_l 0 ((v0_l.length:Nat):Int) ([]:List Int)).bind fun y4=>(some y4.2))))
def m_law03_tokens:Nat→(List UInt8)→Option (List S_api_Token)
  | 0,_=>none
  | n+1,v0_s=>((m_ref01_Scan n v0_s).bind fun y1=>(some y1.1))
def m_law03_known:Nat→Option Bool
  | 0=>none
  | n+1=>((m_law03_tokens n ([119,104,105,108,101,32,97,32,33,61,32,48,32,123,32,108,111,97,100,32,97,32,61,32,120,59,32,125,32,99,97,115,32,97,32,61,32,120,44,32,48,44,32,49,59,32,125]:List UInt8)).bind fun y1=>((m_stmt_Parse n y1 0).bind fun y3=>((m_law03_tokens n ([108,111,97,100,32,97,32,120,59]:List UInt8)).bind fun y5=>((m_stmt_Parse n y5 0).bind fun y7=>((m_law03_tokens n ([108,111,111,112,32,123]:List UInt8)).bind fun y9=>((m_stmt_Parse n y9 0).bind fun y11=>((m_law03_tokens n ([115,101,116,32,97,32,61,32,116,46,98,59]:List UInt8)).bind fun y13=>((m_stmt_Parse n y13 0).bind fun y15=>(bif (y3.2.2.1==0) then (bif (y3.2.1==20) then (bif (((y3.1.length:Nat):Int)==3) then ((idx y3.1 0).bind fun x20=>(bif (x20.f_Kind==11) then ((idx y3.1 0).bind fun x22=>(bif (x22.f_Body==1) then ((idx y3.1 1).bind fun x24=>(bif (x24.f_Kind==3) then ((idx y3.1 2).bind fun x26=>(bif (x26.f_Kind==5) then (bif (y7.2.2.1==5) then (bif (y7.2.2.2==7) then (bif (y11.2.2.1==6) then (bif (y11.2.2.2==6) then (bif (y15.2.2.1==5) then (bif (y15.2.2.2==8) then ((m_stmt_Right n y3.1).bind fun y34=>(bif y34 then ((m_stmt_Depth n y3.1).bind fun y37=>(bif (y37==1) then ((m_stmt_Tops n y3.1).bind fun y40=>(bif (((y40.length:Nat):Int)==2) then ((m_stmt_Show n y3.1 0).bind fun y43=>(some (y43==([119,104,105,108,101,32,97,32,33,61,32,48,32,123,10,32,32,108,111,97,100,32,97,32,61,32,120,59,10,125,10,99,97,115,32,97,32,61,32,120,44,32,48,44,32,49,59,10]:List UInt8)))) else (some false))) else (some false))) else (some false))) else (some false)) else (some false)) else (some false)) else (some false)) else (some false)) else (some false)) else (some false))) else (some false))) else (some false))) else (some false))) else (some false)) else (some false)) else (some false))))))))))
def m_law03_StmtBack:Nat→(List S_api_Stmt)→Int→Option Bool
  | 0,_,_=>none
  | n+1,v0_l,v1_deep=>((m_ref03_Light n v0_l).bind fun y1=>(bif y1 then ((m_stmt_Right n v0_l).bind fun y4=>(bif y4 then ((m_stmt_Show n v0_l (Int.tmod (IntKind.i64.wrap v1_deep) 5)).bind fun y7=>((m_law03_tokens n y7).bind fun y9=>((m_stmt_Parse n y9 0).bind fun y11=>(bif decide (20000<((y7.length:Nat):Int)) then ((m_law03_known n ).bind fun y14=>(some y14)) else (bif (y11.2.2.1==0) then (bif (y11.2.1==((y9.length:Nat):Int)) then ((m_ref03_Same n v0_l y11.1 false).bind fun y18=>(bif y18 then ((m_law03_known n ).bind fun y21=>(some y21)) else (some false))) else (some false)) else (some false)))))) else ((m_law03_known n ).bind fun y23=>(some y23)))) else ((m_law03_known n ).bind fun y25=>(some y25))))
end Go.Proofs.Ytonhmholnneaaaa
end
section
namespace Go.Proofs.Ytonhmholnneaaaa
set_option linter.unusedVariables false
set_option linter.unusedSimpArgs false
theorem idx_get {α : Type} {l : List α} {i : Nat} (h : i < l.length) : idx l (i : Int) = some l[i] := by rw [idx_nat, List.getElem?_eq_getElem h]
theorem wrap_one (k : Nat) (h : k < 4611686018427387904) : IntKind.i64.wrap ((k : Int) + 1) = ((k + 1 : Nat) : Int) := wrap_succ k (by omega)
theorem bif_decide {α : Type} {p : Prop} [Decidable p] (h : p) (a b : α) : (bif decide p then a else b) = a := by rw [decide_eq_true h]; rfl
theorem bif_not {α : Type} {p : Prop} [Decidable p] (h : ¬ p) (a b : α) : (bif decide p then a else b) = b := by rw [decide_eq_false h]; rfl
theorem natEq (a b : Nat) : ((a : Int) == (b : Int)) = (a == b) := by
  by_cases h : a = b
  · subst h; simp
  · have : ¬ (a : Int) = (b : Int) := by omega
    rw [beq_eq_false_iff_ne.2 h, beq_eq_false_iff_ne.2 this]
theorem natNe (a b : Nat) : ((a : Int) != (b : Int)) = !(a == b) := by rw [← natEq]; rfl
end Go.Proofs.Ytonhmholnneaaaa
end
section
namespace Go.Proofs.Ytonhmholnneaaaa
set_option linter.unusedVariables false
set_option linter.unusedSimpArgs false
theorem loop_list {α σ ρ : Type} (l : List α) (L : Nat → Nat → σ → Option ρ) (F : List α → σ → Option ρ) (Inv : Nat → σ → Prop)
    (h0 : ∀ k s, Inv l.length s → L (k + 1) l.length s = F [] s)
    (h1 : ∀ k i s x, i < l.length → l[i]? = some x → Inv i s → (∀ s', Inv (i + 1) s' → L k (i + 1) s' = F (l.drop (i + 1)) s') → L (k + 1) i s = F (x :: l.drop (i + 1)) s) :
    ∀ (m k i : Nat) (s : σ), i + m = l.length → m < k → Inv i s → L k i s = F (l.drop i) s := by
  intro m
  induction m with
  | zero =>
    intro k i s hi hk hs
    obtain ⟨k, rfl⟩ : ∃ j, k = j + 1 := ⟨k - 1, by omega⟩
    obtain rfl : i = l.length := by omega
    rw [h0 k s hs, List.drop_length]
  | succ m ih =>
    intro k i s hi hk hs
    obtain ⟨k, rfl⟩ : ∃ j, k = j + 1 := ⟨k - 1, by omega⟩
    have hlt : i < l.length := by omega
    rw [h1 k i s l[i] hlt (List.getElem?_eq_getElem hlt) hs (fun s' hs' => ih k (i + 1) s' (by omega) (by omega) hs'), List.drop_eq_getElem_cons hlt]
theorem loop_list0 {α σ ρ : Type} (l : List α) (L : Nat → Nat → σ → Option ρ) (F : List α → σ → Option ρ) (Inv : Nat → σ → Prop) {k : Nat} {s : σ} (hk : l.length < k) (hs : Inv 0 s)
    (h0 : ∀ k s, Inv l.length s → L (k + 1) l.length s = F [] s)
    (h1 : ∀ k i s x, i < l.length → l[i]? = some x → Inv i s → (∀ s', Inv (i + 1) s' → L k (i + 1) s' = F (l.drop (i + 1)) s') → L (k + 1) i s = F (x :: l.drop (i + 1)) s) :
    L k 0 s = F l s := loop_list l L F Inv h0 h1 l.length k 0 s (by omega) hk hs
theorem idx_some {α : Type} {l : List α} {i : Nat} {x : α} (h : l[i]? = some x) : idx l (i : Int) = some x := by rw [idx_nat, h]
theorem op_cases (op : Int) : op < 1 ∨ 15 ≤ op ∨ op = 1 ∨ op = 2 ∨ op = 3 ∨ op = 4 ∨ op = 5 ∨ op = 6 ∨ op = 7 ∨ op = 8 ∨ op = 9 ∨ op = 10 ∨ op = 11 ∨ op = 12 ∨ op = 13 ∨ op = 14 := by omega
theorem u8_range {a : Int} (h : (Lit.int .u8 a).wf = true) : 0 ≤ a ∧ a ≤ 255 := by simpa [Lit.wf, IntKind.min, IntKind.max, IntKind.bits, IntKind.signed] using h
theorem all_list {α : Type} (l : List α) (L : Nat → Nat → Option (LR Unit Bool)) (p : α → Bool) (h0 : ∀ k, L (k + 1) l.length = some (.out ()))
    (h1 : ∀ k i x, i < l.length → l[i]? = some x → L (k + 1) i = bif p x then L k (i + 1) else some (.ret false)) {k : Nat} (hk : l.length < k) : L k 0 = bif l.all p then some (.out ()) else some (.ret false) := by
  refine loop_list0 l (fun k i (_ : Unit) => L k i) (fun l _ => bif l.all p then some (.out ()) else some (.ret false)) (fun _ _ => True) (s := ()) hk trivial (fun k s _ => h0 k) ?_
  intro k i s x hi hx _ ih
  rw [h1 k i x hi hx, ih () trivial, List.all_cons]
  cases p x <;> rfl
theorem any_list {α : Type} (l : List α) (L : Nat → Nat → Option (LR Unit Bool)) (p : α → Bool) (h0 : ∀ k, L (k + 1) l.length = some (.out ()))
    (h1 : ∀ k i x, i < l.length → l[i]? = some x → L (k + 1) i = bif p x then some (.ret true) else L k (i + 1)) {k : Nat} (hk : l.length < k) : L k 0 = bif l.any p then some (.ret true) else some (.out ()) := by
  refine loop_list0 l (fun k i (_ : Unit) => L k i) (fun l _ => bif l.any p then some (.ret true) else some (.out ())) (fun _ _ => True) (s := ()) hk trivial (fun k s _ => h0 k) ?_
  intro k i s x hi hx _ ih
  rw [h1 k i x hi hx, ih () trivial, List.any_cons]
  cases p x <;> rfl
end Go.Proofs.Ytonhmholnneaaaa
end
section
namespace Go.Proofs.Ytonhmholnneaaaa
structure Tok where
  kind : Int
  text : List UInt8
  n : Int
  at' : Int
def blankB (c : Int) : Bool := decide (c = 32 ∨ c = 9 ∨ c = 10 ∨ c = 13)
def gapS : Bool → List UInt8 → Nat
  | _, [] => 0
  | true, c :: t => if c.toNat = 10 then 1 + gapS false t else 1 + gapS true t
  | false, c :: t => if blankB c.toNat then 1 + gapS false t else if c.toNat = 35 then 1 + gapS true t else 0
inductive Lx where
  | tok (kind : Int) (len : Nat) (n : Nat)
  | err (e : Int)
def oneL (l : List UInt8) : Lx := match l with
  | [] => .err 3
  | c :: _ =>
    if letterB c.toNat then (if runLen wordB l > 16 then .err 2 else .tok 1 (runLen wordB l) 0)
    else if digitB c.toNat then (if valueL (l.take (runLen digitB l)) > 9999 then .err 4 else .tok 2 (runLen digitB l) (valueL (l.take (runLen digitB l))))
    else if signLen l = 0 then .err 3 else .tok 3 (signLen l) 0
structure ScanRes where
  toks : List Tok
  err : Int
  at' : Int
def lexFrom : Nat → List UInt8 → Nat → List Tok → ScanRes
  | 0, _, _, acc => ⟨acc, 0, 0⟩
  | f + 1, l, p, acc => match l.drop (gapS false l) with
    | [] => ⟨acc, 0, 0⟩
    | c :: t => match oneL (c :: t) with
      | .err e => ⟨[], e, (p + gapS false l : Nat)⟩
      | .tok k n v => lexFrom f ((c :: t).drop n) (p + gapS false l + n) (acc ++ [⟨k, (c :: t).take n, v, (p + gapS false l : Nat)⟩])
def scanL (l : List UInt8) : ScanRes := if l.length > 20000 then ⟨[], 2, 20000⟩ else lexFrom (l.length + 1) l 0 []
theorem gapS_le (b : Bool) (l : List UInt8) : gapS b l ≤ l.length := by
  induction l generalizing b with
  | nil => simp [gapS]
  | cons c t ih =>
    have h1 := ih true; have h2 := ih false
    cases b <;> simp only [gapS, List.length_cons] <;> repeat' split
    all_goals omega
theorem runLen_le (p : Int → Bool) (l : List UInt8) : runLen p l ≤ l.length := (List.takeWhile_prefix (fun c : UInt8 => p c.toNat) (l := l)).length_le
theorem runLen_cons (p : Int → Bool) (c : UInt8) (t : List UInt8) : runLen p (c :: t) = if p c.toNat then runLen p t + 1 else 0 := by
  unfold runLen
  rw [List.takeWhile_cons]
  split <;> simp
theorem signLen_le (c : UInt8) (t : List UInt8) : signLen (c :: t) ≤ (c :: t).length := by
  unfold signLen
  split
  · rename_i h
    rcases t with _ | ⟨d, t⟩
    · simp [signs2] at h
    · simp
  · split <;> simp
theorem oneL_len {l : List UInt8} {k : Int} {n v : Nat} (h : oneL l = .tok k n v) : 0 < n ∧ n ≤ l.length := by
  rcases l with _ | ⟨c, t⟩
  · simp [oneL] at h
  · simp only [oneL] at h
    split at h
    · rename_i hc
      split at h
      · simp at h
      · simp only [Lx.tok.injEq] at h
        obtain ⟨_, rfl, _⟩ := h
        have h1 : wordB c.toNat = true := by simp [wordB, hc]
        exact ⟨by rw [runLen_cons, if_pos h1]; omega, runLen_le _ _⟩
    · split at h
      · rename_i hc
        split at h
        · simp at h
        · simp only [Lx.tok.injEq] at h
          obtain ⟨_, rfl, _⟩ := h
          exact ⟨by rw [runLen_cons, if_pos hc]; omega, runLen_le _ _⟩
      · split at h
        · simp at h
        · simp only [Lx.tok.injEq] at h
          obtain ⟨_, rfl, _⟩ := h
          exact ⟨by omega, signLen_le _ _⟩
theorem oneL_err {l : List UInt8} {e : Int} (h : oneL l = .err e) : (e != 0) = true := by
  rcases l with _ | ⟨c, t⟩
  · simp only [oneL, Lx.err.injEq] at h; subst h; rfl
  · simp only [oneL] at h
    repeat' split at h
    all_goals first
      | (simp only [Lx.err.injEq] at h; subst h; rfl)
      | simp at h
theorem lexFrom_fuel (f g : Nat) (l : List UInt8) (p : Nat) (acc : List Tok) (hf : l.length < f) (hg : l.length < g) : lexFrom f l p acc = lexFrom g l p acc := by
  induction f generalizing g l p acc with
  | zero => omega
  | succ f ih =>
    cases g with
    | zero => omega
    | succ g =>
      simp only [lexFrom]
      split
      · rfl
      · rename_i c t hd
        have hlen : (c :: t).length = l.length - gapS false l := by rw [← hd]; simp
        split
        · rfl
        · rename_i k n v ho
          have hn := oneL_len ho
          have hlt : ((c :: t).drop n).length < l.length := by
            simp only [List.length_drop]
            simp only [List.length_cons] at hlen hn ⊢
            omega
          exact ih g _ _ _ (by omega) (by omega)
end Go.Proofs.Ytonhmholnneaaaa
end
section
namespace Go.Proofs.Ytonhmholnneaaaa
theorem gapS_true (l : List UInt8) : gapS true l = runLen lineB l + gapS false (l.drop (runLen lineB l)) := by
  induction l with
  | nil => simp [gapS, runLen]
  | cons c t ih =>
    rw [runLen_cons]
    by_cases h : c.toNat = 10
    · have h1 : lineB c.toNat = false := by simp [lineB, h]
      rw [if_neg (by rw [h1]; simp), List.drop_zero, gapS, gapS, if_pos h, if_pos (by simp [blankB, h])]
      omega
    · have h1 : lineB c.toNat = true := by simp only [lineB, decide_eq_true_eq]; omega
      rw [if_pos h1, gapS, if_neg h, ih, List.drop_succ_cons]
      omega
theorem gapS_remark {c : UInt8} {t : List UInt8} (h : c.toNat = 35) : gapS false (c :: t) = runLen lineB (c :: t) + gapS false ((c :: t).drop (runLen lineB (c :: t))) := by
  rw [← gapS_true]
  have hb : blankB c.toNat = false := by simp [blankB, h]
  rw [gapS, gapS, if_neg (by rw [hb]; simp), if_pos h, if_neg (by omega)]
theorem gapS_blank {c : UInt8} {t : List UInt8} (h : blankB c.toNat = true) : gapS false (c :: t) = 1 + gapS false t := by rw [gapS, if_pos h]
theorem gapS_none {c : UInt8} {t : List UInt8} (h : blankB c.toNat = false) (h2 : c.toNat ≠ 35) : gapS false (c :: t) = 0 := by rw [gapS, if_neg (by rw [h]; simp), if_neg h2]
end Go.Proofs.Ytonhmholnneaaaa
end
section
namespace Go.Proofs.Ytonhmholnneaaaa
def signsL : List (List UInt8) := signs2 ++ signs1.map fun c => [c]
theorem signs2_len {m : List UInt8} (h : m ∈ signs2) : m.length = 2 := by
  simp only [signs2, List.mem_cons, List.not_mem_nil, or_false] at h
  rcases h with rfl | rfl | rfl | rfl | rfl <;> rfl
theorem take_of_prefix {m l : List UInt8} (h : m <+: l) : l.take m.length = m := by
  obtain ⟨t, rfl⟩ := h
  simp
theorem signLen_first {l : List UInt8} {k : Nat} (hk : k < signsL.length) (hp : signsL[k] <+: l) (hn : ∀ j (h : j < signsL.length), j < k → ¬ signsL[j] <+: l) :
    signLen l = signsL[k].length ∧ l.take signsL[k].length = signsL[k] := by
  refine ⟨?_, take_of_prefix hp⟩
  have h5 : signs2.length = 5 := rfl
  have hcont : ∀ (h : l.take 2 ∈ signs2), ∃ j, ∃ (hj : j < signs2.length), signs2[j] <+: l := fun h => by
    obtain ⟨j, hj, e⟩ := List.getElem_of_mem h
    exact ⟨j, hj, by rw [e]; exact List.take_prefix 2 l⟩
  rcases Nat.lt_or_ge k 5 with hlt | hge
  · have e : signsL[k] = signs2[k]'(by omega) := by simp only [signsL]; rw [List.getElem_append_left]
    rw [e] at hp ⊢
    have hm : signs2[k]'(by omega) ∈ signs2 := List.getElem_mem _
    have hl := signs2_len hm
    have ht := take_of_prefix hp
    rw [hl] at ht ⊢
    unfold signLen
    rw [if_pos (by rw [ht]; exact List.contains_iff_mem.2 hm)]
  · have e : signsL[k] = [signs1[k - 5]'(by simp [signsL, h5] at hk; omega)] := by
      simp only [signsL]
      rw [List.getElem_append_right (by omega)]
      simp [h5]
    rw [e] at hp ⊢
    have hno : ¬ l.take 2 ∈ signs2 := fun h => by
      obtain ⟨j, hj, hj2⟩ := hcont h
      refine hn j (by simp [signsL]; omega) (by omega) ?_
      have e : signsL[j]'(by simp [signsL]; omega) = signs2[j] := by simp only [signsL]; rw [List.getElem_append_left]
      rw [e]; exact hj2
    obtain ⟨t, rfl⟩ := hp
    unfold signLen
    rw [if_neg (by simpa using hno)]
    simp
theorem signLen_none {l : List UInt8} (hn : ∀ j (h : j < signsL.length), ¬ signsL[j] <+: l) : signLen l = 0 := by
  have h5 : signs2.length = 5 := rfl
  unfold signLen
  rw [if_neg, if_neg]
  · intro h
    rcases l with _ | ⟨c, t⟩
    · simp at h
    · simp only [List.head?_cons, Option.any_some] at h
      have h' := List.contains_iff_mem.1 h
      obtain ⟨j, hj, e⟩ := List.getElem_of_mem h'
      refine hn (5 + j) (by simp [signsL, h5]; omega) ?_
      have e2 : signsL[5 + j]'(by simp [signsL, h5]; omega) = [signs1[j]] := by
        simp only [signsL]
        rw [List.getElem_append_right (by omega)]
        simp [h5]
      rw [e2, e]
      exact ⟨t, rfl⟩
  · intro h
    have h' := List.contains_iff_mem.1 h
    obtain ⟨j, hj, e⟩ := List.getElem_of_mem h'
    refine hn j (by simp [signsL]; omega) ?_
    have e2 : signsL[j]'(by simp [signsL]; omega) = signs2[j] := by simp only [signsL]; rw [List.getElem_append_left]
    rw [e2, e]
    exact List.take_prefix 2 l
end Go.Proofs.Ytonhmholnneaaaa
end
section
namespace Go.Proofs.Ytonhmholnneaaaa
set_option linter.unusedVariables false
set_option linter.unusedSimpArgs false
abbrev Nd := S_api_Node
def kidsF (op : Int) : Int := if 1 ≤ op ∧ op ≤ 4 then 0 else if op = 5 then 1 else if 6 ≤ op ∧ op ≤ 14 then 2 else -1
theorem kids_m (n : Nat) (op : Int) : m_expr_kids (n + 1) op = some (kidsF op) := by
  rcases op_cases op with h | h | h | h | h | h | h | h | h | h | h | h | h | h | h | h
  · have : kidsF op = -1 := by unfold kidsF; rw [if_neg (by omega), if_neg (by omega), if_neg (by omega)]
    rw [m_expr_kids, this, bif_not (show ¬ 1 ≤ op by omega), beq_eq_false_iff_ne.2 (show op ≠ 5 by omega), cond_false, bif_not (show ¬ 6 ≤ op by omega)]
  · have : kidsF op = -1 := by unfold kidsF; rw [if_neg (by omega), if_neg (by omega), if_neg (by omega)]
    rw [m_expr_kids, this, bif_decide (show 1 ≤ op by omega), bif_not (show ¬ op ≤ 4 by omega), beq_eq_false_iff_ne.2 (show op ≠ 5 by omega), cond_false, bif_decide (show 6 ≤ op by omega), bif_not (show ¬ op ≤ 14 by omega)]
  all_goals rw [h]; rfl
inductive Tr where
  | leaf (x : Nd)
  | un (x : Nd) (a : Tr)
  | bin (x : Nd) (a b : Tr)
def Tr.flat : Tr → List Nd
  | .leaf x => [x]
  | .un x a => x :: a.flat
  | .bin x a b => x :: (a.flat ++ b.flat)
def Tr.wf : Tr → Prop
  | .leaf x => kidsF x.f_Op = 0
  | .un x a => kidsF x.f_Op = 1 ∧ a.wf
  | .bin x a b => kidsF x.f_Op = 2 ∧ a.wf ∧ b.wf
def Tr.dep : Tr → Nat
  | .leaf _ => 0
  | .un _ a => 1 + a.dep
  | .bin _ a b => 1 + max a.dep b.dep
theorem Tr.flat_pos (t : Tr) : 1 ≤ t.flat.length := by cases t <;> simp [Tr.flat]
def endF : List Nd → Nat → Option Nat
  | [], _ => none
  | x :: l, w => if kidsF x.f_Op < 0 then none else if (w : Int) + kidsF x.f_Op - 1 = 0 then some 1 else (endF l ((w : Int) + kidsF x.f_Op - 1).toNat).map (· + 1)
def flats : List Tr → List Nd
  | [] => []
  | t :: ts => t.flat ++ flats ts
theorem kids_cases (op : Int) : kidsF op = -1 ∨ kidsF op = 0 ∨ kidsF op = 1 ∨ kidsF op = 2 := by
  unfold kidsF
  repeat' split
  all_goals omega
theorem endF_tr : ∀ (t : Tr) (w : Nat) (rest : List Nd), t.wf → 1 ≤ w → endF (t.flat ++ rest) w = if w = 1 then some t.flat.length else (endF rest (w - 1)).map (· + t.flat.length) := by
  intro t
  induction t with
  | leaf x =>
    intro w rest h hw
    simp only [Tr.wf] at h
    simp only [Tr.flat, List.cons_append, List.nil_append, endF, h, List.length_cons, List.length_nil]
    by_cases c : w = 1
    · rw [if_neg (by omega), if_pos (by omega), if_pos c]
    · rw [if_neg (by omega), if_neg (by omega), if_neg c, show ((w : Int) + 0 - 1).toNat = w - 1 by omega]
  | un x a ih =>
    intro w rest h hw
    obtain ⟨h1, h2⟩ := h
    simp only [Tr.flat, List.cons_append, endF, h1, List.length_cons]
    rw [if_neg (by omega), if_neg (by omega), show ((w : Int) + 1 - 1).toNat = w by omega, ih w rest h2 hw]
    by_cases c : w = 1
    · rw [if_pos c, if_pos c]; rfl
    · rw [if_neg c, if_neg c, Option.map_map]; rfl
  | bin x a b iha ihb =>
    intro w rest h hw
    obtain ⟨h1, h2, h3⟩ := h
    simp only [Tr.flat, List.cons_append, endF, h1, List.length_cons, List.append_assoc, List.length_append]
    rw [if_neg (by omega), if_neg (by omega), show ((w : Int) + 2 - 1).toNat = w + 1 by omega, iha (w + 1) _ h2 (by omega), if_neg (by omega), show w + 1 - 1 = w by omega, ihb w rest h3 hw]
    by_cases c : w = 1
    · rw [if_pos c, if_pos c]; exact congrArg some (by dsimp only; omega)
    · rw [if_neg c, if_neg c, Option.map_map, Option.map_map]; congr 1; funext j; simp only [Function.comp_apply]; try omega
theorem of_endF : ∀ (l : List Nd) (w j : Nat), 1 ≤ w → endF l w = some j → ∃ ts : List Tr, ts.length = w ∧ (∀ t ∈ ts, t.wf) ∧ flats ts = l.take j ∧ j ≤ l.length ∧ 1 ≤ j := by
  intro l
  induction l with
  | nil => intro w j _ h; cases h
  | cons x l ih =>
    intro w j hw h
    rw [endF] at h
    rcases kids_cases x.f_Op with g | g | g | g
    · rw [g, if_pos (by omega)] at h; cases h
    all_goals rw [g] at h; rw [if_neg (by omega)] at h
    · by_cases c : w = 1
      · rw [if_pos (by omega)] at h
        obtain rfl := Option.some.inj h
        exact ⟨[.leaf x], by simp [c], by simpa [Tr.wf] using g, by simp [flats, Tr.flat], by simp, by omega⟩
      · rw [if_neg (by omega)] at h
        obtain ⟨j', h1, h2⟩ := Option.map_eq_some_iff.1 h
        obtain ⟨ts, e1, e2, e3, e4, e5⟩ := ih _ j' (by omega) h1
        subst h2
        exact ⟨.leaf x :: ts, by simp [e1]; omega, by simpa [Tr.wf] using ⟨g, e2⟩, by simp [flats, Tr.flat, e3], by simpa using e4, by omega⟩
    · rw [if_neg (by omega)] at h
      obtain ⟨j', h1, h2⟩ := Option.map_eq_some_iff.1 h
      obtain ⟨ts, e1, e2, e3, e4, e5⟩ := ih _ j' (by omega) h1
      subst h2
      match ts, e1, e2, e3 with
      | [], e1, _, _ => simp at e1; omega
      | t :: ts, e1, e2, e3 =>
        exact ⟨.un x t :: ts, by simp at e1 ⊢; omega, by simpa [Tr.wf, g] using e2, by simp only [flats] at e3; simp [flats, Tr.flat, e3], by simpa using e4, by omega⟩
    · rw [if_neg (by omega)] at h
      obtain ⟨j', h1, h2⟩ := Option.map_eq_some_iff.1 h
      obtain ⟨ts, e1, e2, e3, e4, e5⟩ := ih _ j' (by omega) h1
      subst h2
      match ts, e1, e2, e3 with
      | [], e1, _, _ => simp at e1; omega
      | [t], e1, _, _ => simp at e1; omega
      | t :: u :: ts, e1, e2, e3 =>
        refine ⟨.bin x t u :: ts, by simp at e1 ⊢; omega, ?_, by simp only [flats] at e3; simp [flats, Tr.flat, List.append_assoc, e3], by simpa using e4, by omega⟩
        intro v hv
        rcases List.mem_cons.1 hv with rfl | hv
        · exact ⟨g, e2 t (by simp), e2 u (by simp)⟩
        · exact e2 v (by simp [hv])
theorem of_endF1 {l : List Nd} {j : Nat} (h : endF l 1 = some j) : ∃ t : Tr, t.wf ∧ t.flat = l.take j ∧ j ≤ l.length ∧ 1 ≤ j := by
  obtain ⟨ts, e1, e2, e3, e4, e5⟩ := of_endF l 1 j (by omega) h
  match ts, e1, e2, e3 with
  | [t], _, e2, e3 => exact ⟨t, e2 t (by simp), by simpa [flats] using e3, e4, e5⟩
def endS (l : List Nd) (i : Int) : Int := if i < 0 then -1 else match endF (l.drop i.toNat) 1 with
  | some j => i + j
  | none => -1
def outI (d : Int) (r : LR Unit Int) : Int := match r with
  | .out _ => d
  | .ret v => v
theorem end_L (n : Nat) (l : List Nd) (hl : l.length < 1000000) : ∀ (m k i w : Nat), i + m = l.length → m < k → 1 ≤ w → w ≤ i + 2 →
    (expr_End_L0 (n + 1) l k (i : Int) (w : Int)).map (outI (-1)) = some (match endF (l.drop i) w with | some j => (i : Int) + j | none => -1) := by
  intro m
  induction m with
  | zero =>
    intro k i w hi hk hw hb
    obtain ⟨k, rfl⟩ : ∃ j, k = j + 1 := ⟨k - 1, by omega⟩
    rw [expr_End_L0, bif_not (by omega), List.drop_of_length_le (by omega)]; rfl
  | succ m ih =>
    intro k i w hi hk hw hb
    obtain ⟨k, rfl⟩ : ∃ j, k = j + 1 := ⟨k - 1, by omega⟩
    have hlt : i < l.length := by omega
    rw [expr_End_L0, bif_decide (by omega), idx_get hlt, List.drop_eq_getElem_cons hlt, endF, Option.bind_some, kids_m, Option.bind_some, wrap_one i (by omega)]
    rcases kids_cases l[i].f_Op with g | g | g | g
    · rw [g, bif_decide (by omega), if_pos (by omega)]; rfl
    all_goals rw [g, bif_not (by omega), if_neg (by omega)]
    · rw [wrap64 (n := 0 - 1) (by omega), wrap64 (by omega)]
      by_cases c : w = 1
      · subst c; rw [if_pos (by omega)]; rfl
      · rw [if_neg (by omega), beq_eq_false_iff_ne.2 (by omega), cond_false, show (w : Int) + (0 - 1) = ((w - 1 : Nat) : Int) by omega, ih k (i + 1) (w - 1) (by omega) (by omega) (by omega) (by omega), show ((w : Int) + 0 - 1).toNat = w - 1 by omega]
        cases endF (l.drop (i + 1)) (w - 1) with
        | none => rfl
        | some j => exact congrArg some (by show ((i + 1 : Nat) : Int) + (j : Int) = (i : Int) + ((j + 1 : Nat) : Int); omega)
    · rw [wrap64 (n := 1 - 1) (by omega), wrap64 (by omega), if_neg (by omega), beq_eq_false_iff_ne.2 (by omega), cond_false, show (w : Int) + (1 - 1) = (w : Int) by omega, ih k (i + 1) w (by omega) (by omega) (by omega) (by omega), show ((w : Int) + 1 - 1).toNat = w by omega]
      cases endF (l.drop (i + 1)) w with
      | none => rfl
      | some j => exact congrArg some (by show ((i + 1 : Nat) : Int) + (j : Int) = (i : Int) + ((j + 1 : Nat) : Int); omega)
    · rw [wrap64 (n := 2 - 1) (by omega), wrap64 (by omega), if_neg (by omega), beq_eq_false_iff_ne.2 (by omega), cond_false, show (w : Int) + (2 - 1) = ((w + 1 : Nat) : Int) by omega, ih k (i + 1) (w + 1) (by omega) (by omega) (by omega) (by omega), show ((w : Int) + 2 - 1).toNat = w + 1 by omega]
      cases endF (l.drop (i + 1)) (w + 1) with
      | none => rfl
      | some j => exact congrArg some (by show ((i + 1 : Nat) : Int) + (j : Int) = (i : Int) + ((j + 1 : Nat) : Int); omega)
theorem lr_map {τ : Type} {o : Option (LR Unit Int)} {d r : Int} (h : o.map (outI d) = some r) : (o.bind fun o11 => match o11 with | .out _ => some d | .ret v => some v) = some r := by
  obtain ⟨x, rfl, h2⟩ := Option.map_eq_some_iff.1 h
  cases x <;> exact congrArg some h2
theorem end_m (n : Nat) (l : List Nd) (i : Int) (hl : l.length < 1000000) (hn : l.length + 4 < n) : m_expr_End n l i = some (endS l i) := by
  obtain ⟨n, rfl⟩ : ∃ j, n = j + 2 := ⟨n - 2, by omega⟩
  rw [m_expr_End, endS]
  by_cases c : i < 0
  · rw [bif_decide c, if_pos c]
  · rw [bif_not c, if_neg c]
    by_cases c2 : i.toNat ≤ l.length
    · have := end_L n l hl (l.length - i.toNat) (n + 1) i.toNat 1 (by omega) (by omega) (by omega) (by omega)
      rw [show ((i.toNat : Nat) : Int) = i by omega] at this
      exact lr_map (τ := Unit) this
    · have e : expr_End_L0 (n + 1) l (n + 1) i 1 = some (.out ()) := by rw [expr_End_L0, bif_not (by omega)]
      rw [e, List.drop_of_length_le (by omega)]; rfl
def closeF : List Int → List Int
  | [] => []
  | a :: r => if 0 < a - 1 then (a - 1) :: r else closeF r
def depF : List Nd → Int × List Int → Int × List Int
  | [], s => s
  | x :: l, (m, R) => if 0 < kidsF x.f_Op then depF l (if m < (R.length : Int) then (R.length : Int) else m, kidsF x.f_Op :: R) else depF l (if m < (R.length : Int) then (R.length : Int) else m, closeF R)
theorem depF_tr : ∀ (t : Tr) (rest : List Nd) (m : Int) (R : List Int), t.wf → 0 ≤ m → depF (t.flat ++ rest) (m, R) = depF rest (max m (R.length + t.dep : Nat), closeF R) := by
  intro t
  have hmax : ∀ (m : Int) (k : Nat), (if m < (k : Int) then (k : Int) else m) = max m (k : Int) := by intro m k; split <;> omega
  induction t with
  | leaf x =>
    intro rest m R h hm
    simp only [Tr.wf] at h
    simp only [Tr.flat, List.cons_append, List.nil_append, depF, h, Tr.dep, Nat.add_zero]
    rw [if_neg (by omega), hmax]
  | un x a ih =>
    intro rest m R h hm
    obtain ⟨h1, h2⟩ := h
    simp only [Tr.flat, List.cons_append, depF, h1, Tr.dep]
    rw [if_pos (by omega), hmax, ih _ _ _ h2 (by omega), closeF, if_neg (by omega), List.length_cons]
    congr 2; omega
  | bin x a b iha ihb =>
    intro rest m R h hm
    obtain ⟨h1, h2, h3⟩ := h
    simp only [Tr.flat, List.cons_append, depF, h1, Tr.dep, List.append_assoc]
    rw [if_pos (by omega), hmax, iha _ _ _ h2 (by omega), closeF, if_pos (by omega), ihb _ _ _ h3 (by omega), closeF, if_neg (by omega), List.length_cons, List.length_cons]
    congr 2; omega
theorem close_L (n : Nat) : ∀ (R : List Int) (k : Nat), R.length < k → R.length < 1000000 → (∀ v ∈ R, 1 ≤ v ∧ v ≤ 2) → expr_depth_L1 n k R.reverse = some (.out (closeF R).reverse) := by
  intro R
  induction R with
  | nil =>
    intro k hk _ _
    obtain ⟨k, rfl⟩ : ∃ j, k = j + 1 := ⟨k - 1, by omega⟩
    rw [expr_depth_L1, List.reverse_nil]; rfl
  | cons a R ih =>
    intro k hk hl hv
    obtain ⟨k, rfl⟩ : ∃ j, k = j + 1 := ⟨k - 1, by omega⟩
    have ha := hv a (List.mem_cons_self ..)
    rw [List.length_cons] at hl
    have hlen : (a :: R).reverse.length = R.length + 1 := by simp
    have w : IntKind.i64.wrap (((R.length + 1 : Nat) : Int) - 1) = (R.length : Int) := by rw [wrap64 (by omega)]; omega
    have hset : ∀ v : Int, ((a :: R).reverse).set R.length v = R.reverse ++ [v] := by
      intro v; rw [List.reverse_cons, List.set_append_right _ _ (by simp)]; simp
    have g1 : idx (a :: R).reverse (R.length : Int) = some a := by rw [idx_nat, List.reverse_cons, List.getElem?_append_right (by simp)]; simp
    have g2 : ∀ v : Int, idx (R.reverse ++ [v]) (R.length : Int) = some v := by intro v; rw [idx_nat, List.getElem?_append_right (by simp)]; simp
    rw [expr_depth_L1, hlen, bif_decide (by omega), w, g1]
    simp only [Option.bind_some, Int.toNat_natCast, hset, g2]
    rw [wrap64 (n := a - 1) (by omega), closeF]
    by_cases c : 0 < a - 1
    · rw [bif_decide c, if_pos c, List.reverse_cons]
    · have c2 : (decide (0 ≤ (R.length : Int)) && decide ((R.length : Int) ≤ (((R.reverse ++ [a - 1]).length : Nat) : Int))) = true := by
        rw [decide_eq_true (by omega), decide_eq_true (by simp; omega)]; rfl
      have e : List.take R.length (R.reverse ++ [a - 1]) = R.reverse := by
        rw [List.take_append_of_le_length (by simp), List.take_of_length_le (by simp)]
      rw [bif_not c, if_neg c, c2, cond_true, e]
      exact ih k (by rw [List.length_cons] at hk; omega) (by omega) (fun v h => hv v (List.mem_cons_of_mem _ h))
theorem closeF_ok : ∀ (R : List Int), (∀ v ∈ R, 1 ≤ v ∧ v ≤ 2) → (∀ v ∈ closeF R, 1 ≤ v ∧ v ≤ 2) ∧ (closeF R).length ≤ R.length := by
  intro R
  induction R with
  | nil => intro h; exact ⟨h, Nat.le_refl _⟩
  | cons a R ih =>
    intro h
    have ha := h a (List.mem_cons_self ..)
    have hR : ∀ v ∈ R, 1 ≤ v ∧ v ≤ 2 := fun v hv => h v (List.mem_cons_of_mem _ hv)
    rw [closeF]
    split
    · exact ⟨fun v hv => by rcases List.mem_cons.1 hv with rfl | hv; exact ⟨by omega, by omega⟩; exact hR v hv, by simp⟩
    · exact ⟨(ih hR).1, by have := (ih hR).2; simp; omega⟩
theorem depth_L (n : Nat) (l : List Nd) (hl : l.length < 100000) (hn : l.length + 2 < n) {k : Nat} (hk : l.length < k) : expr_depth_L0 n l k 0 0 [] = some (.out ((depF l (0, [])).1, (depF l (0, [])).2.reverse)) := by
  refine loop_list0 l (fun k i (s : Int × List Int) => expr_depth_L0 n l k s.1 (i : Int) s.2.reverse) (fun l s => some (.out ((depF l s).1, (depF l s).2.reverse)))
    (fun i s => s.2.length ≤ i ∧ ∀ v ∈ s.2, 1 ≤ v ∧ v ≤ 2) (s := (0, [])) hk ⟨Nat.le_refl _, by simp⟩ ?_ ?_
  · intro k s hs
    rw [expr_depth_L0, bif_not (by omega)]; rfl
  · rintro k i ⟨m, R⟩ x hi hx ⟨r1, r2⟩ ih
    dsimp only at r1 r2 ⊢
    obtain ⟨n, rfl⟩ : ∃ j, n = j + 1 := ⟨n - 1, by omega⟩
    rw [expr_depth_L0, bif_decide (by omega), idx_some hx, Option.bind_some, kids_m, Option.bind_some, wrap_one i (by omega), List.length_reverse, depF]
    by_cases c : 0 < kidsF x.f_Op
    · rw [bif_decide c, if_pos c, bif_decide (by omega), ← List.reverse_cons]
      refine ih (_, _ :: R) ⟨by simp; omega, fun v hv => ?_⟩
      rcases List.mem_cons.1 hv with rfl | hv
      · rcases kids_cases x.f_Op with g | g | g | g <;> omega
      · exact r2 v hv
    · have hc := closeF_ok R r2
      rw [bif_not c, if_neg c, close_L (n + 1) R (n + 1) (by omega) (by omega) r2, Option.bind_some]
      exact ih (_, closeF R) ⟨by dsimp only; omega, hc.1⟩
theorem Tr.dep_lt (t : Tr) : t.dep < t.flat.length := by
  induction t with
  | leaf x => simp [Tr.dep, Tr.flat]
  | un x a ih => simp [Tr.dep, Tr.flat]; omega
  | bin x a b iha ihb => simp [Tr.dep, Tr.flat]; omega
end Go.Proofs.Ytonhmholnneaaaa
end
section
namespace Go.Proofs.Ytonhmholnneaaaa
set_option linter.unusedVariables false
set_option linter.unusedSimpArgs false
theorem rletter_m (n : Nat) (c : Int) : m_ref01_letter (n + 1) c = some (letterB c) := by
  rw [m_ref01_letter]
  by_cases h1 : 97 ≤ c <;> by_cases h2 : c ≤ 122 <;> by_cases h3 : 65 ≤ c <;> by_cases h4 : c ≤ 90 <;> simp [letterB, h1, h2, h3, h4] <;> (by_cases h5 : c = 95 <;> simp [h5])
theorem rdigit_m (n : Nat) (c : Int) : m_ref01_digit (n + 1) c = some (digitB c) := by
  rw [m_ref01_digit]
  by_cases h1 : 48 ≤ c <;> simp [digitB, h1]
def nodeOk (x : Nd) : Bool := !decide (x.f_At < 0) && (if x.f_Op = 1 then decide (0 ≤ x.f_N ∧ x.f_N ≤ 9999) && (x.f_Name == [] && x.f_In == [])
  else if x.f_Op = 2 ∨ x.f_Op = 3 then x.f_N == 0 && (nameB x.f_Name && x.f_In == []) else if x.f_Op = 4 then x.f_N == 0 && (nameB x.f_Name && nameB x.f_In) else x.f_N == 0 && (x.f_Name == [] && x.f_In == []))
theorem fits_m (n : Nat) (x : Nd) : m_expr_fits (n + 2) x = some (nodeOk x) := by
  rw [m_expr_fits, nodeOk]
  by_cases c : x.f_At < 0
  · rw [bif_decide c, decide_eq_true c]; rfl
  rw [bif_not c, decide_eq_false c]
  simp only [m_scan_Name, Option.bind_some, beq_self_eq_true, Bool.true_and, Bool.and_true, Bool.not_false]
  by_cases c1 : x.f_Op = 1
  · rw [if_pos c1, c1]
    simp only [beq_self_eq_true, cond_true]
    cases (x.f_Name == []) <;> cases (x.f_In == []) <;> by_cases h : 0 ≤ x.f_N <;> by_cases h2 : x.f_N ≤ 9999 <;> simp [h, h2]
  rw [if_neg c1, beq_eq_false_iff_ne.2 c1]
  by_cases c4 : x.f_Op = 4
  · rw [if_neg (by omega), if_pos c4, c4]
    simp only [beq_self_eq_true, cond_true, cond_false]
    cases nameB x.f_In <;> cases nameB x.f_Name <;> cases (x.f_N == 0) <;> rfl
  rw [if_neg c4, beq_eq_false_iff_ne.2 c4]
  by_cases c2 : x.f_Op = 2
  · rw [if_pos (.inl c2), c2]
    simp only [beq_self_eq_true, cond_true, cond_false]
    cases nameB x.f_Name <;> cases (x.f_N == 0) <;> cases (x.f_In == []) <;> rfl
  rw [beq_eq_false_iff_ne.2 c2]
  by_cases c3 : x.f_Op = 3
  · rw [if_pos (.inr c3), c3]
    simp only [beq_self_eq_true, cond_true, cond_false]
    cases nameB x.f_Name <;> cases (x.f_N == 0) <;> cases (x.f_In == []) <;> rfl
  rw [if_neg (by omega), beq_eq_false_iff_ne.2 c3]
  rfl
def exprOk (l : List Nd) : Bool := decide (1 ≤ l.length ∧ l.length ≤ 200) && (decide (endF l 1 = some l.length) && (l.all nodeOk && decide ((depF l (0, [])).1 ≤ 30)))
theorem depth_m2 (n : Nat) (l : List Nd) (hl : l.length < 100000) (hn : l.length + 4 < n) : m_expr_depth n l = some (depF l (0, [])).1 := by
  obtain ⟨n, rfl⟩ : ∃ j, n = j + 1 := ⟨n - 1, by omega⟩
  rw [m_expr_depth, depth_L n l hl (by omega) (by omega)]; rfl
theorem endS0 (l : List Nd) (hl : 1 ≤ l.length) : (endS l 0 != (l.length : Int)) = !decide (endF l 1 = some l.length) := by
  have e : endS l 0 = match endF l 1 with | some j => ((j : Nat) : Int) | none => -1 := by
    rw [endS, if_neg (by omega)]
    show (match endF l 1 with | some j => (0 : Int) + (j : Int) | none => -1) = _
    cases endF l 1 with
    | none => rfl
    | some j => simp
  rw [e]
  cases endF l 1 with
  | none =>
    show ((-1 : Int) != (l.length : Int)) = _
    rw [bne_iff_ne.2 (by omega)]; simp
  | some j =>
    show (((j : Nat) : Int) != (l.length : Int)) = _
    rw [natNe]
    by_cases h : j = l.length <;> simp [h]
theorem eright_m (n : Nat) (l : List Nd) (hl : l.length < 100000) (hn : l.length + 20 < n) : m_expr_Right n l = some (exprOk l) := by
  obtain ⟨n, rfl⟩ : ∃ j, n = j + 3 := ⟨n - 3, by omega⟩
  rw [m_expr_Right, exprOk]
  by_cases c1 : l.length = 0
  · rw [beq_iff_eq.2 (show ((l.length : Nat) : Int) = 0 by omega), decide_eq_false (show ¬ (1 ≤ l.length ∧ l.length ≤ 200) by omega)]; rfl
  rw [beq_eq_false_iff_ne.2 (show ((l.length : Nat) : Int) ≠ 0 by omega)]
  by_cases c2 : 200 < (l.length : Int)
  · rw [bif_decide c2, decide_eq_false (show ¬ (1 ≤ l.length ∧ l.length ≤ 200) by omega)]; rfl
  have hL : expr_Right_L0 (n + 2) l (n + 2) 0 = bif l.all nodeOk then some (.out ()) else some (.ret false) := by
    refine all_list l (fun k i => expr_Right_L0 (n + 2) l k (i : Int)) _ (fun k => ?_) (fun k i x hi hx => ?_) (by omega)
    · rw [expr_Right_L0, bif_not (by omega)]
    · rw [expr_Right_L0, bif_decide (by omega), idx_some hx, Option.bind_some, fits_m, Option.bind_some, wrap_one i (by omega)]
  rw [bif_not c2, end_m (n + 2) l 0 (by omega) (by omega), Option.bind_some, endS0 l (by omega), hL, decide_eq_true (show 1 ≤ l.length ∧ l.length ≤ 200 by omega)]
  simp only [cond_false, depth_m2 (n + 2) l hl (by omega)]
  cases decide (endF l 1 = some l.length) with
  | false => rfl
  | true => cases l.all nodeOk <;> rfl
def lightE (l : List Nd) : Bool := decide (l.length ≤ 250) && l.all fun x => decide (x.f_Name.length ≤ 100 ∧ x.f_In.length ≤ 100)
theorem rlightE_m (n : Nat) (l : List Nd) (hn : 260 < n) : m_ref02_Light n l = some (lightE l) := by
  obtain ⟨n, rfl⟩ : ∃ j, n = j + 1 := ⟨n - 1, by omega⟩
  rw [m_ref02_Light, lightE]
  by_cases c : 250 < (l.length : Int)
  · rw [bif_decide c, decide_eq_false (by omega)]; rfl
  have hL : ref02_Light_L0 n l n 0 = bif l.all (fun x => decide (x.f_Name.length ≤ 100 ∧ x.f_In.length ≤ 100)) then some (.out ()) else some (.ret false) := by
    refine all_list l (fun k i => ref02_Light_L0 n l k (i : Int)) _ (fun k => ?_) (fun k i x hi hx => ?_) (by omega)
    · rw [ref02_Light_L0, bif_not (by omega)]
    · rw [ref02_Light_L0, bif_decide (by omega), idx_some hx, Option.bind_some, Option.bind_some, wrap_one i (by omega)]
      by_cases h1 : 100 < (x.f_Name.length : Int)
      · rw [bif_decide h1, bif_not (by omega)]
      · by_cases h2 : 100 < (x.f_In.length : Int)
        · rw [bif_not h1, bif_decide h2, bif_not (by omega)]
        · rw [bif_not h1, bif_not h2, bif_decide (by omega)]
  rw [bif_not c, hL, decide_eq_true (by omega)]
  cases List.all l _ <;> rfl
end Go.Proofs.Ytonhmholnneaaaa
end
section
namespace Go.Proofs.Ytonhmholnneaaaa
set_option linter.unusedVariables false
set_option linter.unusedSimpArgs false
def findF {α : Type} (p : α → Bool) : List α → Nat → Option Nat
  | [], _ => none
  | x :: l, i => bif p x then some i else findF p l (i + 1)
theorem findF_lt {α : Type} {p : α → Bool} : ∀ {l : List α} {i j : Nat}, findF p l i = some j → i ≤ j ∧ j < i + l.length ∧ ∃ x, l[j - i]? = some x ∧ p x = true := by
  intro l
  induction l with
  | nil => intro i j h; cases h
  | cons x l ih =>
    intro i j h
    rw [findF] at h
    cases hp : p x with
    | true =>
      rw [hp] at h
      obtain rfl : i = j := Option.some.inj h
      exact ⟨Nat.le_refl _, by simp, x, by simp, hp⟩
    | false =>
      rw [hp] at h
      obtain ⟨h1, h2, y, h3, h4⟩ := ih h
      refine ⟨by omega, by simp; omega, y, ?_, h4⟩
      rw [show j - i = (j - (i + 1)) + 1 by omega, List.getElem?_cons_succ]; exact h3
theorem find_list {α τ : Type} (l : List α) (L : Nat → Nat → Option (LR Unit τ)) (p : α → Bool) (g : Nat → α → Option (LR Unit τ)) (h0 : ∀ k, L (k + 1) l.length = some (.out ()))
    (h1 : ∀ k i x, i < l.length → l[i]? = some x → L (k + 1) i = bif p x then g i x else L k (i + 1)) :
    ∀ (m k i : Nat), i + m = l.length → m < k → L k i = match findF p (l.drop i) i with | some j => (match l[j]? with | some x => g j x | none => none) | none => some (.out ()) := by
  intro m
  induction m with
  | zero =>
    intro k i hi hk
    obtain ⟨k, rfl⟩ : ∃ j, k = j + 1 := ⟨k - 1, by omega⟩
    obtain rfl : i = l.length := by omega
    rw [h0, List.drop_length]; rfl
  | succ m ih =>
    intro k i hi hk
    obtain ⟨k, rfl⟩ : ∃ j, k = j + 1 := ⟨k - 1, by omega⟩
    have hlt : i < l.length := by omega
    rw [h1 k i l[i] hlt (List.getElem?_eq_getElem hlt), ih k (i + 1) (by omega) (by omega), List.drop_eq_getElem_cons hlt, findF]
    cases hp : p l[i] with
    | true => simp only [cond_true, List.getElem?_eq_getElem hlt]
    | false => rfl
theorem run_list {τ : Type} (s : List UInt8) (p : Int → Bool) (L : Nat → Nat → Option (LR Int τ)) (h0 : ∀ k, L (k + 1) s.length = some (.out (s.length : Int)))
    (h1 : ∀ k i c, i < s.length → s[i]? = some c → L (k + 1) i = bif p c.toNat then L k (i + 1) else some (.out (i : Int))) :
    ∀ (m k i : Nat), i + m = s.length → m < k → L k i = some (.out ((i + runLen p (s.drop i) : Nat) : Int)) := by
  intro m
  induction m with
  | zero =>
    intro k i hi hk
    obtain ⟨k, rfl⟩ : ∃ j, k = j + 1 := ⟨k - 1, by omega⟩
    obtain rfl : i = s.length := by omega
    rw [h0, List.drop_length]; simp [runLen]
  | succ m ih =>
    intro k i hi hk
    obtain ⟨k, rfl⟩ : ∃ j, k = j + 1 := ⟨k - 1, by omega⟩
    have hlt : i < s.length := by omega
    rw [h1 k i s[i] hlt (List.getElem?_eq_getElem hlt), List.drop_eq_getElem_cons hlt, runLen_cons]
    cases hp : p (s[i].toNat : Int) with
    | true => rw [cond_true, ih k (i + 1) (by omega) (by omega), if_pos rfl]; congr 3; omega
    | false => rw [cond_false, if_neg (by simp)]; rfl
theorem gap1_m (n : Nat) (s : List UInt8) (hs : s.length < 1000000) {k i : Nat} (hi : i ≤ s.length) (hk : s.length - i < k) : ref01_gap_L1 n s k (i : Int) = some (.out ((i + runLen lineB (s.drop i) : Nat) : Int)) := by
  refine run_list s lineB (fun k i => ref01_gap_L1 n s k (i : Int)) (fun k => ?_) (fun k i c hi hc => ?_) (s.length - i) k i (by omega) hk
  · rw [ref01_gap_L1, bif_not (by omega)]
  · rw [ref01_gap_L1, bif_decide (by omega), idx_some hc, Option.bind_some, wrap_one i (by omega)]
    have : (((c.toNat : Nat) : Int) != 10) = lineB c.toNat := by
      unfold lineB
      by_cases h : ((c.toNat : Nat) : Int) = 10 <;> simp [h]
    rw [this]
def outG (r : LR Int Int) : Int := match r with
  | .out x => x
  | .ret x => x
theorem gap_L (n : Nat) (s : List UInt8) (hs : s.length < 1000000) (hn : s.length < n) : ∀ (m k i : Nat), s.length - i ≤ m → i ≤ s.length → m < k → (ref01_gap_L0 n s k (i : Int)).map outG = some ((i + gapS false (s.drop i) : Nat) : Int) := by
  intro m
  induction m with
  | zero =>
    intro k i hm hi hk
    obtain ⟨k, rfl⟩ : ∃ j, k = j + 1 := ⟨k - 1, by omega⟩
    obtain rfl : i = s.length := by omega
    rw [ref01_gap_L0, bif_not (by omega), List.drop_length]; simp [gapS, outG]
  | succ m ih =>
    intro k i hm hi hk
    obtain ⟨k, rfl⟩ : ∃ j, k = j + 1 := ⟨k - 1, by omega⟩
    by_cases hlt : i < s.length
    · have hc : s[i]? = some s[i] := List.getElem?_eq_getElem hlt
      rw [ref01_gap_L0, bif_decide (by omega), idx_some hc, wrap_one i (by omega), List.drop_eq_getElem_cons hlt]
      generalize hcc : s[i] = c at *
      simp only [Option.bind_some]
      by_cases hb : blankB (c.toNat : Int) = true
      · have hi1 := ih k (i + 1) (by omega) (by omega) (by omega)
        have e : (ref01_gap_L0 n s k ((i + 1 : Nat) : Int)).map outG = some ((i + gapS false (c :: s.drop (i + 1)) : Nat) : Int) := by
          rw [hi1, gapS_blank hb]; congr 1; omega
        rw [← e]
        unfold blankB at hb
        rw [decide_eq_true_eq] at hb
        rcases hb with h | h | h | h <;> rw [h] <;> rfl
      · have hb' : blankB (c.toNat : Int) = false := by simpa using hb
        have hnb := hb'
        unfold blankB at hnb
        rw [decide_eq_false_iff_not] at hnb
        rw [beq_eq_false_iff_ne.2 (show ((c.toNat : Nat) : Int) ≠ 32 by omega), beq_eq_false_iff_ne.2 (show ((c.toNat : Nat) : Int) ≠ 9 by omega), beq_eq_false_iff_ne.2 (show ((c.toNat : Nat) : Int) ≠ 10 by omega), beq_eq_false_iff_ne.2 (show ((c.toNat : Nat) : Int) ≠ 13 by omega)]
        simp only [cond_false]
        by_cases h35 : c.toNat = 35
        · have hr := gap1_m n s hs (k := n) (i := i) (by omega) (by omega)
          have hd : s.drop i = c :: s.drop (i + 1) := by rw [List.drop_eq_getElem_cons hlt, hcc]
          have hl1 : 1 ≤ runLen lineB (s.drop i) := by
            rw [hd, runLen_cons, if_pos (by rw [h35]; decide)]; omega
          have hl2 := runLen_le lineB (s.drop i)
          rw [List.length_drop] at hl2
          rw [h35, hr, Option.bind_some]
          show Option.map outG (ref01_gap_L0 n s k _) = _
          rw [ih k (i + runLen lineB (s.drop i)) (by omega) (by omega) (by omega), gapS_remark h35, ← hd, List.drop_drop]
          congr 1; omega
        · rw [beq_eq_false_iff_ne.2 (show ((c.toNat : Nat) : Int) ≠ 35 by omega), cond_false, gapS_none hb' h35]
          rfl
    · obtain rfl : i = s.length := by omega
      rw [ref01_gap_L0, bif_not (by omega), List.drop_length]; simp [gapS, outG]
theorem gap_m (n : Nat) (s : List UInt8) (i : Nat) (hs : s.length < 1000000) (hn : s.length + 1 < n) (hi : i ≤ s.length) : m_ref01_gap n s (i : Int) = some ((i + gapS false (s.drop i) : Nat) : Int) := by
  obtain ⟨n, rfl⟩ : ∃ j, n = j + 1 := ⟨n - 1, by omega⟩
  obtain ⟨r, h1, h2⟩ := Option.map_eq_some_iff.1 (gap_L n s hs (by omega) s.length n i (by omega) hi (by omega))
  rw [m_ref01_gap, h1]
  cases r <;> exact congrArg some h2
def tokOf (s : List UInt8) (at' : Nat) : Lx → S_api_Token × Int
  | .tok k n v => (⟨k, (s.drop at').take n, v, at'⟩, 0)
  | .err e => (⟨0, [], 0, 0⟩, e)
theorem word_L (n : Nat) (s : List UInt8) (hs : s.length < 1000000) (a : Nat) (k i : Nat) (h0 : a < i) (hi : i ≤ s.length) (hk : s.length - i < k) : ref01_one_L0 (n + 1) s (a : Int) k (i : Int) = some (.out ((i + runLen wordB (s.drop i) : Nat) : Int)) := by
  have key : ∀ (m k i : Nat), a < i → i + m = s.length → m < k → ref01_one_L0 (n + 1) s (a : Int) k (i : Int) = some (.out ((i + runLen wordB (s.drop i) : Nat) : Int)) := by
    intro m
    induction m with
    | zero =>
      intro k i ha hi hk
      obtain ⟨k, rfl⟩ : ∃ j, k = j + 1 := ⟨k - 1, by omega⟩
      obtain rfl : i = s.length := by omega
      rw [ref01_one_L0, bif_not (by omega), List.drop_length]; simp [runLen]
    | succ m ih =>
      intro k i ha hi hk
      obtain ⟨k, rfl⟩ : ∃ j, k = j + 1 := ⟨k - 1, by omega⟩
      have hlt : i < s.length := by omega
      rw [ref01_one_L0, bif_decide (by omega), idx_some (List.getElem?_eq_getElem hlt), Option.bind_some, rletter_m, Option.bind_some, Option.bind_some, rdigit_m, Option.bind_some, wrap_one i (by omega), bif_decide (by omega), List.drop_eq_getElem_cons hlt, runLen_cons]
      have e := ih k (i + 1) (by omega) (by omega) (by omega)
      unfold wordB
      cases letterB (s[i].toNat : Int) with
      | true => rw [cond_true, e, Bool.true_or, if_pos rfl]; congr 3; unfold wordB; omega
      | false =>
        cases digitB (s[i].toNat : Int) with
        | true => rw [cond_false, cond_true, e, Bool.or_true, if_pos rfl]; congr 3; unfold wordB; omega
        | false => rw [cond_false, cond_false, if_neg (by simp)]; rfl
  exact key (s.length - i) k i h0 (by omega) hk
theorem digits_L (n : Nat) (s : List UInt8) (hs : s.length < 1000000) : ∀ (m k i v : Nat), i + m = s.length → m < k → v ≤ 10000 →
    ref01_one_L1 (n + 1) s k (i : Int) (v : Int) = some (.out (((i + runLen digitB (s.drop i) : Nat) : Int), (((s.drop i).take (runLen digitB (s.drop i))).foldl (fun n c => min (10 * n + (c.toNat - 48)) 10000) v : Nat))) := by
  intro m
  induction m with
  | zero =>
    intro k i v hi hk hv
    obtain ⟨k, rfl⟩ : ∃ j, k = j + 1 := ⟨k - 1, by omega⟩
    obtain rfl : i = s.length := by omega
    rw [ref01_one_L1, bif_not (by omega), List.drop_length]; simp [runLen]
  | succ m ih =>
    intro k i v hi hk hv
    obtain ⟨k, rfl⟩ : ∃ j, k = j + 1 := ⟨k - 1, by omega⟩
    have hlt : i < s.length := by omega
    rw [ref01_one_L1, bif_decide (by omega), idx_some (List.getElem?_eq_getElem hlt), Option.bind_some, rdigit_m, Option.bind_some, Option.bind_some, wrap_one i (by omega), List.drop_eq_getElem_cons hlt, runLen_cons]
    cases hd : digitB (s[i].toNat : Int) with
    | false => rw [cond_false, if_neg (by simp)]; simp
    | true =>
      have hd' : 48 ≤ s[i].toNat ∧ s[i].toNat ≤ 57 := by
        unfold digitB at hd; rw [decide_eq_true_eq] at hd; omega
      have w1 : IntKind.u8.wrap ((s[i].toNat : Int) - 48) = ((s[i].toNat - 48 : Nat) : Int) := by
        simp only [IntKind.wrap, IntKind.bits, IntKind.signed]
        simp; omega
      rw [cond_true, if_pos rfl, w1, wrap64 (n := 10 * (v : Int)) (by omega), wrap64 (n := ((s[i].toNat - 48 : Nat) : Int)) (by omega), wrap64 (by omega)]
      have e : (if 10000 < 10 * (v : Int) + ((s[i].toNat - 48 : Nat) : Int) then (10000 : Int) else 10 * (v : Int) + ((s[i].toNat - 48 : Nat) : Int)) = ((min (10 * v + (s[i].toNat - 48)) 10000 : Nat) : Int) := by split <;> omega
      rw [e, ih k (i + 1) _ (by omega) (by omega) (by omega), List.take_succ_cons, List.foldl_cons]
      congr 3; omega
theorem signs_is (n : Nat) : m_ref01_signs (n + 1) = some signsL := rfl
theorem take_drop' (s : List UInt8) (a k : Nat) : List.drop a (List.take (a + k) s) = (s.drop a).take k := by rw [List.drop_take]; congr 1; omega
theorem sign_L (n : Nat) (s : List UInt8) (hs : s.length < 1000000) (a : Nat) (ha : a ≤ s.length) {k : Nat} (hk : 20 < k) :
    ref01_one_L2 n s (a : Int) signsL k 0 = match findF (fun x : List UInt8 => decide (x <+: s.drop a)) signsL 0 with
      | some j => (match signsL[j]? with | some x => some (.ret ((⟨3, x, 0, (a : Int)⟩ : S_api_Token), 0)) | none => none)
      | none => some (.out ()) := by
  have hlen : signsL.length = 18 := rfl
  have h := find_list signsL (fun k i => ref01_one_L2 n s (a : Int) signsL k (i : Int)) (fun x : List UInt8 => decide (x <+: s.drop a)) (fun i x => some (.ret ((⟨3, x, 0, (a : Int)⟩ : S_api_Token), 0))) (fun k => by rw [ref01_one_L2, bif_not (by omega)]) (fun k i x hi hx => by
    have hxl : x.length ≤ 2 := by
      have hm := List.mem_of_getElem? hx
      have : signsL.all (fun x => decide (x.length ≤ 2)) = true := by decide
      simpa using List.all_eq_true.1 this x hm
    rw [ref01_one_L2, bif_decide (by omega), idx_some hx, Option.bind_some, Option.bind_some, wrap_one i (by omega), wrap64 (n := (a : Int) + (x.length : Int)) (by omega)]
    by_cases hl : (a : Int) + (x.length : Int) ≤ (s.length : Int)
    · have c : (decide (0 ≤ (a : Int) + (x.length : Int)) && decide ((a : Int) + (x.length : Int) ≤ (s.length : Int)) && decide (0 ≤ (a : Int)) && decide ((a : Int) ≤ (a : Int) + (x.length : Int))) = true := by
        rw [decide_eq_true (by omega), decide_eq_true hl, decide_eq_true (by omega), decide_eq_true (by omega)]; rfl
      rw [bif_decide hl, c, cond_true, Int.toNat_natCast, show ((a : Int) + (x.length : Int)).toNat = a + x.length by omega, take_drop', Option.bind_some]
      have e : ((s.drop a).take x.length == x) = decide (x <+: s.drop a) := by
        rw [Bool.eq_iff_iff, beq_iff_eq, decide_eq_true_eq, List.prefix_iff_eq_take]
        exact ⟨fun h => h.symm, fun h => h.symm⟩
      rw [e]
    · have e : decide (x <+: s.drop a) = false := decide_eq_false fun hp => by
        have := hp.length_le
        rw [List.length_drop] at this; omega
      rw [bif_not hl, e, cond_false]) signsL.length k 0 (by omega) (by omega)
  rw [List.drop_zero] at h
  refine h.trans ?_
  cases findF (fun x : List UInt8 => decide (x <+: s.drop a)) signsL 0 with
  | none => rfl
  | some j => (dsimp only; generalize signsL[j]? = q; cases q <;> rfl)
theorem findF_least {α : Type} {p : α → Bool} : ∀ {l : List α} {i j : Nat}, findF p l i = some j → ∀ k x, i + k < j → l[k]? = some x → p x = false := by
  intro l
  induction l with
  | nil => intro i j h; cases h
  | cons y l ih =>
    intro i j h k x hk hx
    rw [findF] at h
    cases hp : p y with
    | true =>
      rw [hp] at h
      have : i = j := Option.some.inj h
      omega
    | false =>
      rw [hp] at h
      cases k with
      | zero => obtain rfl : y = x := by simpa using hx
                exact hp
      | succ k => exact ih h k x (by omega) (by simpa using hx)
theorem findF_none {α : Type} {p : α → Bool} : ∀ {l : List α} {i : Nat}, findF p l i = none → ∀ x ∈ l, p x = false := by
  intro l
  induction l with
  | nil => intro i _ x hx; cases hx
  | cons y l ih =>
    intro i h x hx
    rw [findF] at h
    cases hp : p y with
    | true => rw [hp] at h; cases h
    | false =>
      rw [hp] at h
      rcases List.mem_cons.1 hx with rfl | hx
      · exact hp
      · exact ih h x hx
theorem one_m (n : Nat) (s : List UInt8) (a : Nat) (hs : s.length < 1000000) (hn : s.length + 30 < n) (ha : a < s.length) : m_ref01_one n s (a : Int) = some (tokOf s a (oneL (s.drop a))) := by
  obtain ⟨n, rfl⟩ : ∃ j, n = j + 2 := ⟨n - 2, by omega⟩
  have hd : s.drop a = s[a] :: s.drop (a + 1) := List.drop_eq_getElem_cons ha
  have hcons : ∀ p, runLen p (s.drop a) = if p s[a].toNat then runLen p (s.drop (a + 1)) + 1 else 0 := fun p => by rw [hd, runLen_cons]
  have hlen := fun p => runLen_le p (s.drop a)
  rw [List.length_drop] at hlen
  have hone : oneL (s.drop a) = if letterB s[a].toNat then (if runLen wordB (s.drop a) > 16 then .err 2 else .tok 1 (runLen wordB (s.drop a)) 0)
    else if digitB s[a].toNat then (if valueL ((s.drop a).take (runLen digitB (s.drop a))) > 9999 then .err 4 else .tok 2 (runLen digitB (s.drop a)) (valueL ((s.drop a).take (runLen digitB (s.drop a)))))
    else if signLen (s.drop a) = 0 then .err 3 else .tok 3 (signLen (s.drop a)) 0 := by rw [hd]; rfl
  have cut : ∀ m : Nat, m ≤ s.length - a → (decide (0 ≤ ((a + m : Nat) : Int)) && decide (((a + m : Nat) : Int) ≤ (s.length : Int)) && decide (0 ≤ (a : Int)) && decide ((a : Int) ≤ ((a + m : Nat) : Int))) = true := by
    intro m hm
    rw [decide_eq_true (by omega), decide_eq_true (by omega), decide_eq_true (by omega), decide_eq_true (by omega)]; rfl
  rw [m_ref01_one, ref01_one_L0, bif_decide (by omega), idx_some (List.getElem?_eq_getElem ha), Option.bind_some, rletter_m, Option.bind_some, wrap_one a (by omega), bif_not (show ¬ (a : Int) < (a : Int) by omega), hone]
  cases hl : letterB (s[a].toNat : Int) with
  | true =>
    have hw : wordB (s[a].toNat : Int) = true := by unfold wordB; rw [hl]; rfl
    have h1 := hcons wordB
    rw [if_pos hw] at h1
    have h2 := hlen wordB
    rw [cond_true, word_L n s hs a n (a + 1) (by omega) (by omega) (by omega), if_pos rfl]
    have e : a + 1 + runLen wordB (s.drop (a + 1)) = a + runLen wordB (s.drop a) := by omega
    rw [e]
    simp only [Option.bind_some]
    rw [bif_decide (by omega), wrap64 (by omega)]
    by_cases c : runLen wordB (s.drop a) > 16
    · rw [bif_decide (by omega), if_pos c]; rfl
    · rw [bif_not (by omega), if_neg c, cut _ (by omega), cond_true, Int.toNat_natCast, Int.toNat_natCast, take_drop']; rfl
  | false =>
    rw [cond_false, if_neg (by simp)]
    simp only [Option.bind_some]
    rw [bif_not (show ¬ (a : Int) < (a : Int) by omega)]
    have hD := digits_L n s hs (s.length - a) (n + 1) a 0 (by omega) (by omega) (by omega)
    have hD : ref01_one_L1 (n + 1) s (n + 1) (a : Int) 0 = some (.out (((a + runLen digitB (s.drop a) : Nat) : Int), ((valueL ((s.drop a).take (runLen digitB (s.drop a))) : Nat) : Int))) := hD
    rw [hD]
    simp only [Option.bind_some]
    have h1 := hcons digitB
    cases hg : digitB (s[a].toNat : Int) with
    | true =>
      rw [hg, if_pos rfl] at h1
      have h2 := hlen digitB
      rw [bif_decide (by omega), if_pos rfl]
      by_cases c : valueL ((s.drop a).take (runLen digitB (s.drop a))) > 9999
      · rw [bif_decide (by omega), if_pos c]; rfl
      · rw [bif_not (by omega), if_neg c, cut _ (by omega), cond_true, Int.toNat_natCast, Int.toNat_natCast, take_drop']; rfl
    | false =>
      rw [hg, if_neg (by simp)] at h1
      rw [bif_not (by omega), if_neg (by simp), signs_is, Option.bind_some, sign_L (n + 1) s hs a (by omega) (by omega)]
      cases hf : findF (fun x : List UInt8 => decide (x <+: s.drop a)) signsL 0 with
      | none =>
        have hnone : signLen (s.drop a) = 0 := signLen_none fun j hj => by
          have := findF_none hf signsL[j] (List.getElem_mem hj)
          simpa using this
        rw [hnone, if_pos rfl]; rfl
      | some j =>
        obtain ⟨_, j2, x, j3, j4⟩ := findF_lt hf
        rw [Nat.sub_zero] at j3
        have hj : j < signsL.length := by omega
        have hx : signsL[j] = x := by rw [List.getElem?_eq_getElem hj] at j3; exact Option.some.inj j3
        have hfirst := signLen_first (l := s.drop a) hj (by rw [hx]; simpa using j4) (fun k hk hkj => by
          have := findF_least hf k signsL[k] (by omega) (List.getElem?_eq_getElem hk)
          simpa using this)
        rw [hx] at hfirst
        have hx0 : 0 < x.length := by
          have : signsL.all (fun x => decide (0 < x.length)) = true := by decide
          have := List.all_eq_true.1 this x (List.mem_of_getElem? j3)
          simpa using this
        rw [hfirst.1, if_neg (by omega)]
        simp only [j3, Option.bind_some, tokOf, hfirst.2]
        rfl
def tkS (t : Tok) : S_api_Token := ⟨t.kind, t.text, t.n, t.at'⟩
def resS (r : ScanRes) : List S_api_Token × Int × Int := (r.toks.map tkS, r.err, r.at')
def outS (r : LR (List S_api_Token) (List S_api_Token × Int × Int)) : List S_api_Token × Int × Int := match r with
  | .out x => (x, 0, 0)
  | .ret x => x
theorem scan_L (n : Nat) (s : List UInt8) (hs : s.length ≤ 20000) (hn : s.length + 40 < n) : ∀ (m k p f : Nat) (acc : List Tok), s.length - p ≤ m → m < k → (s.drop p).length < f → p ≤ s.length → acc.length ≤ p →
    (ref01_Scan_L0 n s k ((p + gapS false (s.drop p) : Nat) : Int) (acc.map tkS)).map outS = some (resS (lexFrom f (s.drop p) p acc)) := by
  intro m
  induction m with
  | zero =>
    intro k p f acc hm hk hf hp ha
    obtain ⟨k, rfl⟩ : ∃ j, k = j + 1 := ⟨k - 1, by omega⟩
    obtain ⟨f, rfl⟩ : ∃ j, f = j + 1 := ⟨f - 1, by omega⟩
    obtain rfl : p = s.length := by omega
    rw [List.drop_length, ref01_Scan_L0, bif_not (by simp [gapS])]; rfl
  | succ m ih =>
    intro k p f acc hm hk hf hp ha
    obtain ⟨k, rfl⟩ : ∃ j, k = j + 1 := ⟨k - 1, by omega⟩
    obtain ⟨f, rfl⟩ : ∃ j, f = j + 1 := ⟨f - 1, by omega⟩
    have hg := gapS_le false (s.drop p)
    rw [List.length_drop] at hg
    have hdd : (s.drop p).drop (gapS false (s.drop p)) = s.drop (p + gapS false (s.drop p)) := by rw [List.drop_drop]
    generalize hi : p + gapS false (s.drop p) = i at *
    rw [lexFrom, hdd, hi]
    by_cases c : i < s.length
    · have hcons : s.drop i = s[i] :: s.drop (i + 1) := List.drop_eq_getElem_cons c
      rw [ref01_Scan_L0, bif_decide (by omega), one_m n s i (by omega) (by omega) c, Option.bind_some]
      rw [hcons]
      dsimp only
      rw [← hcons]
      cases ho : oneL (s.drop i) with
      | err e =>
        have he : (e != 0) = true := oneL_err ho
        simp only [tokOf, he, cond_true]; rfl
      | tok kd ln v =>
        obtain ⟨l1, l2⟩ := oneL_len ho
        rw [List.length_drop] at l2
        have htl : ((s.drop i).take ln).length = ln := by rw [List.length_take, List.length_drop]; omega
        have e0 : ((0 : Int) != 0) = false := rfl
        simp only [tokOf, e0, cond_false, htl]
        rw [bif_decide (by rw [List.length_map]; omega), wrap64 (by omega), show (i : Int) + (ln : Int) = ((i + ln : Nat) : Int) by omega, gap_m n s (i + ln) (by omega) (by omega) (by omega), Option.bind_some]
        have hh := ih k (i + ln) f (acc ++ [⟨kd, (s.drop i).take ln, v, (i : Nat)⟩]) (by omega) (by omega) (by rw [List.length_drop] at hf ⊢; omega) (by omega) (by simp; omega)
        rw [List.map_append] at hh
        rw [List.drop_drop]
        exact hh
    · obtain rfl : i = s.length := by omega
      rw [List.drop_length, ref01_Scan_L0, bif_not (by omega)]; rfl
theorem scan_m (n : Nat) (s : List UInt8) (hs : s.length < 1000000) (hn : s.length + 50 < n) : m_ref01_Scan n s = some (resS (scanL s)) := by
  obtain ⟨n, rfl⟩ : ∃ j, n = j + 1 := ⟨n - 1, by omega⟩
  rw [m_ref01_Scan, scanL]
  by_cases c : 20000 < (s.length : Int)
  · rw [bif_decide c, if_pos (by omega)]; rfl
  · rw [bif_not c, if_neg (by omega), show (0 : Int) = ((0 : Nat) : Int) from rfl, gap_m n s 0 (by omega) (by omega) (by omega), Option.bind_some]
    obtain ⟨r, h1, h2⟩ := Option.map_eq_some_iff.1 (scan_L n s (by omega) (by omega) s.length n 0 (s.length + 1) [] (by omega) (by omega) (by simp) (by omega) (by simp))
    have h1 : ref01_Scan_L0 n s n ((0 + gapS false (s.drop 0) : Nat) : Int) [] = some r := h1
    rw [h1, Option.bind_some]
    have h2 : outS r = resS (lexFrom (s.length + 1) s 0 []) := by rw [h2, List.drop_zero]
    rw [← h2]
    cases r <;> rfl
end Go.Proofs.Ytonhmholnneaaaa
end
section
namespace Go.Proofs.Ytonhmholnneaaaa
set_option linter.unusedVariables false
set_option linter.unusedSimpArgs false
def digS (n : Int) : List UInt8 := (m_expr_decimal 5 n).getD []
theorem kids0 {x : Nd} : kidsF x.f_Op = 0 ↔ 1 ≤ x.f_Op ∧ x.f_Op ≤ 4 := by
  unfold kidsF; repeat' split
  all_goals omega
theorem dec_j : ∀ (j : Nat) (x : Int), j < 10 → 0 ≤ x → x < 100000 → x < 10 ^ (j + 1) → ∃ d : List UInt8, d.length ≤ j + 1 ∧ ∀ k, j < k → m_expr_decimal k x = some d := by
  intro j
  induction j with
  | zero =>
    intro x _ h0 _ h1
    refine ⟨[UInt8.ofNat (IntKind.u8.wrap (IntKind.i64.wrap (48 + x))).toNat], by simp, fun k hk => ?_⟩
    obtain ⟨k, rfl⟩ : ∃ i, k = i + 1 := ⟨k - 1, by omega⟩
    rw [m_expr_decimal, bif_decide (by simp at h1; omega)]
  | succ j ih =>
    intro x hj h0 hx h1
    by_cases c : x < 10
    · refine ⟨[UInt8.ofNat (IntKind.u8.wrap (IntKind.i64.wrap (48 + x))).toNat], by simp, fun k hk => ?_⟩
      obtain ⟨k, rfl⟩ : ∃ i, k = i + 1 := ⟨k - 1, by omega⟩
      rw [m_expr_decimal, bif_decide c]
    · have hp : (10 : Int) ^ (j + 1 + 1) = 10 ^ (j + 1) * 10 := Int.pow_succ 10 (j + 1)
      obtain ⟨d, d1, d2⟩ := ih (x / 10) (by omega) (by omega) (by omega) (by omega)
      refine ⟨d ++ [UInt8.ofNat (IntKind.u8.wrap (IntKind.i64.wrap (48 + (Int.tmod x 10)))).toNat], by simp; omega, fun k hk => ?_⟩
      obtain ⟨k, rfl⟩ : ∃ i, k = i + 1 := ⟨k - 1, by omega⟩
      rw [m_expr_decimal, bif_not c, Int.tdiv_eq_ediv_of_nonneg h0, wrap64 (by omega), d2 k (by omega), Option.bind_some, bif_decide (by simp; omega)]
theorem dec_m {x : Int} (h : 0 ≤ x ∧ x ≤ 9999) : (digS x).length ≤ 4 ∧ ∀ k, 4 ≤ k → m_expr_decimal k x = some (digS x) := by
  obtain ⟨d, d1, d2⟩ := dec_j 3 x (by omega) h.1 (by omega) (by simp; omega)
  have : digS x = d := by rw [digS, d2 5 (by omega)]; rfl
  rw [this]; exact ⟨d1, fun k hk => d2 k (by omega)⟩
def signF (op : Int) : List UInt8 := if op = 5 then [33] else if op = 6 then [43] else if op = 7 then [45] else if op = 8 then [42] else if op = 9 then [61, 61] else if op = 10 then [33, 61] else if op = 11 then [60] else if op = 12 then [60, 61] else if op = 13 then [38, 38] else [124, 124]
theorem sign_p (n : Nat) {op : Int} (h : 5 ≤ op ∧ op ≤ 14) : m_expr_sign (n + 1) op = some (signF op) ∧ (signF op).length ≤ 2 := by
  rcases op_cases op with h | h | h | h | h | h | h | h | h | h | h | h | h | h | h | h
  all_goals try omega
  all_goals subst h; exact ⟨rfl, by decide⟩
def showT : Tr → Bool → List UInt8
  | .leaf x, _ => if x.f_Op = 1 then digS x.f_N else if x.f_Op = 4 then x.f_In ++ [46] ++ x.f_Name else x.f_Name
  | .un _ a, _ => [33] ++ showT a true
  | .bin x a b, o => bif o then ([40] ++ (showT a true ++ [32] ++ signF x.f_Op ++ [32] ++ showT b true)) ++ [41] else showT a true ++ [32] ++ signF x.f_Op ++ [32] ++ showT b true
def NodesOk (l : List Nd) : Prop := ∀ x ∈ l, nodeOk x = true ∧ x.f_Name.length ≤ 100 ∧ x.f_In.length ≤ 100
theorem leaf_num {x : Nd} (h : nodeOk x = true) (h1 : x.f_Op = 1) : 0 ≤ x.f_N ∧ x.f_N ≤ 9999 := by
  simp only [nodeOk, h1, if_true, Bool.and_eq_true, decide_eq_true_eq] at h
  exact h.2.1
theorem showT_len : ∀ (t : Tr) (o : Bool), t.wf → NodesOk t.flat → (showT t o).length ≤ 300 * t.flat.length := by
  intro t
  induction t with
  | leaf x =>
    intro o h hn
    have := hn x (by simp [Tr.flat])
    have h4 := (kids0 (x := x)).1 h
    simp only [showT, Tr.flat, List.length_cons, List.length_nil]
    split
    · rename_i c; have := (dec_m (leaf_num this.1 c)).1; omega
    · split
      · simp; omega
      · omega
  | un x a ih =>
    intro o h hn
    have := ih true h.2 (fun y hy => hn y (by simp [Tr.flat, hy]))
    simp only [showT, Tr.flat, List.length_cons, List.length_append, List.length_nil]; omega
  | bin x a b iha ihb =>
    intro o h hn
    have h1 := iha true h.2.1 (fun y hy => hn y (by simp [Tr.flat, hy]))
    have h2 := ihb true h.2.2 (fun y hy => hn y (by simp [Tr.flat, hy]))
    have h5 : 5 ≤ x.f_Op ∧ x.f_Op ≤ 14 := by have h1 := h.1; unfold kidsF at h1; split at h1 <;> (try split at h1) <;> (try split at h1) <;> omega
    have h3 := (sign_p 0 h5).2
    cases o <;> simp only [showT, cond_true, cond_false, Tr.flat, List.length_cons, List.length_append, List.length_nil] <;> omega
theorem idx_at {pre post : List Nd} {x : Nd} {r : List Nd} : idx (pre ++ (x :: r ++ post)) (pre.length : Int) = some x := by rw [idx_nat, List.getElem?_append_right (by simp)]; simp
theorem shown_tr : ∀ (t : Tr) (n : Nat) (pre post : List Nd) (o : Bool), t.wf → NodesOk t.flat → (pre ++ (t.flat ++ post)).length < 1000 → t.dep + 10 < n → m_expr_shown n (pre ++ (t.flat ++ post)) (pre.length : Int) o = some (showT t o, ((pre.length + t.flat.length : Nat) : Int)) := by
  intro t
  induction t with
  | leaf x =>
    intro n pre post o h hn hl hf
    obtain ⟨n, rfl⟩ : ∃ j, n = j + 1 := ⟨n - 1, by omega⟩
    have h4 := (kids0 (x := x)).1 h
    have hx := hn x (by simp [Tr.flat])
    simp only [List.length_append, Tr.flat, List.length_cons, List.length_nil] at hl
    have g : idx (pre ++ ((Tr.leaf x).flat ++ post)) (pre.length : Int) = some x := by rw [Tr.flat]; exact idx_at
    rw [m_expr_shown, g, Option.bind_some, wrap_one pre.length (by omega)]
    simp only [showT, Tr.flat, List.length_cons, List.length_nil, Nat.zero_add]
    have h4' : x.f_Op = 1 ∨ x.f_Op = 2 ∨ x.f_Op = 3 ∨ x.f_Op = 4 := by omega
    rcases h4' with c | c | c | c <;> simp only [c]
    · simp only [(dec_m (leaf_num hx.1 c)).2 n (by omega)]; rfl
    · rfl
    · rfl
    · show (bif decide (x.f_In.length + 1 ≤ 140737488355328) then _ else _) = _
      rw [bif_decide (by omega), bif_decide (by simp; omega)]; rfl
  | un x a ih =>
    intro n pre post o h hn hl hf
    obtain ⟨n, rfl⟩ : ∃ j, n = j + 2 := ⟨n - 2, by omega⟩
    have h5 : x.f_Op = 5 := by have h1 := h.1; unfold kidsF at h1; split at h1 <;> (try split at h1) <;> (try split at h1) <;> omega
    have e : pre ++ ((Tr.un x a).flat ++ post) = (pre ++ [x]) ++ (a.flat ++ post) := by simp [Tr.flat]
    have hp1 : ((pre ++ [x]).length : Int) = ((pre.length + 1 : Nat) : Int) := by simp
    have g : idx (pre ++ ((Tr.un x a).flat ++ post)) (pre.length : Int) = some x := by rw [Tr.flat]; exact idx_at
    have hna : NodesOk a.flat := fun y hy => hn y (by simp [Tr.flat, hy])
    have i1 := ih (n + 1) (pre ++ [x]) post true h.2 hna (by rw [← e]; exact hl) (by simp only [Tr.dep] at hf; omega)
    rw [← e, hp1] at i1
    have hs := showT_len a true h.2 hna
    have sg := sign_p n (op := 5) (by omega)
    simp only [List.length_append, Tr.flat, List.length_cons, List.length_nil] at hl
    rw [m_expr_shown, g, Option.bind_some, wrap_one pre.length (by omega), h5]
    simp only [i1, sg.1, Option.bind_some, show ((5 : Int) == 1) = false from rfl, show ((5 : Int) == 2) = false from rfl, show ((5 : Int) == 3) = false from rfl, show ((5 : Int) == 4) = false from rfl, beq_self_eq_true, cond_false, cond_true]
    have e5 : signF 5 = [33] := rfl
    rw [e5, bif_decide (by simp; omega)]
    simp only [showT, Tr.flat, List.length_cons, List.length_append, List.length_nil]
    congr 2; omega
  | bin x a b iha ihb =>
    intro n pre post o h hn hl hf
    obtain ⟨n, rfl⟩ : ∃ j, n = j + 2 := ⟨n - 2, by omega⟩
    have h5 : 6 ≤ x.f_Op ∧ x.f_Op ≤ 14 := by have h1 := h.1; unfold kidsF at h1; split at h1 <;> (try split at h1) <;> (try split at h1) <;> omega
    have e : pre ++ ((Tr.bin x a b).flat ++ post) = (pre ++ [x]) ++ (a.flat ++ (b.flat ++ post)) := by simp [Tr.flat]
    have e2 : pre ++ ((Tr.bin x a b).flat ++ post) = (pre ++ [x] ++ a.flat) ++ (b.flat ++ post) := by simp [Tr.flat]
    have hp1 : ((pre ++ [x]).length : Int) = ((pre.length + 1 : Nat) : Int) := by simp
    have hp2 : (((pre ++ [x]).length + a.flat.length : Nat) : Int) = ((pre ++ [x] ++ a.flat).length : Int) := by simp; omega
    have g : idx (pre ++ ((Tr.bin x a b).flat ++ post)) (pre.length : Int) = some x := by rw [Tr.flat]; exact idx_at
    have hna : NodesOk a.flat := fun y hy => hn y (by simp [Tr.flat, hy])
    have hnb : NodesOk b.flat := fun y hy => hn y (by simp [Tr.flat, hy])
    simp only [Tr.dep] at hf
    have i1 := iha (n + 1) (pre ++ [x]) (b.flat ++ post) true h.2.1 hna (by rw [← e]; exact hl) (by omega)
    have i2 := ihb (n + 1) (pre ++ [x] ++ a.flat) post true h.2.2 hnb (by rw [← e2]; exact hl) (by omega)
    rw [← e, hp1, hp2] at i1
    rw [← e2] at i2
    have hs := showT_len a true h.2.1 hna
    have hs2 := showT_len b true h.2.2 hnb
    have sg := sign_p n (op := x.f_Op) (by omega)
    simp only [List.length_append, Tr.flat, List.length_cons, List.length_nil] at hl
    rw [m_expr_shown, g, Option.bind_some, wrap_one pre.length (by omega)]
    simp only [i1, i2, sg.1, Option.bind_some, beq_eq_false_iff_ne.2 (show x.f_Op ≠ 1 by omega), beq_eq_false_iff_ne.2 (show x.f_Op ≠ 2 by omega), beq_eq_false_iff_ne.2 (show x.f_Op ≠ 3 by omega), beq_eq_false_iff_ne.2 (show x.f_Op ≠ 4 by omega), beq_eq_false_iff_ne.2 (show x.f_Op ≠ 5 by omega), cond_false, cond_true]
    have sl := sg.2
    rw [bif_decide (by simp; omega), bif_decide (by simp; omega), bif_decide (by simp; omega), bif_decide (by simp; omega)]
    cases o with
    | false =>
      simp only [cond_false, showT, Tr.flat, List.length_cons, List.length_append, List.length_nil]
      congr 2; omega
    | true =>
      rw [cond_true, bif_decide (by simp; omega), bif_decide (by simp; omega)]
      simp only [cond_true, showT, Tr.flat, List.length_cons, List.length_append, List.length_nil]
      congr 2; omega
def isName (x : Nd) : Bool := x.f_Op == 2 || (x.f_Op == 3 || x.f_Op == 4)
theorem filter_list {α τ : Type} (l : List α) (p : α → Bool) (L : Nat → Nat → List α → Option (LR (List α) τ)) (h0 : ∀ k s, L (k + 1) l.length s = some (.out s))
    (h1 : ∀ k i x s, i < l.length → l[i]? = some x → s.length ≤ i → L (k + 1) i s = L k (i + 1) (bif p x then s ++ [x] else s)) {k : Nat} (hk : l.length < k) : L k 0 [] = some (.out (l.filter p)) := by
  have := loop_list0 l L (fun l s => some (.out (s ++ l.filter p))) (fun i s => s.length ≤ i) (s := []) hk (Nat.le_refl _) (fun k s _ => by rw [h0 k]; simp) ?_
  · rw [this]; rfl
  · intro k i s x hi hx hs ih
    rw [h1 k i x s hi hx hs]
    cases hp : p x with
    | true => rw [cond_true, ih _ (by simp; omega)]; simp [hp]
    | false => rw [cond_false, ih _ (by omega)]; simp [hp]
theorem names_m (n : Nat) (l : List Nd) (hl : l.length < 100000) (hn : l.length + 1 < n) : m_expr_Names n l = some (l.filter isName) := by
  obtain ⟨n, rfl⟩ : ∃ j, n = j + 1 := ⟨n - 1, by omega⟩
  have : expr_Names_L0 n l n 0 [] = some (.out (l.filter isName)) := by
    refine filter_list l isName (fun k i s => expr_Names_L0 n l k (i : Int) s) (fun k s => ?_) (fun k i x s hi hx hs => ?_) (by omega)
    · rw [expr_Names_L0, bif_not (by omega)]
    · rw [expr_Names_L0, bif_decide (by omega), idx_some hx, Option.bind_some, wrap_one i (by omega), bif_decide (show (s.length + 1) * 57 ≤ 140737488355328 by omega)]
      unfold isName
      cases (x.f_Op == 2) <;> cases (x.f_Op == 3) <;> cases (x.f_Op == 4) <;> rfl
  rw [m_expr_Names, this]; rfl
theorem exprOk_tree {l : List Nd} (h : exprOk l = true) : ∃ t : Tr, t.wf ∧ t.flat = l ∧ l.length ≤ 200 ∧ t.dep ≤ 30 ∧ 1 ≤ l.length ∧ l.all nodeOk = true ∧ (depF l (0, [])).1 = (t.dep : Int) := by
  simp only [exprOk, Bool.and_eq_true, decide_eq_true_eq] at h
  obtain ⟨h1, h2, h3, h4⟩ := h
  obtain ⟨t, t1, t2, _, _⟩ := of_endF1 h2
  rw [List.take_length] at t2
  have := depF_tr t [] 0 [] t1 (by omega)
  rw [List.append_nil, t2] at this
  have e : (depF l (0, [])).1 = (t.dep : Int) := by rw [this]; simp [depF]
  rw [e] at h4
  exact ⟨t, t1, t2, h1.2, by omega, h1.1, h3, e⟩
end Go.Proofs.Ytonhmholnneaaaa
end
section
namespace Go.Proofs.Ytonhmholnneaaaa
set_option linter.unusedVariables false
theorem nameAt_word {l : List UInt8} {k : Nat} (hk : k < l.length) (h : nameAt l k = true) : wordB l[k].toNat = true := by
  simp only [nameAt, List.getElem?_eq_getElem hk, Bool.or_eq_true, Bool.and_eq_true, decide_eq_true_eq] at h
  simp only [wordB, Bool.or_eq_true]
  rcases h with h | h
  · exact .inl h
  · exact .inr h.2
def wordL (l : List UInt8) : Prop := ∃ c t, l = c :: t ∧ letterB c.toNat = true ∧ (∀ k (hk : k < l.length), wordB l[k].toNat = true) ∧ l.length ≤ 16
theorem word_of_name {l : List UInt8} (h : nameB l = true) : wordL l := by
  simp only [nameB, Bool.and_eq_true, Bool.not_eq_true', decide_eq_true_eq, List.all_eq_true, List.mem_range] at h
  obtain ⟨⟨⟨h1, h2⟩, h3⟩, _⟩ := h
  rcases l with _ | ⟨c, t⟩
  · simp at h1
  · refine ⟨c, t, rfl, ?_, fun k hk => nameAt_word hk (h3 k hk), h2⟩
    have := h3 0 (by simp)
    simpa [nameAt] using this
theorem letter_not_blank {c : UInt8} (h : letterB c.toNat = true) : blankB c.toNat = false ∧ c.toNat ≠ 35 := by
  simp only [letterB, decide_eq_true_eq] at h
  simp only [blankB, decide_eq_false_iff_not]
  omega
def Tok.core (t : Tok) : Int × List UInt8 × Int := (t.kind, t.text, t.n)
end Go.Proofs.Ytonhmholnneaaaa
end
section
namespace Go.Proofs.Ytonhmholnneaaaa
set_option linter.unusedVariables false
set_option linter.unusedSimpArgs false
def dbyte (x : Int) : UInt8 := UInt8.ofNat (IntKind.u8.wrap (IntKind.i64.wrap (48 + x))).toNat
theorem dbyte_nat {x : Int} (h : 0 ≤ x ∧ x < 10) : ((dbyte x).toNat : Int) = 48 + x := by
  have h1 : x = 0 ∨ x = 1 ∨ x = 2 ∨ x = 3 ∨ x = 4 ∨ x = 5 ∨ x = 6 ∨ x = 7 ∨ x = 8 ∨ x = 9 := by omega
  rcases h1 with rfl | rfl | rfl | rfl | rfl | rfl | rfl | rfl | rfl | rfl <;> decide
theorem valueL_snoc (d : List UInt8) (c : UInt8) : valueL (d ++ [c]) = min (10 * valueL d + (c.toNat - 48)) 10000 := by
  simp [valueL, List.foldl_append]
theorem dig_j : ∀ (j : Nat) (x : Int), j < 10 → 0 ≤ x → x < 10000 → x < 10 ^ (j + 1) → ∃ d : List UInt8, d.length ≤ j + 1 ∧ (∀ k, j < k → m_expr_decimal k x = some d) ∧ d.all (fun c => digitB c.toNat) = true ∧ (valueL d : Int) = x ∧ d ≠ [] := by
  intro j
  have base : ∀ (j : Nat) (x : Int), 0 ≤ x → x < 10 → ∃ d : List UInt8, d.length ≤ j + 1 ∧ (∀ k, j < k → m_expr_decimal k x = some d) ∧ d.all (fun c => digitB c.toNat) = true ∧ (valueL d : Int) = x ∧ d ≠ [] := by
    intro j x h0 h1
    have hb := dbyte_nat ⟨h0, h1⟩
    refine ⟨[dbyte x], by simp, fun k hk => ?_, ?_, ?_, by simp⟩
    · obtain ⟨k, rfl⟩ : ∃ i, k = i + 1 := ⟨k - 1, by omega⟩
      rw [m_expr_decimal, bif_decide h1]; rfl
    · simp only [List.all_cons, List.all_nil, Bool.and_true]
      unfold digitB; exact decide_eq_true (by omega)
    · have := valueL_snoc [] (dbyte x)
      have e0 : valueL [] = 0 := rfl
      rw [List.nil_append, e0] at this
      rw [this]; omega
  induction j with
  | zero => intro x _ h0 _ h1; exact base 0 x h0 (by simp at h1; omega)
  | succ j ih =>
    intro x hj h0 hx h1
    by_cases c : x < 10
    · exact base _ x h0 c
    · have hp : (10 : Int) ^ (j + 1 + 1) = 10 ^ (j + 1) * 10 := Int.pow_succ 10 (j + 1)
      obtain ⟨d, d1, d2, d3, d4, d5⟩ := ih (x / 10) (by omega) (by omega) (by omega) (by omega)
      have hb := dbyte_nat (x := x % 10) ⟨by omega, by omega⟩
      have hm : Int.tmod x 10 = x % 10 := Int.tmod_eq_emod_of_nonneg h0
      refine ⟨d ++ [dbyte (x % 10)], by simp; omega, fun k hk => ?_, ?_, ?_, by simp⟩
      · obtain ⟨k, rfl⟩ : ∃ i, k = i + 1 := ⟨k - 1, by omega⟩
        rw [m_expr_decimal, bif_not c, Int.tdiv_eq_ediv_of_nonneg h0, wrap64 (by omega), d2 k (by omega), Option.bind_some, bif_decide (by simp; omega), hm]; rfl
      · simp only [List.all_append, d3, List.all_cons, List.all_nil, Bool.and_true, Bool.true_and]
        unfold digitB; exact decide_eq_true (by omega)
      · rw [valueL_snoc]; omega
theorem dig_facts {x : Int} (h : 0 ≤ x ∧ x ≤ 9999) : (digS x).all (fun c => digitB c.toNat) = true ∧ (valueL (digS x) : Int) = x ∧ digS x ≠ [] := by
  obtain ⟨d, d1, d2, d3, d4, d5⟩ := dig_j 3 x (by omega) h.1 (by omega) (by simp; omega)
  have : digS x = d := by rw [digS, d2 5 (by omega)]; rfl
  rw [this]; exact ⟨d3, d4, d5⟩
def EndW (r : List UInt8) : Prop := r = [] ∨ ∃ c t, r = c :: t ∧ wordB c.toNat = false
theorem runLen_app {p : Int → Bool} {w r : List UInt8} (hw : ∀ c ∈ w, p c.toNat = true) (hr : r = [] ∨ ∃ c t, r = c :: t ∧ p c.toNat = false) : runLen p (w ++ r) = w.length := by
  induction w with
  | nil =>
    rcases hr with rfl | ⟨c, t, rfl, hc⟩
    · simp [runLen]
    · rw [List.nil_append, runLen_cons, if_neg (by rw [hc]; simp)]; rfl
  | cons a w ih => rw [List.cons_append, runLen_cons, if_pos (hw a (List.mem_cons_self ..)), ih fun c hc => hw c (List.mem_cons_of_mem _ hc)]; simp
theorem one_name {w r : List UInt8} (h : nameB w = true) (hr : EndW r) : oneL (w ++ r) = .tok 1 w.length 0 := by
  obtain ⟨c, t, rfl, h1, h2, h3⟩ := word_of_name h
  have hrun : runLen wordB (c :: t ++ r) = (c :: t).length := runLen_app (fun d hd => by
    obtain ⟨k, hk, rfl⟩ := List.mem_iff_getElem.1 hd
    exact h2 k hk) hr
  rw [List.cons_append] at hrun ⊢
  show (if letterB c.toNat then _ else _) = _
  rw [if_pos h1, hrun, if_neg (by omega)]
theorem one_num {x : Int} (hx : 0 ≤ x ∧ x ≤ 9999) {r : List UInt8} (hr : EndW r) : oneL (digS x ++ r) = .tok 2 (digS x).length x.toNat := by
  obtain ⟨h1, h2, h3⟩ := dig_facts hx
  obtain ⟨c, t, hw⟩ := List.exists_cons_of_ne_nil h3
  have hd : digitB c.toNat = true := by
    rw [hw] at h1; simp only [List.all_cons, Bool.and_eq_true] at h1; exact h1.1
  have hl : letterB c.toNat = false := by
    unfold digitB at hd; unfold letterB; rw [decide_eq_true_eq] at hd; exact decide_eq_false (by omega)
  have hrun : runLen digitB (digS x ++ r) = (digS x).length := runLen_app (fun d hd => List.all_eq_true.1 h1 d hd) (by
    rcases hr with rfl | ⟨c, t, rfl, hc⟩
    · exact .inl rfl
    · refine .inr ⟨c, t, rfl, ?_⟩
      unfold wordB at hc; simp only [Bool.or_eq_false_iff] at hc; exact hc.2)
  have e : oneL (digS x ++ r) = if letterB c.toNat then (if runLen wordB (digS x ++ r) > 16 then .err 2 else .tok 1 (runLen wordB (digS x ++ r)) 0)
    else if digitB c.toNat then (if valueL ((digS x ++ r).take (runLen digitB (digS x ++ r))) > 9999 then .err 4 else .tok 2 (runLen digitB (digS x ++ r)) (valueL ((digS x ++ r).take (runLen digitB (digS x ++ r)))))
    else if signLen (digS x ++ r) = 0 then .err 3 else .tok 3 (signLen (digS x ++ r)) 0 := by rw [hw]; rfl
  rw [e, hl, hd, hrun]
  have ht : (digS x ++ r).take (digS x).length = digS x := by rw [List.take_append_of_le_length (Nat.le_refl _), List.take_length]
  rw [ht, if_neg (by simp), if_pos rfl, if_neg (by omega)]
  congr 1; omega
theorem one_sign {op : Int} (h : 6 ≤ op ∧ op ≤ 14) (r : List UInt8) : oneL (signF op ++ 32 :: r) = .tok 3 (signF op).length 0 := by
  rcases op_cases op with h | h | h | h | h | h | h | h | h | h | h | h | h | h | h | h
  all_goals try omega
  all_goals subst h; rfl
theorem one_open (r : List UInt8) : oneL (40 :: r) = .tok 3 1 0 := by cases r <;> rfl
theorem one_close (r : List UInt8) : oneL (41 :: r) = .tok 3 1 0 := by cases r <;> rfl
theorem one_dot (r : List UInt8) : oneL (46 :: r) = .tok 3 1 0 := by cases r <;> rfl
theorem one_not {r : List UInt8} (h : ∀ t, r ≠ 61 :: t) : oneL (33 :: r) = .tok 3 1 0 := by
  cases r with
  | nil => rfl
  | cons c t =>
    have hc : c ≠ 61 := fun e => h t (by rw [e])
    have e : signLen (33 :: c :: t) = 1 := by
      unfold signLen
      have : signs2.contains ((33 :: c :: t).take 2) = false := by
        simp only [List.take_succ_cons, List.take_zero, signs2, List.contains_cons, List.contains_nil, Bool.or_false]
        simp [hc]
      rw [this]; rfl
    have e2 : oneL (33 :: c :: t) = if signLen (33 :: c :: t) = 0 then .err 3 else .tok 3 (signLen (33 :: c :: t)) 0 := rfl
    rw [e2, e]; rfl
abbrev Ck := Int × List UInt8 × Int
def tokT : Tr → Bool → List Ck
  | .leaf x, _ => if x.f_Op = 1 then [(2, digS x.f_N, x.f_N)] else if x.f_Op = 4 then [(1, x.f_In, 0), (3, [46], 0), (1, x.f_Name, 0)] else [(1, x.f_Name, 0)]
  | .un _ a, _ => (3, [33], 0) :: tokT a true
  | .bin x a b, o => bif o then (3, [40], 0) :: ((tokT a true ++ (3, signF x.f_Op, 0) :: tokT b true) ++ [(3, [41], 0)]) else tokT a true ++ (3, signF x.f_Op, 0) :: tokT b true
def Seg (ok : List UInt8 → Prop) (s : List UInt8) (ts : List Ck) : Prop := ∀ (rest : List UInt8) (p : Nat) (acc : List Tok), ok rest → ∃ toks : List Tok, toks.map Tok.core = ts ∧ ∀ f f', (s ++ rest).length < f → rest.length < f' → lexFrom f (s ++ rest) p acc = lexFrom f' rest (p + s.length) (acc ++ toks)
theorem seg_tok {ok : List UInt8 → Prop} {w : List UInt8} {k : Int} {v : Nat} (hw : w ≠ []) (hb : ∀ c t, w = c :: t → blankB c.toNat = false ∧ c.toNat ≠ 35) (h : ∀ r, ok r → oneL (w ++ r) = .tok k w.length v) : Seg ok w [(k, w, (v : Int))] := by
  intro rest p acc hr
  refine ⟨[⟨k, w, v, (p : Nat)⟩], rfl, fun f f' hf hf' => ?_⟩
  obtain ⟨f, rfl⟩ : ∃ j, f = j + 1 := ⟨f - 1, by omega⟩
  obtain ⟨c, t, rfl⟩ := List.exists_cons_of_ne_nil hw
  have ho := h rest hr
  have hg : gapS false (c :: t ++ rest) = 0 := gapS_none (hb c t rfl).1 (hb c t rfl).2
  rw [lexFrom, hg, List.drop_zero]
  rw [List.cons_append] at ho ⊢
  simp only [ho]
  have e1 : (c :: (t ++ rest)).drop (c :: t).length = rest := by rw [← List.cons_append, List.drop_left]
  have e2 : (c :: (t ++ rest)).take (c :: t).length = c :: t := by rw [← List.cons_append, List.take_left]
  rw [e1, e2]
  simp only [Nat.add_zero]
  exact lexFrom_fuel f f' _ _ _ (by simp at hf; omega) hf'
theorem seg_append {ok1 ok2 : List UInt8 → Prop} {s1 s2 : List UInt8} {t1 t2 : List Ck} (h1 : Seg ok1 s1 t1) (h2 : Seg ok2 s2 t2) (h : ∀ r, ok2 r → ok1 (s2 ++ r)) : Seg ok2 (s1 ++ s2) (t1 ++ t2) := by
  intro rest p acc hr
  obtain ⟨k1, a1, a2⟩ := h1 (s2 ++ rest) p acc (h rest hr)
  obtain ⟨k2, b1, b2⟩ := h2 rest (p + s1.length) (acc ++ k1) hr
  refine ⟨k1 ++ k2, by rw [List.map_append, a1, b1], fun f f' hf hf' => ?_⟩
  rw [List.append_assoc] at hf ⊢
  rw [a2 f ((s2 ++ rest).length + 1) hf (by omega), b2 _ f' (by omega) hf', List.length_append, List.append_assoc, Nat.add_assoc]
theorem seg_blank {ok : List UInt8 → Prop} {s : List UInt8} {t : List Ck} (h : Seg ok s t) : Seg ok (32 :: s) t := by
  intro rest p acc hr
  obtain ⟨k1, a1, a2⟩ := h rest (p + 1) acc hr
  refine ⟨k1, a1, fun f f' hf hf' => ?_⟩
  obtain ⟨f, rfl⟩ : ∃ j, f = j + 1 := ⟨f - 1, by omega⟩
  have hg : gapS false (32 :: (s ++ rest)) = 1 + gapS false (s ++ rest) := gapS_blank (by decide)
  have e : lexFrom (f + 1) (32 :: (s ++ rest)) p acc = lexFrom (f + 1) (s ++ rest) (p + 1) acc := by
    rw [lexFrom, lexFrom, hg]
    have : (32 :: (s ++ rest)).drop (1 + gapS false (s ++ rest)) = (s ++ rest).drop (gapS false (s ++ rest)) := by rw [Nat.add_comm, List.drop_succ_cons]
    rw [this]
    have e3 : p + (1 + gapS false (s ++ rest)) = p + 1 + gapS false (s ++ rest) := by omega
    rw [e3]
  rw [List.cons_append, e, a2 (f + 1) f' (by simp at hf ⊢; omega) hf', List.length_cons]
  congr 1; omega
def OkE (r : List UInt8) : Prop := r = [] ∨ ∃ t, r = 32 :: t ∨ r = 41 :: t ∨ r = 44 :: t ∨ r = 59 :: t ∨ r = 10 :: t
theorem okE_end {r : List UInt8} (h : OkE r) : EndW r := by
  rcases h with rfl | ⟨t, rfl | rfl | rfl | rfl | rfl⟩
  · exact .inl rfl
  · exact .inr ⟨32, t, rfl, by decide⟩
  · exact .inr ⟨41, t, rfl, by decide⟩
  · exact .inr ⟨44, t, rfl, by decide⟩
  · exact .inr ⟨59, t, rfl, by decide⟩
  · exact .inr ⟨10, t, rfl, by decide⟩
theorem seg_mono {ok ok2 : List UInt8 → Prop} {s : List UInt8} {t : List Ck} (h : Seg ok s t) (hk : ∀ r, ok2 r → ok r) : Seg ok2 s t := fun rest p acc hr => h rest p acc (hk rest hr)
theorem name_cons {w : List UInt8} (h : nameB w = true) : ∃ c t, w = c :: t ∧ letterB c.toNat = true := by
  obtain ⟨c, t, h1, h2, _⟩ := word_of_name h
  exact ⟨c, t, h1, h2⟩
theorem seg_name {w : List UInt8} (h : nameB w = true) : Seg EndW w [(1, w, 0)] := by
  obtain ⟨c, t, rfl, hl⟩ := name_cons h
  exact seg_tok (by simp) (fun d u e => by
    obtain ⟨rfl, rfl⟩ := List.cons.inj e
    exact letter_not_blank hl) (fun r hr => one_name h hr)
theorem digit_not_blank {c : UInt8} (h : digitB c.toNat = true) : blankB c.toNat = false ∧ c.toNat ≠ 35 := by
  unfold digitB at h; rw [decide_eq_true_eq] at h
  refine ⟨?_, by omega⟩
  unfold blankB; exact decide_eq_false (by omega)
theorem seg_num {x : Int} (h : 0 ≤ x ∧ x ≤ 9999) : Seg EndW (digS x) [(2, digS x, x)] := by
  obtain ⟨h1, h2, h3⟩ := dig_facts h
  have := seg_tok (ok := EndW) (w := digS x) (k := 2) (v := x.toNat) h3 (fun c t e => by
    rw [e] at h1; simp only [List.all_cons, Bool.and_eq_true] at h1
    exact digit_not_blank h1.1) (fun r hr => one_num h hr)
  rw [show ((x.toNat : Nat) : Int) = x by omega] at this
  exact this
theorem seg_sign {op : Int} (h : 6 ≤ op ∧ op ≤ 14) : Seg (fun r => ∃ t, r = 32 :: t) (signF op) [(3, signF op, 0)] := by
  refine seg_tok ?_ ?_ (fun r hr => by obtain ⟨t, rfl⟩ := hr; exact one_sign h t)
  · rcases op_cases op with h | h | h | h | h | h | h | h | h | h | h | h | h | h | h | h
    all_goals try omega
    all_goals subst h; decide
  · rcases op_cases op with h | h | h | h | h | h | h | h | h | h | h | h | h | h | h | h
    all_goals try omega
    all_goals subst h; intro c t e; obtain ⟨rfl, _⟩ := List.cons.inj e; decide
theorem seg_open : Seg (fun _ => True) [40] [(3, [40], 0)] := seg_tok (by simp) (fun c t e => by obtain ⟨rfl, _⟩ := List.cons.inj e; decide) (fun r _ => one_open r)
theorem seg_close : Seg (fun _ => True) [41] [(3, [41], 0)] := seg_tok (by simp) (fun c t e => by obtain ⟨rfl, _⟩ := List.cons.inj e; decide) (fun r _ => one_close r)
theorem seg_dot : Seg (fun _ => True) [46] [(3, [46], 0)] := seg_tok (by simp) (fun c t e => by obtain ⟨rfl, _⟩ := List.cons.inj e; decide) (fun r _ => one_dot r)
theorem seg_not : Seg (fun r => ∀ t, r ≠ 61 :: t) [33] [(3, [33], 0)] := seg_tok (by simp) (fun c t e => by obtain ⟨rfl, _⟩ := List.cons.inj e; decide) (fun r hr => one_not hr)
theorem leaf_names {x : Nd} (h : nodeOk x = true) (hk : 1 ≤ x.f_Op ∧ x.f_Op ≤ 4) (h1 : x.f_Op ≠ 1) : nameB x.f_Name = true ∧ (x.f_Op = 4 → nameB x.f_In = true) := by
  simp only [nodeOk, Bool.and_eq_true] at h
  have h := h.2
  rw [if_neg h1] at h
  by_cases c : x.f_Op = 2 ∨ x.f_Op = 3
  · rw [if_pos c] at h; simp only [Bool.and_eq_true] at h
    exact ⟨h.2.1, fun e => by omega⟩
  · rw [if_neg c, if_pos (by omega)] at h; simp only [Bool.and_eq_true] at h
    exact ⟨h.2.1, fun _ => h.2.2⟩
theorem show_head : ∀ (t : Tr) (o : Bool), t.wf → NodesOk t.flat → ∃ c u, showT t o = c :: u ∧ c ≠ 61 := by
  have hl : ∀ {w : List UInt8}, nameB w = true → ∃ c u, w = c :: u ∧ c ≠ 61 := by
    intro w h
    obtain ⟨c, u, e, h2⟩ := name_cons h
    refine ⟨c, u, e, fun e => ?_⟩
    subst e; revert h2; decide
  intro t
  induction t with
  | leaf x =>
    intro o h hn
    have hk := kids0.1 h
    have hx := hn x (by simp [Tr.flat])
    rw [showT]
    by_cases c1 : x.f_Op = 1
    · rw [if_pos c1]
      obtain ⟨h1, h2, h3⟩ := dig_facts (leaf_num hx.1 c1)
      obtain ⟨c, u, e⟩ := List.exists_cons_of_ne_nil h3
      refine ⟨c, u, e, fun e2 => ?_⟩
      rw [e, e2] at h1; simp only [List.all_cons, Bool.and_eq_true] at h1
      exact absurd h1.1 (by decide)
    · obtain ⟨n1, n2⟩ := leaf_names hx.1 hk c1
      rw [if_neg c1]
      by_cases c4 : x.f_Op = 4
      · rw [if_pos c4]
        obtain ⟨c, u, e, hc⟩ := hl (n2 c4)
        exact ⟨c, u ++ [46] ++ x.f_Name, by rw [e]; simp, hc⟩
      · rw [if_neg c4]; exact hl n1
  | un x a ih => intro o h hn; exact ⟨33, showT a true, rfl, by decide⟩
  | bin x a b iha ihb =>
    intro o h hn
    cases o with
    | true => exact ⟨40, _, rfl, by decide⟩
    | false =>
      obtain ⟨c, u, e, hc⟩ := iha true h.2.1 (fun y hy => hn y (by simp [Tr.flat, hy]))
      exact ⟨c, u ++ ([32] ++ signF x.f_Op ++ [32] ++ showT b true), by rw [showT, cond_false, e]; simp, hc⟩
theorem seg_show : ∀ (t : Tr) (o : Bool), t.wf → NodesOk t.flat → Seg OkE (showT t o) (tokT t o) := by
  intro t
  induction t with
  | leaf x =>
    intro o h hn
    have hk := kids0.1 h
    have hx := hn x (by simp [Tr.flat])
    rw [showT, tokT]
    by_cases c1 : x.f_Op = 1
    · rw [if_pos c1, if_pos c1]; exact seg_mono (seg_num (leaf_num hx.1 c1)) fun r hr => okE_end hr
    · obtain ⟨n1, n2⟩ := leaf_names hx.1 hk c1
      rw [if_neg c1, if_neg c1]
      by_cases c4 : x.f_Op = 4
      · rw [if_pos c4, if_pos c4]
        have := seg_append (seg_append (seg_name (n2 c4)) seg_dot (fun r _ => .inr ⟨46, r, rfl, by decide⟩)) (seg_mono (seg_name n1) fun r hr => okE_end hr) (fun _ _ => trivial)
        simpa using this
      · rw [if_neg c4, if_neg c4]; exact seg_mono (seg_name n1) fun r hr => okE_end hr
  | un x a ih =>
    intro o h hn
    have hna : NodesOk a.flat := fun y hy => hn y (by simp [Tr.flat, hy])
    obtain ⟨c, u, e, hc⟩ := show_head a true h.2 hna
    exact seg_append seg_not (ih true h.2 hna) (fun r _ t ht => by
      rw [e] at ht; exact hc (List.cons.inj ht).1)
  | bin x a b iha ihb =>
    intro o h hn
    have h5 : 6 ≤ x.f_Op ∧ x.f_Op ≤ 14 := by have h1 := h.1; unfold kidsF at h1; split at h1 <;> (try split at h1) <;> (try split at h1) <;> omega
    have ha := iha true h.2.1 (fun y hy => hn y (by simp [Tr.flat, hy]))
    have hb := ihb true h.2.2 (fun y hy => hn y (by simp [Tr.flat, hy]))
    have mid : Seg OkE (signF x.f_Op ++ (32 :: showT b true)) ((3, signF x.f_Op, 0) :: tokT b true) := seg_append (seg_sign h5) (seg_blank hb) (fun r _ => ⟨_, rfl⟩)
    have all := seg_append ha (seg_blank mid) (fun r _ => .inr ⟨_, .inl rfl⟩)
    have e : showT a true ++ 32 :: (signF x.f_Op ++ 32 :: showT b true) = showT a true ++ [32] ++ signF x.f_Op ++ [32] ++ showT b true := by simp
    rw [e] at all
    cases o with
    | false => exact all
    | true =>
      have := seg_append seg_open (seg_append all seg_close (fun r _ => .inr ⟨r, .inr (.inl rfl)⟩)) (fun _ _ => trivial)
      exact seg_mono (by simpa [showT, tokT] using this) (fun _ _ => trivial)
end Go.Proofs.Ytonhmholnneaaaa
end
section
namespace Go.Proofs.Ytonhmholnneaaaa
set_option linter.unusedVariables false
set_option linter.unusedSimpArgs false
theorem rowL1_1 : @expr_parser_row_1_L1 = @expr_parser_row_L1 := by
  funext n ops l a b c d k; induction k with
  | zero => funext x y; rfl
  | succ k ih => funext x y; rw [expr_parser_row_1_L1, expr_parser_row_L1, ih]
theorem rowL1_2 : @expr_parser_row_2_L1 = @expr_parser_row_L1 := by
  funext n ops l a b c d k; induction k with
  | zero => funext x y; rfl
  | succ k ih => funext x y; rw [expr_parser_row_2_L1, expr_parser_row_L1, ih]
theorem rowL1_3 : @expr_parser_row_3_L1 = @expr_parser_row_L1 := by
  funext n ops l a b c d k; induction k with
  | zero => funext x y; rfl
  | succ k ih => funext x y; rw [expr_parser_row_3_L1, expr_parser_row_L1, ih]
theorem rowL1_4 : @expr_parser_row_4_L1 = @expr_parser_row_L1 := by
  funext n ops l a b c d k; induction k with
  | zero => funext x y; rfl
  | succ k ih => funext x y; rw [expr_parser_row_4_L1, expr_parser_row_L1, ih]
theorem rowL0_1 : @expr_parser_row_1_L0 = @expr_parser_row_L0 := by
  funext n r ops l k; induction k with
  | zero => funext a b c d e f; rfl
  | succ k ih => funext a b c d e f; rw [expr_parser_row_1_L0, expr_parser_row_L0, ih, rowL1_1]
theorem rowL0_2 : @expr_parser_row_2_L0 = @expr_parser_row_L0 := by
  funext n r ops l k; induction k with
  | zero => funext a b c d e f; rfl
  | succ k ih => funext a b c d e f; rw [expr_parser_row_2_L0, expr_parser_row_L0, ih, rowL1_2]
theorem rowL0_3 : @expr_parser_row_3_L0 = @expr_parser_row_L0 := by
  funext n r ops l k; induction k with
  | zero => funext a b c d e f; rfl
  | succ k ih => funext a b c d e f; rw [expr_parser_row_3_L0, expr_parser_row_L0, ih, rowL1_3]
theorem rowL0_4 : @expr_parser_row_4_L0 = @expr_parser_row_L0 := by
  funext n r ops l k; induction k with
  | zero => funext a b c d e f; rfl
  | succ k ih => funext a b c d e f; rw [expr_parser_row_4_L0, expr_parser_row_L0, ih, rowL1_4]
abbrev PRes := List Nd × Int × Int × Int × Int
def rowG (n : Nat) (next : List S_api_Token → Int → Int → Int → Int → Option PRes) (once : Bool) (ops : List Int) (l : List S_api_Token) (i inn e at' : Int) : Option PRes :=
  (next l i inn e at').bind fun y1 => (expr_parser_row_L0 n next ops l n once y1.1 y1.2.1 y1.2.2.1 y1.2.2.2.1 y1.2.2.2.2).bind fun o16 => match o16 with | .out x => some x | .ret v => some v
theorem any_g (n : Nat) (l : List S_api_Token) (i inn e at' : Int) : m_expr_parser_any (n + 2) l i inn e at' = rowG n (m_expr_parser_both n) false [14] l i inn e at' := by
  rw [m_expr_parser_any, m_expr_parser_row]
  unfold rowG
  cases m_expr_parser_both n l i inn e at' with
  | none => rfl
  | some y1 =>
    simp only [Option.bind_some]
    cases expr_parser_row_L0 n (m_expr_parser_both n) [14] l n false y1.1 y1.2.1 y1.2.2.1 y1.2.2.2.1 y1.2.2.2.2 with
    | none => rfl
    | some o => cases o <;> rfl
theorem both_g (n : Nat) (l : List S_api_Token) (i inn e at' : Int) : m_expr_parser_both (n + 2) l i inn e at' = rowG n (m_expr_parser_compared n) false [13] l i inn e at' := by
  rw [m_expr_parser_both, m_expr_parser_row_1, rowL0_1]
  unfold rowG
  cases m_expr_parser_compared n l i inn e at' with
  | none => rfl
  | some y1 =>
    simp only [Option.bind_some]
    cases expr_parser_row_L0 n (m_expr_parser_compared n) [13] l n false y1.1 y1.2.1 y1.2.2.1 y1.2.2.2.1 y1.2.2.2.2 with
    | none => rfl
    | some o => cases o <;> rfl
theorem compared_g (n : Nat) (l : List S_api_Token) (i inn e at' : Int) : m_expr_parser_compared (n + 2) l i inn e at' = rowG n (m_expr_parser_sum n) true [9, 10, 11, 12] l i inn e at' := by
  rw [m_expr_parser_compared, m_expr_parser_row_2, rowL0_2]
  unfold rowG
  cases m_expr_parser_sum n l i inn e at' with
  | none => rfl
  | some y1 =>
    simp only [Option.bind_some]
    cases expr_parser_row_L0 n (m_expr_parser_sum n) [9, 10, 11, 12] l n true y1.1 y1.2.1 y1.2.2.1 y1.2.2.2.1 y1.2.2.2.2 with
    | none => rfl
    | some o => cases o <;> rfl
theorem sum_g (n : Nat) (l : List S_api_Token) (i inn e at' : Int) : m_expr_parser_sum (n + 2) l i inn e at' = rowG n (m_expr_parser_product n) false [6, 7] l i inn e at' := by
  rw [m_expr_parser_sum, m_expr_parser_row_3, rowL0_3]
  unfold rowG
  cases m_expr_parser_product n l i inn e at' with
  | none => rfl
  | some y1 =>
    simp only [Option.bind_some]
    cases expr_parser_row_L0 n (m_expr_parser_product n) [6, 7] l n false y1.1 y1.2.1 y1.2.2.1 y1.2.2.2.1 y1.2.2.2.2 with
    | none => rfl
    | some o => cases o <;> rfl
theorem product_g (n : Nat) (l : List S_api_Token) (i inn e at' : Int) : m_expr_parser_product (n + 2) l i inn e at' = rowG n (m_expr_parser_single n) false [8] l i inn e at' := by
  rw [m_expr_parser_product, m_expr_parser_row_4, rowL0_4]
  unfold rowG
  cases m_expr_parser_single n l i inn e at' with
  | none => rfl
  | some y1 =>
    simp only [Option.bind_some]
    cases expr_parser_row_L0 n (m_expr_parser_single n) [8] l n false y1.1 y1.2.1 y1.2.2.1 y1.2.2.2.1 y1.2.2.2.2 with
    | none => rfl
    | some o => cases o <;> rfl
def isSg (l : List S_api_Token) (i : Nat) (s : List UInt8) : Bool := match l[i]? with
  | some t => t.f_Kind == 3 && t.f_Text == s
  | none => false
theorem is_m (n : Nat) (s : List UInt8) (l : List S_api_Token) (i : Nat) (a b c : Int) : m_expr_parser_is (n + 1) s l (i : Int) a b c = some (isSg l i s) := by
  rw [m_expr_parser_is, isSg]
  by_cases h : i < l.length
  · rw [bif_decide (by omega), idx_get h, List.getElem?_eq_getElem h]
    simp only [Option.bind_some]
    cases (l[i].f_Kind == 3) <;> rfl
  · rw [bif_not (by omega), List.getElem?_eq_none (by omega)]
def opPick (l : List S_api_Token) (i : Nat) (ops : List Int) : Int := ops.foldl (fun acc op => bif isSg l i (signF op) then op else acc) 0
theorem rowL1_m (n : Nat) (ops : List Int) (l : List S_api_Token) (i : Nat) (a b c : Int) (ho : ∀ op ∈ ops, 6 ≤ op ∧ op ≤ 14) (hl : ops.length ≤ 4) {k : Nat} (hk : 5 < k) : expr_parser_row_L1 (n + 1) ops l (i : Int) a b c k 0 0 = some (.out (opPick l i ops)) := by
  refine loop_list0 ops (fun k j acc => expr_parser_row_L1 (n + 1) ops l (i : Int) a b c k acc (j : Int)) (fun r acc => some (.out (r.foldl (fun acc op => bif isSg l i (signF op) then op else acc) acc))) (fun _ _ => True) (s := 0) (by omega) trivial (fun k s _ => ?_) (fun k j s x hj hx _ ih => ?_)
  · rw [expr_parser_row_L1, bif_not (by omega)]; rfl
  · have hx6 := ho x (List.mem_of_getElem? hx)
    rw [expr_parser_row_L1, bif_decide (by omega), idx_some hx, Option.bind_some, (sign_p n (by omega)).1, Option.bind_some, is_m, Option.bind_some, wrap_one j (by omega), List.foldl_cons]
    cases isSg l i (signF x) with
    | true => exact ih _ trivial
    | false => exact ih _ trivial
theorem node2_m (n : Nat) (x : Nd) (X Y : List Nd) (h : X.length + Y.length < 1000000) (hn : 5 < n) : m_expr_node n x [X, Y] = some (x :: (X ++ Y)) := by
  obtain ⟨n, rfl⟩ : ∃ j, n = j + 5 := ⟨n - 5, by omega⟩
  have e0 : idx [X, Y] 0 = some X := rfl
  have e1 : idx [X, Y] 1 = some Y := rfl
  have w1 : IntKind.i64.wrap (0 + 1) = 1 := by decide
  have w2 : IntKind.i64.wrap (1 + 1) = 2 := by decide
  rw [m_expr_node, expr_node_L0, bif_decide (by simp), e0, Option.bind_some, bif_decide (by simp; omega), w1, expr_node_L0, bif_decide (by simp), e1, Option.bind_some, bif_decide (by simp; omega), w2, expr_node_L0, bif_not (by simp)]
  simp
theorem node1_m (n : Nat) (x : Nd) (X : List Nd) (h : X.length < 1000000) (hn : 5 < n) : m_expr_node n x [X] = some (x :: X) := by
  obtain ⟨n, rfl⟩ : ∃ j, n = j + 5 := ⟨n - 5, by omega⟩
  have e0 : idx [X] 0 = some X := rfl
  have w1 : IntKind.i64.wrap (0 + 1) = 1 := by decide
  rw [m_expr_node, expr_node_L0, bif_decide (by simp), e0, Option.bind_some, bif_decide (by simp; omega), w1, expr_node_L0, bif_not (by simp)]
  simp
theorem node0_m (n : Nat) (x : Nd) (hn : 5 < n) : m_expr_node n x [] = some [x] := by
  obtain ⟨n, rfl⟩ : ∃ j, n = j + 5 := ⟨n - 5, by omega⟩
  rw [m_expr_node, expr_node_L0, bif_not (by simp)]; rfl
end Go.Proofs.Ytonhmholnneaaaa
end
section
namespace Go.Proofs.Ytonhmholnneaaaa
set_option linter.unusedVariables false
set_option linter.unusedSimpArgs false
abbrev Tk := S_api_Token
inductive PR where
  | ok (x : List Nd) (tu : Nat)
  | bad (e : Int) (a : Int)
def opsF : Nat → List Int
  | 0 => [14]
  | 1 => [13]
  | 2 => [9, 10, 11, 12]
  | 3 => [6, 7]
  | _ => [8]
def placeF (l : List Tk) (i : Nat) : Int := match l[i]? with
  | some t => t.f_At
  | none => match l[l.length - 1]? with
    | some t => IntKind.i64.wrap (t.f_At + ((t.f_Text.length : Nat) : Int))
    | none => 0
def errF (l : List Tk) (i : Nat) : Int := if i < l.length then 5 else 6
def badF (l : List Tk) (i : Nat) : PR := .bad (errF l i) (placeF l i)
def isN (l : List Tk) (i : Nat) : Bool := match l[i]? with
  | some t => t.f_Kind == 1 && nameB t.f_Text
  | none => false
def isK (l : List Tk) (i : Nat) : Bool := match l[i]? with
  | some t => t.f_Kind == 2
  | none => false
inductive Md where
  | fl (f : Nat)
  | lp (f : Nat) (x : List Nd)
inductive PE (l : List Tk) : Md → Nat → Nat → PR → Prop
  | deep {inn i : Nat} {t : Tk} : (isSg l i [33] = true ∨ isSg l i [40] = true) → 30 ≤ inn → l[i]? = some t → PE l (.fl 5) inn i (.bad 7 t.f_At)
  | not_ok {inn i tu : Nat} {t : Tk} {x : List Nd} : isSg l i [33] = true → inn < 30 → l[i]? = some t → PE l (.fl 5) (inn + 1) (i + 1) (.ok x tu) → PE l (.fl 5) inn i (.ok (⟨5, 0, [], [], t.f_At⟩ :: x) tu)
  | not_bad {inn i : Nat} {e a : Int} : isSg l i [33] = true → inn < 30 → PE l (.fl 5) (inn + 1) (i + 1) (.bad e a) → PE l (.fl 5) inn i (.bad e a)
  | par_ok {inn i tu : Nat} {x : List Nd} : isSg l i [40] = true → inn < 30 → PE l (.fl 0) (inn + 1) (i + 1) (.ok x tu) → isSg l tu [41] = true → PE l (.fl 5) inn i (.ok x (tu + 1))
  | par_bad {inn i : Nat} {e a : Int} : isSg l i [40] = true → inn < 30 → PE l (.fl 0) (inn + 1) (i + 1) (.bad e a) → PE l (.fl 5) inn i (.bad e a)
  | par_open {inn i tu : Nat} {x : List Nd} : isSg l i [40] = true → inn < 30 → PE l (.fl 0) (inn + 1) (i + 1) (.ok x tu) → isSg l tu [41] = false → PE l (.fl 5) inn i (badF l tu)
  | num {inn i : Nat} {t : Tk} : isK l i = true → l[i]? = some t → PE l (.fl 5) inn i (.ok [⟨1, t.f_N, [], [], t.f_At⟩] (i + 1))
  | reg {inn i : Nat} {t : Tk} : isN l i = true → isSg l (i + 1) [46] = false → l[i]? = some t → PE l (.fl 5) inn i (.ok [⟨2, 0, t.f_Text, [], t.f_At⟩] (i + 1))
  | of {inn i : Nat} {t u : Tk} : isN l i = true → isSg l (i + 1) [46] = true → isN l (i + 2) = true → l[i]? = some t → l[i + 2]? = some u → PE l (.fl 5) inn i (.ok [⟨4, 0, u.f_Text, t.f_Text, t.f_At⟩] (i + 3))
  | of_bad {inn i : Nat} : isN l i = true → isSg l (i + 1) [46] = true → isN l (i + 2) = false → PE l (.fl 5) inn i (badF l (i + 2))
  | no {inn i : Nat} : isSg l i [33] = false → isSg l i [40] = false → isK l i = false → isN l i = false → PE l (.fl 5) inn i (badF l i)
  | fl_bad {f inn i : Nat} {e a : Int} : f < 5 → PE l (.fl (f + 1)) inn i (.bad e a) → PE l (.fl f) inn i (.bad e a)
  | fl_ok {f inn i tu : Nat} {x : List Nd} {r : PR} : f < 5 → PE l (.fl (f + 1)) inn i (.ok x tu) → PE l (.lp f x) inn tu r → PE l (.fl f) inn i r
  | lp_stop {f inn i : Nat} {x : List Nd} : opPick l i (opsF f) = 0 → PE l (.lp f x) inn i (.ok x i)
  | lp_bad {f inn i : Nat} {x : List Nd} {e a : Int} : f < 5 → opPick l i (opsF f) ≠ 0 → PE l (.fl (f + 1)) inn (i + 1) (.bad e a) → PE l (.lp f x) inn i (.bad e a)
  | lp_once {inn i tu : Nat} {x y : List Nd} {t : Tk} : opPick l i (opsF 2) ≠ 0 → l[i]? = some t → PE l (.fl 3) inn (i + 1) (.ok y tu) → PE l (.lp 2 x) inn i (.ok (⟨opPick l i (opsF 2), 0, [], [], t.f_At⟩ :: (x ++ y)) tu)
  | lp_go {f inn i tu : Nat} {x y : List Nd} {t : Tk} {r : PR} : f < 5 → f ≠ 2 → opPick l i (opsF f) ≠ 0 → l[i]? = some t → PE l (.fl (f + 1)) inn (i + 1) (.ok y tu) → PE l (.lp f (⟨opPick l i (opsF f), 0, [], [], t.f_At⟩ :: (x ++ y))) inn tu r → PE l (.lp f x) inn i r
theorem isS_lt {l : List Tk} {i : Nat} {s : List UInt8} (h : isSg l i s = true) : i < l.length := by
  unfold isSg at h
  cases hg : l[i]? with
  | none => rw [hg] at h; cases h
  | some t => exact (List.getElem?_eq_some_iff.1 hg).1
theorem isN_lt {l : List Tk} {i : Nat} (h : isN l i = true) : i < l.length := by
  unfold isN at h
  cases hg : l[i]? with
  | none => rw [hg] at h; cases h
  | some t => exact (List.getElem?_eq_some_iff.1 hg).1
theorem some_lt {l : List Tk} {i : Nat} {t : Tk} (h : l[i]? = some t) : i < l.length := (List.getElem?_eq_some_iff.1 h).1
theorem foldl_pick {l : List Tk} {i : Nat} : ∀ {ops : List Int} {a : Int}, ops.foldl (fun acc op => bif isSg l i (signF op) then op else acc) a ≠ a → ∃ op ∈ ops, isSg l i (signF op) = true := by
  intro ops
  induction ops with
  | nil => intro a h; exact absurd rfl h
  | cons op ops ih =>
    intro a h
    cases hs : isSg l i (signF op) with
    | true => exact ⟨op, List.mem_cons_self .., hs⟩
    | false =>
      rw [List.foldl_cons, hs] at h
      obtain ⟨o, ho, hh⟩ := ih h
      exact ⟨o, List.mem_cons_of_mem _ ho, hh⟩
theorem pick_lt {l : List Tk} {i : Nat} {ops : List Int} (h : opPick l i ops ≠ 0) : i < l.length := by
  obtain ⟨op, _, hh⟩ := foldl_pick h
  exact isS_lt hh
theorem pick_mem {l : List Tk} {i : Nat} : ∀ {ops : List Int} {a : Int}, ops.foldl (fun acc op => bif isSg l i (signF op) then op else acc) a = a ∨ ops.foldl (fun acc op => bif isSg l i (signF op) then op else acc) a ∈ ops := by
  intro ops
  induction ops with
  | nil => intro a; exact .inl rfl
  | cons op ops ih =>
    intro a
    rw [List.foldl_cons]
    cases isSg l i (signF op) with
    | true =>
      rcases ih (a := op) with h | h
      · right; rw [cond_true, h]; exact List.mem_cons_self ..
      · right; exact List.mem_cons_of_mem _ h
    | false =>
      rcases ih (a := a) with h | h
      · left; exact h
      · right; exact List.mem_cons_of_mem _ h
theorem PE_ok {l : List Tk} {md : Md} {inn i : Nat} {r : PR} (h : PE l md inn i r) : i ≤ l.length → match md, r with
    | .fl _, .ok x tu => i < tu ∧ tu ≤ l.length ∧ x.length ≤ tu - i ∧ 1 ≤ x.length
    | .lp _ x0, .ok x tu => i ≤ tu ∧ tu ≤ l.length ∧ x.length ≤ x0.length + (tu - i) ∧ x0.length ≤ x.length
    | _, .bad e _ => e ≠ 0 := by
  induction h with
  | deep h1 h2 h3 => intro _; show (7 : Int) ≠ 0; decide
  | not_ok h1 h2 h3 h4 ih => intro _; have := ih (by have := isS_lt h1; omega); have := isS_lt h1; dsimp only at *; simp only [List.length_cons]; omega
  | not_bad h1 h2 h4 ih => intro _; exact ih (by have := isS_lt h1; omega)
  | par_ok h1 h2 h3 h4 ih => intro _; have := ih (by have := isS_lt h1; omega); have := isS_lt h1; have := isS_lt h4; dsimp only at *; omega
  | par_bad h1 h2 h4 ih => intro _; exact ih (by have := isS_lt h1; omega)
  | par_open h1 h2 h3 h4 ih => intro _; show errF _ _ ≠ 0; unfold errF; split <;> decide
  | num h1 h2 => intro _; have := some_lt h2; dsimp only; simp; omega
  | reg h1 h2 h3 => intro _; have := some_lt h3; dsimp only; simp; omega
  | of h1 h2 h3 h4 h5 => intro _; have := some_lt h5; dsimp only; simp; omega
  | of_bad h1 h2 h3 => intro _; show errF _ _ ≠ 0; unfold errF; split <;> decide
  | no h1 h2 h3 h4 => intro _; show errF _ _ ≠ 0; unfold errF; split <;> decide
  | fl_bad h1 h2 ih => intro hi; exact ih hi
  | @fl_ok f inn i tu x r h1 h2 h3 ih1 ih2 =>
    intro hi; have := ih1 hi; dsimp only at this; have h := ih2 (by omega)
    cases r with
    | ok y to2 => dsimp only at h ⊢; omega
    | bad e a => exact h
  | lp_stop h1 => intro hi; dsimp only; omega
  | lp_bad h1 h2 h3 ih => intro hi; exact ih (by have := pick_lt h2; omega)
  | lp_once h1 h2 h3 ih => intro hi; have := ih (by have := pick_lt h1; omega); have := pick_lt h1; dsimp only at *; simp only [List.length_cons, List.length_append]; omega
  | @lp_go f inn i tu x y t r h1 h2 h3 h4 h5 h6 ih1 ih2 =>
    intro hi; have := ih1 (by have := pick_lt h3; omega); dsimp only at this; have h := ih2 (by omega)
    cases r with
    | ok y to2 => dsimp only at h ⊢; simp only [List.length_cons, List.length_append] at h; omega
    | bad e a => exact h
end Go.Proofs.Ytonhmholnneaaaa
end
section
namespace Go.Proofs.Ytonhmholnneaaaa
set_option linter.unusedVariables false
set_option linter.unusedSimpArgs false
def flM : Nat → Nat → List Tk → Int → Int → Int → Int → Option PRes
  | 0, n => m_expr_parser_any n
  | 1, n => m_expr_parser_both n
  | 2, n => m_expr_parser_compared n
  | 3, n => m_expr_parser_sum n
  | 4, n => m_expr_parser_product n
  | _, n => m_expr_parser_single n
theorem flM_row {f n : Nat} (hf : f < 5) (l : List Tk) (i inn e a : Int) : flM f (n + 2) l i inn e a = rowG n (flM (f + 1) n) (f == 2) (opsF f) l i inn e a := by
  match f, hf with
  | 0, _ => exact any_g n l i inn e a
  | 1, _ => exact both_g n l i inn e a
  | 2, _ => exact compared_g n l i inn e a
  | 3, _ => exact sum_g n l i inn e a
  | 4, _ => exact product_g n l i inn e a
theorem ops_ok (f : Nat) : (∀ op ∈ opsF f, 6 ≤ op ∧ op ≤ 14) ∧ (opsF f).length ≤ 4 := by
  match f with
  | 0 => exact ⟨by decide, by decide⟩
  | 1 => exact ⟨by decide, by decide⟩
  | 2 => exact ⟨by decide, by decide⟩
  | 3 => exact ⟨by decide, by decide⟩
  | _ + 4 => exact ⟨by simp [opsF], by simp [opsF]⟩
theorem fail5_m (n : Nat) (l : List Tk) (i : Nat) (inn : Int) (hl : l.length < 1000000) : m_expr_parser_fail (n + 1) 5 l (i : Int) inn 0 0 = some ([], errF l i, placeF l i) := by
  rw [m_expr_parser_fail, errF, placeF]
  by_cases h : i < l.length
  · rw [if_pos h, bif_decide (by omega), idx_get h, List.getElem?_eq_getElem h]; rfl
  · rw [if_neg h, bif_not (by omega), List.getElem?_eq_none (by omega)]
    by_cases h0 : 0 < l.length
    · have hx : l[l.length - 1]? = some l[l.length - 1] := List.getElem?_eq_getElem (by omega)
      rw [bif_decide (by omega), wrap64 (by omega), show (l.length : Int) - 1 = ((l.length - 1 : Nat) : Int) by omega, idx_some hx, hx]; rfl
    · rw [bif_not (by omega), List.getElem?_eq_none (by omega)]; rfl
theorem fail7_m (n : Nat) (l : List Tk) (i : Nat) (inn : Int) {t : Tk} (h : l[i]? = some t) : m_expr_parser_fail (n + 1) 7 l (i : Int) inn 0 0 = some ([], 7, t.f_At) := by
  have := some_lt h
  rw [m_expr_parser_fail, bif_decide (show (i : Int) < (l.length : Int) by omega), idx_some h]; rfl
theorem name_m (n : Nat) (l : List Tk) (i : Nat) (inn : Int) (hl : l.length < 1000000) : m_expr_parser_name (n + 2) l (i : Int) inn 0 0 = match isN l i, l[i]? with
    | true, some t => some (t.f_Text, t.f_At, true, ((i + 1 : Nat) : Int))
    | _, _ => some ([], 0, false, (i : Int)) := by
  rw [m_expr_parser_name, isN]
  by_cases h : i < l.length
  · rw [bif_not (by omega), idx_get h, List.getElem?_eq_getElem h]
    simp only [Option.bind_some, m_scan_Name, wrap_one i (show i < 4611686018427387904 by omega)]
    cases hk : (l[i].f_Kind == 1) with
    | false =>
      rw [show (l[i].f_Kind != 1) = true by simp only [bne, hk]; rfl]; rfl
    | true =>
      rw [show (l[i].f_Kind != 1) = false by simp only [bne, hk]; rfl]
      cases nameB l[i].f_Text <;> rfl
  · rw [bif_decide (by omega), List.getElem?_eq_none (by omega)]
theorem isN_get {l : List Tk} {i : Nat} (h : isN l i = true) : ∃ t, l[i]? = some t := ⟨_, List.getElem?_eq_getElem (isN_lt h)⟩
theorem pname_yes {n : Nat} {l : List Tk} {i : Nat} {inn : Int} {t : Tk} (hl : l.length < 1000000) (h : isN l i = true) (ht : l[i]? = some t) : m_expr_parser_name (n + 2) l (i : Int) inn 0 0 = some (t.f_Text, t.f_At, true, ((i + 1 : Nat) : Int)) := by
  rw [name_m n l i inn hl, h, ht]
theorem pname_no {n : Nat} {l : List Tk} {i : Nat} {inn : Int} (hl : l.length < 1000000) (h : isN l i = false) : m_expr_parser_name (n + 2) l (i : Int) inn 0 0 = some ([], 0, false, (i : Int)) := by
  rw [name_m n l i inn hl, h]
theorem sign_kind {l : List Tk} {i : Nat} {s : List UInt8} (h : isSg l i s = true) : ∃ t, l[i]? = some t ∧ t.f_Kind = 3 ∧ t.f_Text = s := by
  unfold isSg at h
  cases hg : l[i]? with
  | none => rw [hg] at h; cases h
  | some t => rw [hg] at h; simp only [Bool.and_eq_true, beq_iff_eq] at h; exact ⟨t, rfl, h⟩
theorem sign_one {l : List Tk} {i : Nat} {s s' : List UInt8} (h : isSg l i s = true) (hs : s ≠ s') : isSg l i s' = false := by
  obtain ⟨t, ht, _, h2⟩ := sign_kind h
  simp only [isSg, ht, h2]; simp [hs]
def ImpR (l : List Tk) (inn i : Nat) (r : PR) (o : Option PRes) : Prop := match r with
  | .ok x tu => o = some (x, (tu : Int), (inn : Int), 0, 0)
  | .bad e a => ∃ (X : List Nd) (i' : Nat) (j : Int), o = some (X, (i' : Int), j, e, a) ∧ X.length + i ≤ i' + 1 ∧ i' + inn ≤ l.length + 31
def ImpL (l : List Tk) (inn i : Nat) (x : List Nd) (r : PR) (o : Option (LR PRes PRes)) : Prop := match r with
  | .ok y tu => o = some (.out (y, (tu : Int), (inn : Int), 0, 0))
  | .bad e a => ∃ (X : List Nd) (i' : Nat) (j : Int), o = some (.out (X, (i' : Int), j, e, a)) ∧ X.length + i ≤ x.length + i' + 1 ∧ i' + inn ≤ l.length + 31
def Imp (l : List Tk) (inn i : Nat) (r : PR) : Md → Prop
  | .fl f => ∀ n, 12 * (l.length - i) + 2 * (5 - f) + 40 ≤ n → ImpR l inn i r (flM f n l (i : Int) (inn : Int) 0 0)
  | .lp f x => ∀ n k, f < 5 → x.length ≤ i → 12 * (l.length - i) + 2 * (5 - (f + 1)) + 40 ≤ n → l.length - i < k → ImpL l inn i x r (expr_parser_row_L0 n (flM (f + 1) n) (opsF f) l k (f == 2) x (i : Int) (inn : Int) 0 0)
theorem single_not {n : Nat} {l : List Tk} {i : Nat} {inn : Int} {t : Tk} (h : isSg l i [33] = true) (ht : l[i]? = some t) :
    m_expr_parser_single (n + 2) l (i : Int) inn 0 0 = (m_expr_parser_inner (n + 1) l (i : Int) inn 0 0).bind fun y => (m_expr_node (n + 1) ⟨5, 0, [], [], t.f_At⟩ [y.1]).bind fun z => some (z, y.2.1, y.2.2.1, y.2.2.2.1, y.2.2.2.2) := by
  rw [m_expr_parser_single, is_m, h]
  simp only [bne_self_eq_false, cond_false, Option.bind_some, cond_true, idx_some ht]
theorem single_par {n : Nat} {l : List Tk} {i : Nat} {inn : Int} (h : isSg l i [40] = true) :
    m_expr_parser_single (n + 2) l (i : Int) inn 0 0 = (m_expr_parser_inner_1 (n + 1) l (i : Int) inn 0 0).bind fun y => bif y.2.2.2.1 == 0 then (m_expr_parser_is (n + 1) [41] l y.2.1 y.2.2.1 y.2.2.2.1 y.2.2.2.2).bind fun z => bif z then some (y.1, IntKind.i64.wrap (y.2.1 + 1), y.2.2.1, y.2.2.2.1, y.2.2.2.2) else (m_expr_parser_fail (n + 1) 5 l y.2.1 y.2.2.1 y.2.2.2.1 y.2.2.2.2).bind fun w => some (w.1, y.2.1, y.2.2.1, w.2.1, w.2.2) else some (y.1, IntKind.i64.wrap (y.2.1 + 1), y.2.2.1, y.2.2.2.1, y.2.2.2.2) := by
  have h0 : isSg l i [33] = false := sign_one h (by decide)
  rw [m_expr_parser_single, is_m, h0, is_m, h]
  simp only [bne_self_eq_false, cond_false, Option.bind_some, cond_true]
theorem inner_deep {n : Nat} {l : List Tk} {i : Nat} {inn : Nat} {t : Tk} (h : 30 ≤ inn) (ht : l[i]? = some t) : m_expr_parser_inner (n + 2) l (i : Int) (inn : Int) 0 0 = some ([], (i : Int), (inn : Int), 7, t.f_At) ∧ m_expr_parser_inner_1 (n + 2) l (i : Int) (inn : Int) 0 0 = some ([], (i : Int), (inn : Int), 7, t.f_At) := by
  constructor
  · rw [m_expr_parser_inner, bif_decide (by omega), fail7_m n l i inn ht]; rfl
  · rw [m_expr_parser_inner_1, bif_decide (by omega), fail7_m n l i inn ht]; rfl
theorem inner_go {n : Nat} {l : List Tk} {i : Nat} {inn : Nat} (h : inn < 30) (hi : i < l.length) (hl : l.length < 1000000) : m_expr_parser_inner (n + 1) l (i : Int) (inn : Int) 0 0 = ((m_expr_parser_single n l ((i + 1 : Nat) : Int) ((inn + 1 : Nat) : Int) 0 0).bind fun y => some (y.1, y.2.1, IntKind.i64.wrap (y.2.2.1 - 1), y.2.2.2.1, y.2.2.2.2)) ∧ m_expr_parser_inner_1 (n + 1) l (i : Int) (inn : Int) 0 0 = ((m_expr_parser_any n l ((i + 1 : Nat) : Int) ((inn + 1 : Nat) : Int) 0 0).bind fun y => some (y.1, y.2.1, IntKind.i64.wrap (y.2.2.1 - 1), y.2.2.2.1, y.2.2.2.2)) := by
  constructor
  · rw [m_expr_parser_inner, bif_not (by omega), wrap_one i (by omega), wrap_one inn (by omega)]
  · rw [m_expr_parser_inner_1, bif_not (by omega), wrap_one i (by omega), wrap_one inn (by omega)]
theorem wrap_back (j : Nat) (h : j < 1000) : IntKind.i64.wrap (((j + 1 : Nat) : Int) - 1) = (j : Int) := by
  rw [wrap64 (by omega)]; omega
theorem single_rest {n : Nat} {l : List Tk} {i : Nat} {inn : Int} (h1 : isSg l i [33] = false) (h2 : isSg l i [40] = false) (h3 : isK l i = false) (hl : l.length < 1000000) :
    m_expr_parser_single (n + 3) l (i : Int) inn 0 0 = (m_expr_parser_name (n + 2) l (i : Int) inn 0 0).bind fun y => bif y.2.2.1 then (m_expr_parser_is (n + 2) [46] l y.2.2.2 inn 0 0).bind fun z => bif z then (m_expr_parser_name (n + 2) l (IntKind.i64.wrap (y.2.2.2 + 1)) inn 0 0).bind fun w => bif w.2.2.1 then (m_expr_node (n + 2) ⟨4, 0, w.1, y.1, y.2.1⟩ []).bind fun v => some (v, w.2.2.2, inn, 0, 0) else (m_expr_parser_fail (n + 2) 5 l w.2.2.2 inn 0 0).bind fun v => some (v.1, w.2.2.2, inn, v.2.1, v.2.2) else (m_expr_node (n + 2) ⟨2, 0, y.1, [], y.2.1⟩ []).bind fun v => some (v, y.2.2.2, inn, 0, 0) else (m_expr_parser_fail (n + 2) 5 l y.2.2.2 inn 0 0).bind fun v => some (v.1, y.2.2.2, inn, v.2.1, v.2.2) := by
  rw [m_expr_parser_single, is_m, h1, is_m, h2]
  simp only [bne_self_eq_false, cond_false, Option.bind_some]
  by_cases h : i < l.length
  · have hk : (l[i].f_Kind == 2) = false := by rw [isK, List.getElem?_eq_getElem h] at h3; exact h3
    rw [bif_decide (by omega), idx_get h, Option.bind_some, hk, cond_false]
  · rw [bif_not (by omega)]
theorem single_num {n : Nat} {l : List Tk} {i : Nat} {inn : Int} {t : Tk} (h3 : isK l i = true) (ht : l[i]? = some t) (hl : l.length < 1000000) : m_expr_parser_single (n + 10) l (i : Int) inn 0 0 = some ([⟨1, t.f_N, [], [], t.f_At⟩], ((i + 1 : Nat) : Int), inn, 0, 0) := by
  have hk : t.f_Kind = 2 := by simpa [isK, ht] using h3
  have h1 : isSg l i [33] = false := by simp [isSg, ht, hk]
  have h2 : isSg l i [40] = false := by simp [isSg, ht, hk]
  have h := some_lt ht
  rw [m_expr_parser_single, is_m, h1, is_m, h2]
  simp only [bne_self_eq_false, cond_false, Option.bind_some, idx_some ht, hk, beq_self_eq_true, cond_true, node0_m (n + 9) _ (by omega), wrap_one i (show i < 4611686018427387904 by omega)]
  rw [bif_decide (by omega)]
end Go.Proofs.Ytonhmholnneaaaa
end
section
namespace Go.Proofs.Ytonhmholnneaaaa
set_option linter.unusedVariables false
set_option linter.unusedSimpArgs false
theorem flM5 (n : Nat) : flM 5 n = m_expr_parser_single n := rfl
theorem flM0 (n : Nat) : flM 0 n = m_expr_parser_any n := rfl
theorem notN_sign {l : List Tk} {i : Nat} (h : isN l i = true) (s : List UInt8) : isSg l i s = false := by
  obtain ⟨t, ht⟩ := isN_get h
  simp only [isN, ht, Bool.and_eq_true, beq_iff_eq] at h
  simp [isSg, ht, h.1]
theorem notN_num {l : List Tk} {i : Nat} (h : isN l i = true) : isK l i = false := by
  obtain ⟨t, ht⟩ := isN_get h
  simp only [isN, ht, Bool.and_eq_true, beq_iff_eq] at h
  simp [isK, ht, h.1]
theorem impl {l : List Tk} (hl : l.length < 100000) {md : Md} {inn i : Nat} {r : PR} (h : PE l md inn i r) : i ≤ l.length → inn ≤ 30 → Imp l inn i r md := by
  induction h with
  | @deep inn i t h1 h2 h3 =>
    intro hi hn n hf
    have hlt := some_lt h3
    obtain ⟨n, rfl⟩ : ∃ j, n = j + 10 := ⟨n - 10, by omega⟩
    rw [flM5]
    rcases h1 with h1 | h1
    · rw [single_not h1 h3, (inner_deep (n := n + 7) h2 h3).1, Option.bind_some, node1_m (n + 9) _ _ (by simp) (by omega), Option.bind_some]
      exact ⟨_, _, _, rfl, by simp; omega, by omega⟩
    · rw [single_par h1, (inner_deep (n := n + 7) h2 h3).2, Option.bind_some, show ((7 : Int) == 0) = false from rfl, cond_false, wrap_one i (by omega)]
      exact ⟨_, _, _, rfl, by simp; omega, by omega⟩
  | @not_ok inn i tu t x h1 h2 h3 h4 ih =>
    intro hi hn n hf
    have hlt := some_lt h3
    have hx := PE_ok h4 (by omega); dsimp only at hx
    obtain ⟨n, rfl⟩ : ∃ j, n = j + 10 := ⟨n - 10, by omega⟩
    have e : flM 5 (n + 8) l ((i + 1 : Nat) : Int) ((inn + 1 : Nat) : Int) 0 0 = _ := ih (by omega) (by omega) (n + 8) (by omega)
    rw [flM5] at e ⊢
    rw [single_not h1 h3, (inner_go (n := n + 8) h2 hlt (by omega)).1, e, Option.bind_some, Option.bind_some, node1_m (n + 9) _ _ (by dsimp only; omega) (by omega), Option.bind_some]
    dsimp only
    rw [wrap_back _ (by omega)]; rfl
  | @not_bad inn i e a h1 h2 h4 ih =>
    intro hi hn n hf
    have hlt := isS_lt h1
    obtain ⟨n, rfl⟩ : ∃ j, n = j + 10 := ⟨n - 10, by omega⟩
    obtain ⟨X, i', j, e, e1, e2⟩ := ih (by omega) (by omega) (n + 8) (by omega)
    rw [flM5] at e ⊢
    rw [single_not h1 (List.getElem?_eq_getElem hlt), (inner_go (n := n + 8) h2 hlt (by omega)).1, e, Option.bind_some, Option.bind_some, node1_m (n + 9) _ _ (by dsimp only; omega) (by omega), Option.bind_some]
    exact ⟨_, i', _, rfl, by simp; omega, by omega⟩
  | @par_ok inn i tu x h1 h2 h3 h4 ih =>
    intro hi hn n hf
    have hlt := isS_lt h1
    have hx := PE_ok h3 (by omega); dsimp only at hx
    obtain ⟨n, rfl⟩ : ∃ j, n = j + 10 := ⟨n - 10, by omega⟩
    have e : flM 0 (n + 8) l ((i + 1 : Nat) : Int) ((inn + 1 : Nat) : Int) 0 0 = _ := ih (by omega) (by omega) (n + 8) (by omega)
    rw [flM0] at e
    rw [flM5, single_par h1, (inner_go (n := n + 8) h2 hlt (by omega)).2, e, Option.bind_some, Option.bind_some]
    dsimp only
    rw [beq_self_eq_true, cond_true, is_m, h4, Option.bind_some, cond_true, wrap_one tu (by omega), wrap_back _ (by omega)]; rfl
  | @par_bad inn i e a h1 h2 h3 ih =>
    intro hi hn n hf
    have hlt := isS_lt h1
    have hx := PE_ok h3 (by omega); dsimp only at hx
    obtain ⟨n, rfl⟩ : ∃ j, n = j + 10 := ⟨n - 10, by omega⟩
    obtain ⟨X, i', j, e, e1, e2⟩ := ih (by omega) (by omega) (n + 8) (by omega)
    rw [flM0] at e
    rw [flM5, single_par h1, (inner_go (n := n + 8) h2 hlt (by omega)).2, e, Option.bind_some, Option.bind_some]
    dsimp only
    rw [beq_eq_false_iff_ne.2 hx, cond_false, wrap_one i' (by omega)]
    exact ⟨_, _, _, rfl, by omega, by omega⟩
  | @par_open inn i tu x h1 h2 h3 h4 ih =>
    intro hi hn n hf
    have hlt := isS_lt h1
    have hx := PE_ok h3 (by omega); dsimp only at hx
    obtain ⟨n, rfl⟩ : ∃ j, n = j + 10 := ⟨n - 10, by omega⟩
    have e : flM 0 (n + 8) l ((i + 1 : Nat) : Int) ((inn + 1 : Nat) : Int) 0 0 = _ := ih (by omega) (by omega) (n + 8) (by omega)
    rw [flM0] at e
    rw [flM5, single_par h1, (inner_go (n := n + 8) h2 hlt (by omega)).2, e, Option.bind_some, Option.bind_some]
    dsimp only
    rw [beq_self_eq_true, cond_true, is_m, h4, Option.bind_some, cond_false, fail5_m _ _ _ _ (by omega), Option.bind_some]
    exact ⟨_, _, _, rfl, by simp; omega, by omega⟩
  | @num inn i t h1 h2 =>
    intro hi hn n hf
    obtain ⟨n, rfl⟩ : ∃ j, n = j + 10 := ⟨n - 10, by omega⟩
    rw [flM5, single_num h1 h2 (by omega)]; rfl
  | @reg inn i t h1 h2 h3 =>
    intro hi hn n hf
    have hlt := some_lt h3
    obtain ⟨n, rfl⟩ : ∃ j, n = j + 10 := ⟨n - 10, by omega⟩
    rw [flM5, single_rest (n := n + 7) (notN_sign h1 _) (notN_sign h1 _) (notN_num h1) (by omega), pname_yes (n := n + 7) (by omega) h1 h3, Option.bind_some]
    dsimp only
    rw [cond_true, is_m, h2, Option.bind_some, cond_false, node0_m _ _ (by omega), Option.bind_some]; rfl
  | @of inn i t u h1 h2 h3 h4 h5 =>
    intro hi hn n hf
    have hlt := some_lt h5
    obtain ⟨n, rfl⟩ : ∃ j, n = j + 10 := ⟨n - 10, by omega⟩
    rw [flM5, single_rest (n := n + 7) (notN_sign h1 _) (notN_sign h1 _) (notN_num h1) (by omega), pname_yes (n := n + 7) (by omega) h1 h4, Option.bind_some]
    dsimp only
    rw [cond_true, is_m, h2, Option.bind_some, cond_true, wrap_one (i + 1) (by omega), pname_yes (n := n + 7) (by omega) h3 h5, Option.bind_some]
    dsimp only
    rw [cond_true, node0_m _ _ (by omega), Option.bind_some]; rfl
  | @of_bad inn i h1 h2 h3 =>
    intro hi hn n hf
    have hlt := isS_lt h2
    obtain ⟨n, rfl⟩ : ∃ j, n = j + 10 := ⟨n - 10, by omega⟩
    obtain ⟨t, h4⟩ := isN_get h1
    rw [flM5, single_rest (n := n + 7) (notN_sign h1 _) (notN_sign h1 _) (notN_num h1) (by omega), pname_yes (n := n + 7) (by omega) h1 h4, Option.bind_some]
    dsimp only
    rw [cond_true, is_m, h2, Option.bind_some, cond_true, wrap_one (i + 1) (by omega), pname_no (n := n + 7) (by omega) h3, Option.bind_some]
    dsimp only
    rw [cond_false, fail5_m _ _ _ _ (by omega), Option.bind_some]
    exact ⟨_, _, _, rfl, by simp; omega, by omega⟩
  | @no inn i h1 h2 h3 h4 =>
    intro hi hn n hf
    obtain ⟨n, rfl⟩ : ∃ j, n = j + 10 := ⟨n - 10, by omega⟩
    rw [flM5, single_rest (n := n + 7) h1 h2 h3 (by omega), pname_no (n := n + 7) (by omega) h4, Option.bind_some]
    dsimp only
    rw [cond_false, fail5_m _ _ _ _ (by omega), Option.bind_some]
    exact ⟨_, _, _, rfl, by simp, by omega⟩
  | @fl_bad f inn i ee a h1 h2 ih =>
    intro hi hn n hf
    have he := PE_ok h2 hi; dsimp only at he
    obtain ⟨n, rfl⟩ : ∃ j, n = j + 2 := ⟨n - 2, by omega⟩
    obtain ⟨X, i', j, e, e1, e2⟩ := ih hi hn n (by omega)
    obtain ⟨k, hk⟩ : ∃ k, n = k + 1 := ⟨n - 1, by omega⟩
    rw [flM_row h1, rowG, e, Option.bind_some]
    dsimp only
    have : expr_parser_row_L0 n (flM (f + 1) n) (opsF f) l n (f == 2) X (i' : Int) j ee a = some (.out (X, (i' : Int), j, ee, a)) := by
      rw [show expr_parser_row_L0 n (flM (f + 1) n) (opsF f) l n = expr_parser_row_L0 n (flM (f + 1) n) (opsF f) l (k + 1) by rw [← hk], expr_parser_row_L0, beq_eq_false_iff_ne.2 he, cond_false]
    rw [this]
    exact ⟨_, _, _, rfl, e1, e2⟩
  | @fl_ok f inn i tu x r h1 h2 h3 ih1 ih2 =>
    intro hi hn n hf
    have hx := PE_ok h2 hi; dsimp only at hx
    obtain ⟨n, rfl⟩ : ∃ j, n = j + 2 := ⟨n - 2, by omega⟩
    have e : flM (f + 1) n l (i : Int) (inn : Int) 0 0 = _ := ih1 hi hn n (by omega)
    have e2 := ih2 (by omega) hn n n h1 (by omega) (by omega) (by omega)
    rw [flM_row h1, rowG, e, Option.bind_some]
    dsimp only
    cases r with
    | ok y to2 => rw [show expr_parser_row_L0 n (flM (f + 1) n) (opsF f) l n (f == 2) x (tu : Int) (inn : Int) 0 0 = _ from e2]; rfl
    | bad e' a =>
      obtain ⟨X, i', j, e2, e3, e4⟩ := e2
      rw [e2]
      exact ⟨_, _, _, rfl, by omega, e4⟩
  | @lp_stop f inn i x h1 =>
    intro hi hn n k h5 hx hf hk
    obtain ⟨k, rfl⟩ : ∃ j, k = j + 1 := ⟨k - 1, by omega⟩
    obtain ⟨m, hm⟩ : ∃ j, n = j + 1 := ⟨n - 1, by omega⟩
    rw [expr_parser_row_L0, beq_self_eq_true, cond_true]
    have hL : expr_parser_row_L1 n (opsF f) l (i : Int) (inn : Int) 0 0 n 0 0 = some (.out (opPick l i (opsF f))) := by
      rw [hm]; exact rowL1_m m _ l i _ _ _ (ops_ok f).1 (ops_ok f).2 (by omega)
    rw [hL, Option.bind_some]
    dsimp only
    rw [h1, beq_self_eq_true, cond_true]; rfl
  | @lp_bad f inn i x e a h1 h2 h3 ih =>
    intro hi hn n k h5 hx hf hk
    have hlt := pick_lt h2
    have he := PE_ok h3 (by omega); dsimp only at he
    obtain ⟨k, rfl⟩ : ∃ j, k = j + 2 := ⟨k - 2, by omega⟩
    obtain ⟨m, hm⟩ : ∃ j, n = j + 1 := ⟨n - 1, by omega⟩
    obtain ⟨X, i', j, e0, e1, e2⟩ := ih (by omega) hn n (by omega)
    have hL : expr_parser_row_L1 n (opsF f) l (i : Int) (inn : Int) 0 0 n 0 0 = some (.out (opPick l i (opsF f))) := by
      rw [hm]; exact rowL1_m m _ l i _ _ _ (ops_ok f).1 (ops_ok f).2 (by omega)
    rw [expr_parser_row_L0, beq_self_eq_true, cond_true, hL, Option.bind_some]
    dsimp only
    rw [beq_eq_false_iff_ne.2 h2, cond_false, idx_get hlt, Option.bind_some, wrap_one i (by omega), e0, Option.bind_some, node2_m n _ _ _ (by dsimp only; omega) (by omega), Option.bind_some]
    dsimp only
    cases f == 2 with
    | true => exact ⟨_, _, _, rfl, by simp; omega, e2⟩
    | false =>
      rw [cond_false, expr_parser_row_L0, beq_eq_false_iff_ne.2 he, cond_false]
      exact ⟨_, _, _, rfl, by simp; omega, e2⟩
  | @lp_once inn i tu x y t h1 h2 h3 ih =>
    intro hi hn n k h5 hx hf hk
    have hlt := pick_lt h1
    have he := PE_ok h3 (by omega); dsimp only at he
    obtain ⟨k, rfl⟩ : ∃ j, k = j + 2 := ⟨k - 2, by omega⟩
    obtain ⟨m, hm⟩ : ∃ j, n = j + 1 := ⟨n - 1, by omega⟩
    have e0 : flM 3 n l ((i + 1 : Nat) : Int) (inn : Int) 0 0 = _ := ih (by omega) hn n (by omega)
    have hL : expr_parser_row_L1 n (opsF 2) l (i : Int) (inn : Int) 0 0 n 0 0 = some (.out (opPick l i (opsF 2))) := by
      rw [hm]; exact rowL1_m m _ l i _ _ _ (ops_ok 2).1 (ops_ok 2).2 (by omega)
    rw [expr_parser_row_L0, beq_self_eq_true, cond_true, hL, Option.bind_some]
    dsimp only
    rw [beq_eq_false_iff_ne.2 h1, cond_false, idx_some h2, Option.bind_some, wrap_one i (by omega), e0, Option.bind_some, node2_m n _ _ _ (by dsimp only; omega) (by omega), Option.bind_some]
    rfl
  | @lp_go f inn i tu x y t r h1 h2 h3 h4 h5 h6 ih1 ih2 =>
    intro hi hn n k h7 hx hf hk
    have hlt := pick_lt h3
    have he := PE_ok h5 (by omega); dsimp only at he
    obtain ⟨k, rfl⟩ : ∃ j, k = j + 1 := ⟨k - 1, by omega⟩
    obtain ⟨m, hm⟩ : ∃ j, n = j + 1 := ⟨n - 1, by omega⟩
    have e0 : flM (f + 1) n l ((i + 1 : Nat) : Int) (inn : Int) 0 0 = _ := ih1 (by omega) hn n (by omega)
    have e1 := ih2 (by omega) hn n k h7 (by simp; omega) (by omega) (by omega)
    have hL : expr_parser_row_L1 n (opsF f) l (i : Int) (inn : Int) 0 0 n 0 0 = some (.out (opPick l i (opsF f))) := by
      rw [hm]; exact rowL1_m m _ l i _ _ _ (ops_ok f).1 (ops_ok f).2 (by omega)
    have hf2 : (f == 2) = false := beq_eq_false_iff_ne.2 h2
    rw [hf2] at e1 ⊢
    rw [expr_parser_row_L0, beq_self_eq_true, cond_true, hL, Option.bind_some]
    dsimp only
    rw [beq_eq_false_iff_ne.2 h3, cond_false, idx_some h4, Option.bind_some, wrap_one i (by omega), e0, Option.bind_some, node2_m n _ _ _ (by dsimp only; omega) (by omega), Option.bind_some]
    dsimp only
    rw [cond_false]
    cases r with
    | ok y to2 => exact e1
    | bad e' a =>
      obtain ⟨X, i', j, e2, e3, e4⟩ := e1
      simp only [List.length_cons, List.length_append] at e3
      exact ⟨_, _, _, e2, by omega, e4⟩
end Go.Proofs.Ytonhmholnneaaaa
end
section
namespace Go.Proofs.Ytonhmholnneaaaa
set_option linter.unusedVariables false
set_option linter.unusedSimpArgs false
theorem lp_total {l : List Tk} {f inn : Nat} (hf : f < 5) (j : Nat) (h : ∀ i, j < i → i ≤ l.length → ∃ r, PE l (.fl (f + 1)) inn i r) : ∀ (m i : Nat) (x : List Nd), l.length - i ≤ m → j ≤ i → i ≤ l.length → ∃ r, PE l (.lp f x) inn i r := by
  intro m
  induction m with
  | zero =>
    intro i x hm hj hi
    refine ⟨_, .lp_stop ?_⟩
    cases Decidable.em (opPick l i (opsF f) = 0) with
    | inl h => exact h
    | inr h => have := pick_lt h; omega
  | succ m ih =>
    intro i x hm hj hi
    by_cases c : opPick l i (opsF f) = 0
    · exact ⟨_, .lp_stop c⟩
    · have hlt := pick_lt c
      obtain ⟨r, hr⟩ := h (i + 1) (by omega) (by omega)
      cases r with
      | bad e a => exact ⟨_, .lp_bad hf c hr⟩
      | ok y tu =>
        have hto := PE_ok hr (by omega); dsimp only at hto
        by_cases c2 : f = 2
        · subst c2; exact ⟨_, .lp_once c (List.getElem?_eq_getElem hlt) hr⟩
        · obtain ⟨r, h2⟩ := ih tu (⟨opPick l i (opsF f), 0, [], [], l[i].f_At⟩ :: (x ++ y)) (by omega) (by omega) (by omega)
          exact ⟨_, .lp_go hf c2 c (List.getElem?_eq_getElem hlt) hr h2⟩
theorem prim_total {l : List Tk} {inn i : Nat} (hi : i ≤ l.length) (hn : inn ≤ 30) (h : ∀ f inn', f ≤ 5 → inn' ≤ 30 → i < l.length → ∃ r, PE l (.fl f) inn' (i + 1) r) : ∃ r, PE l (.fl 5) inn i r := by
  cases h1 : isSg l i [33] with
  | true =>
    have hlt := isS_lt h1
    by_cases c : 30 ≤ inn
    · exact ⟨_, .deep (.inl h1) c (List.getElem?_eq_getElem hlt)⟩
    · obtain ⟨r, hr⟩ := h 5 (inn + 1) (by omega) (by omega) hlt
      cases r with
      | bad e a => exact ⟨_, .not_bad h1 (by omega) hr⟩
      | ok y tu => exact ⟨_, .not_ok h1 (by omega) (List.getElem?_eq_getElem hlt) hr⟩
  | false =>
  cases h2 : isSg l i [40] with
  | true =>
    have hlt := isS_lt h2
    by_cases c : 30 ≤ inn
    · exact ⟨_, .deep (.inr h2) c (List.getElem?_eq_getElem hlt)⟩
    · obtain ⟨r, hr⟩ := h 0 (inn + 1) (by omega) (by omega) hlt
      cases r with
      | bad e a => exact ⟨_, .par_bad h2 (by omega) hr⟩
      | ok y tu =>
        cases h3 : isSg l tu [41] with
        | true => exact ⟨_, .par_ok h2 (by omega) hr h3⟩
        | false => exact ⟨_, .par_open h2 (by omega) hr h3⟩
  | false =>
  cases h3 : isK l i with
  | true =>
    have : i < l.length := by
      unfold isK at h3
      cases hg : l[i]? with
      | none => rw [hg] at h3; cases h3
      | some t => exact some_lt hg
    exact ⟨_, .num h3 (List.getElem?_eq_getElem this)⟩
  | false =>
  cases h4 : isN l i with
  | false => exact ⟨_, .no h1 h2 h3 h4⟩
  | true =>
  have hlt := isN_lt h4
  cases h5 : isSg l (i + 1) [46] with
  | false => exact ⟨_, .reg h4 h5 (List.getElem?_eq_getElem hlt)⟩
  | true =>
  cases h6 : isN l (i + 2) with
  | false => exact ⟨_, .of_bad h4 h5 h6⟩
  | true => exact ⟨_, .of h4 h5 h6 (List.getElem?_eq_getElem hlt) (List.getElem?_eq_getElem (isN_lt h6))⟩
theorem fl_total {l : List Tk} : ∀ (m i f inn : Nat), l.length - i ≤ m → i ≤ l.length → f ≤ 5 → inn ≤ 30 → ∃ r, PE l (.fl f) inn i r := by
  intro m
  induction m with
  | zero =>
    intro i f inn hm hi hf hn
    obtain ⟨d, hd⟩ : ∃ d, d + f = 5 := ⟨5 - f, by omega⟩
    induction d generalizing f with
    | zero => obtain rfl : f = 5 := by omega
              exact prim_total hi hn (fun _ _ _ _ h => by omega)
    | succ d ih =>
      obtain ⟨r, hr⟩ := ih (f + 1) (by omega) (by omega)
      cases r with
      | bad e a => exact ⟨_, .fl_bad (by omega) hr⟩
      | ok y tu => have := PE_ok hr hi; dsimp only at this; omega
  | succ m ihm =>
    intro i f inn hm hi hf hn
    obtain ⟨d, hd⟩ : ∃ d, d + f = 5 := ⟨5 - f, by omega⟩
    induction d generalizing f with
    | zero => obtain rfl : f = 5 := by omega
              exact prim_total hi hn (fun f' inn' h1 h2 h3 => ihm (i + 1) f' inn' (by omega) (by omega) h1 h2)
    | succ d ih =>
      obtain ⟨r, hr⟩ := ih (f + 1) (by omega) (by omega)
      cases r with
      | bad e a => exact ⟨_, .fl_bad (by omega) hr⟩
      | ok y tu =>
        have hto := PE_ok hr hi; dsimp only at hto
        obtain ⟨r, h2⟩ := lp_total (f := f) (inn := inn) (by omega) tu (fun i' h1 h2 => ihm i' (f + 1) inn (by omega) h2 (by omega) hn) l.length tu y (by omega) (by omega) (by omega)
        exact ⟨_, .fl_ok (by omega) hr h2⟩
def parseR (l : List Tk) (i : Nat) : PR → List Nd × Int × Int × Int
  | .bad e a => ([], 0, e, a)
  | .ok x tu => if 30 < (depF x (0, [])).1 then ([], 0, 7, placeF l i) else if 200 < x.length then ([], 0, 2, placeF l i) else (x, tu, 0, 0)
theorem parse_g {l : List Tk} (hl : l.length < 100000) {n i : Nat} {r : PR} (hr : PE l (.fl 0) 0 i r) (hi : i ≤ l.length) (hn : 12 * l.length + 100 ≤ n) : m_expr_Parse n l (i : Int) = some (parseR l i r) := by
  obtain ⟨n, rfl⟩ : ∃ j, n = j + 1 := ⟨n - 1, by omega⟩
  have h := impl hl hr hi (by omega) n (by omega)
  rw [m_expr_Parse, bif_not (by omega)]
  rw [flM0] at h
  cases r with
  | bad e a =>
    have he := PE_ok hr hi; dsimp only at he
    obtain ⟨X, i', j, e1, _, _⟩ := h
    have e1 : m_expr_parser_any n l (i : Int) 0 0 0 = _ := e1
    rw [e1, Option.bind_some]
    dsimp only
    rw [show (e != 0) = true by simpa using he]; rfl
  | ok x tu =>
    have hx := PE_ok hr hi; dsimp only at hx
    have h : m_expr_parser_any n l (i : Int) 0 0 0 = _ := h
    have ht : l[i]? = some (l[i]'(by omega)) := List.getElem?_eq_getElem (by omega)
    have hp : placeF l i = (l[i]'(by omega)).f_At := by unfold placeF; rw [ht]
    rw [h, Option.bind_some, depth_m2 n x (by omega) (by omega), idx_some ht]
    simp only [bne_self_eq_false, cond_false, Option.bind_some, parseR, hp]
    by_cases c : 30 < (depF x (0, [])).1
    · rw [bif_decide c, if_pos c]
    · rw [bif_not c, if_neg c]
      by_cases c2 : 200 < x.length
      · rw [bif_decide (by omega), if_pos c2]
      · rw [bif_not (by omega), if_neg c2]
def TkOk (t : Tk) : Prop := 0 ≤ t.f_At ∧ 0 ≤ t.f_N ∧ t.f_N ≤ 9999
def GoodX (x : List Nd) : Prop := (∃ t : Tr, t.wf ∧ t.flat = x) ∧ ∀ y ∈ x, nodeOk y = true ∧ y.f_Op ≠ 3
theorem nodeOk_op {op a : Int} (h : 5 ≤ op ∧ op ≤ 14) (ha : 0 ≤ a) : nodeOk ⟨op, 0, [], [], a⟩ = true := by
  simp only [nodeOk]
  rw [decide_eq_false (by omega), if_neg (by omega), if_neg (by omega), if_neg (by omega)]; rfl
theorem kids2 {op : Int} (h : 6 ≤ op ∧ op ≤ 14) : kidsF op = 2 := by unfold kidsF; rw [if_neg (by omega), if_neg (by omega), if_pos h]
theorem pick_ops {l : List Tk} {i f : Nat} (h : opPick l i (opsF f) ≠ 0) : 6 ≤ opPick l i (opsF f) ∧ opPick l i (opsF f) ≤ 14 := by
  rcases pick_mem (l := l) (i := i) (ops := opsF f) (a := 0) with h1 | h1
  · exact absurd h1 h
  · exact (ops_ok f).1 _ h1
theorem good_bin {op a : Int} {x y : List Nd} (h : 6 ≤ op ∧ op ≤ 14) (ha : 0 ≤ a) (hx : GoodX x) (hy : GoodX y) : GoodX (⟨op, 0, [], [], a⟩ :: (x ++ y)) := by
  obtain ⟨⟨t, t1, t2⟩, hx⟩ := hx
  obtain ⟨⟨u, u1, u2⟩, hy⟩ := hy
  refine ⟨⟨.bin ⟨op, 0, [], [], a⟩ t u, ⟨kids2 h, t1, u1⟩, by rw [Tr.flat, t2, u2]⟩, fun z hz => ?_⟩
  rcases List.mem_cons.1 hz with rfl | hz
  · exact ⟨nodeOk_op (by omega) ha, by dsimp only; omega⟩
  · rcases List.mem_append.1 hz with hz | hz
    · exact hx z hz
    · exact hy z hz
theorem PE_good {l : List Tk} (hl : ∀ t ∈ l, TkOk t) {md : Md} {inn i : Nat} {r : PR} (h : PE l md inn i r) : match md, r with
    | .fl _, .ok x _ => GoodX x
    | .lp _ x0, .ok x _ => GoodX x0 → GoodX x
    | _, _ => True := by
  have ok : ∀ {i : Nat} {t : Tk}, l[i]? = some t → TkOk t := fun h => hl _ (List.mem_of_getElem? h)
  have nm : ∀ {i : Nat} {t : Tk}, isN l i = true → l[i]? = some t → nameB t.f_Text = true := fun h1 h2 => by
    simp only [isN, h2, Bool.and_eq_true] at h1; exact h1.2
  induction h with
  | deep h1 h2 h3 => trivial
  | @not_ok inn i tu t x h1 h2 h3 h4 ih =>
    obtain ⟨⟨u, u1, u2⟩, hx⟩ := ih
    refine ⟨⟨.un ⟨5, 0, [], [], t.f_At⟩ u, ⟨(by decide : kidsF 5 = 1), u1⟩, by rw [Tr.flat, u2]⟩, fun z hz => ?_⟩
    rcases List.mem_cons.1 hz with rfl | hz
    · exact ⟨nodeOk_op (by omega) (ok h3).1, by dsimp only; omega⟩
    · exact hx z hz
  | not_bad h1 h2 h4 ih => trivial
  | par_ok h1 h2 h3 h4 ih => exact ih
  | par_bad h1 h2 h4 ih => trivial
  | par_open h1 h2 h3 h4 ih => trivial
  | @num inn i t h1 h2 =>
    have := ok h2
    refine ⟨⟨.leaf ⟨1, t.f_N, [], [], t.f_At⟩, (by decide : kidsF 1 = 0), rfl⟩, fun z hz => ?_⟩
    obtain rfl := List.mem_singleton.1 hz
    refine ⟨?_, (by decide : (1 : Int) ≠ 3)⟩
    simp only [nodeOk]
    rw [decide_eq_false (by have := this.1; omega), if_pos trivial, decide_eq_true ⟨this.2.1, this.2.2⟩]; rfl
  | @reg inn i t h1 h2 h3 =>
    have := ok h3
    refine ⟨⟨.leaf ⟨2, 0, t.f_Text, [], t.f_At⟩, (by decide : kidsF 2 = 0), rfl⟩, fun z hz => ?_⟩
    obtain rfl := List.mem_singleton.1 hz
    refine ⟨?_, (by decide : (2 : Int) ≠ 3)⟩
    simp only [nodeOk]
    rw [decide_eq_false (by have := this.1; omega), if_neg (by omega), if_pos (.inl trivial), nm h1 h3]; rfl
  | @of inn i t u h1 h2 h3 h4 h5 =>
    have := ok h4
    refine ⟨⟨.leaf ⟨4, 0, u.f_Text, t.f_Text, t.f_At⟩, (by decide : kidsF 4 = 0), rfl⟩, fun z hz => ?_⟩
    obtain rfl := List.mem_singleton.1 hz
    refine ⟨?_, (by decide : (4 : Int) ≠ 3)⟩
    simp only [nodeOk]
    rw [decide_eq_false (by have := this.1; omega), if_neg (by omega), if_neg (by omega), if_pos trivial, nm h1 h4, nm h3 h5]; rfl
  | of_bad h1 h2 h3 => trivial
  | no h1 h2 h3 h4 => trivial
  | fl_bad h1 h2 ih => trivial
  | @fl_ok f inn i tu x r h1 h2 h3 ih1 ih2 =>
    cases r with
    | ok y to2 => exact ih2 ih1
    | bad e a => trivial
  | lp_stop h1 => exact id
  | lp_bad h1 h2 h3 ih => trivial
  | lp_once h1 h2 h3 ih => exact fun hx => good_bin (pick_ops h1) (ok h2).1 hx ih
  | @lp_go f inn i tu x y t r h1 h2 h3 h4 h5 h6 ih1 ih2 =>
    cases r with
    | ok y to2 => exact fun hx => ih2 (good_bin (pick_ops h3) (ok h4).1 hx ih1)
    | bad e a => trivial
end Go.Proofs.Ytonhmholnneaaaa
end
section
namespace Go.Proofs.Ytonhmholnneaaaa
set_option linter.unusedVariables false
set_option linter.unusedSimpArgs false
def ck (t : Tk) : Ck := (t.f_Kind, t.f_Text, t.f_N)
def floorOf (op : Int) : Nat := if op = 14 then 0 else if op = 13 then 1 else if 9 ≤ op then 2 else if op = 8 then 4 else 3
def pickS (s : List UInt8) (ops : List Int) : Int := ops.foldl (fun acc op => bif s == signF op then op else acc) 0
theorem pickS_is : ∀ h, h < 5 → ∀ op : Int, 6 ≤ op ∧ op ≤ 14 → pickS (signF op) (opsF h) = if h = floorOf op then op else 0 := by
  intro h hh op ho
  have : op = 6 ∨ op = 7 ∨ op = 8 ∨ op = 9 ∨ op = 10 ∨ op = 11 ∨ op = 12 ∨ op = 13 ∨ op = 14 := by omega
  rcases this with e | e | e | e | e | e | e | e | e <;> subst e <;> (match h, hh with
    | 0, _ => decide
    | 1, _ => decide
    | 2, _ => decide
    | 3, _ => decide
    | 4, _ => decide)
def From (l : List Tk) (i : Nat) (cs : List Ck) : Prop := (l.map ck).drop i = cs
theorem from_get {l : List Tk} {i : Nat} {c : Ck} {cs : List Ck} (h : From l i (c :: cs)) : ∃ t, l[i]? = some t ∧ ck t = c ∧ From l (i + 1) cs := by
  unfold From at h
  have h1 : (l.map ck)[i]? = some c := by
    have := congrArg (fun l => l[0]?) h
    simpa [List.getElem?_drop] using this
  rw [List.getElem?_map] at h1
  obtain ⟨t, h2, h3⟩ := Option.map_eq_some_iff.1 h1
  refine ⟨t, h2, h3, ?_⟩
  unfold From
  rw [← List.drop_drop, h]; rfl
theorem from_nil {l : List Tk} {i : Nat} (h : From l i []) : l[i]? = none := by
  unfold From at h
  have := List.drop_eq_nil_iff.1 h
  exact List.getElem?_eq_none (by simpa using this)
theorem from_append {l : List Tk} {i : Nat} {a b : List Ck} (h : From l i (a ++ b)) : From l (i + a.length) b := by
  unfold From at h ⊢
  rw [← List.drop_drop, h, List.drop_left]
theorem from_isS {l : List Tk} {i : Nat} {s : List UInt8} {v : Int} {cs : List Ck} (h : From l i ((3, s, v) :: cs)) (s' : List UInt8) : isSg l i s' = (s == s') := by
  obtain ⟨t, h1, h2, _⟩ := from_get h
  injection h2 with e1 e2; injection e2 with e2 e3
  simp only [isSg, h1, e1, e2, beq_self_eq_true, Bool.true_and]
theorem from_pick {l : List Tk} {i : Nat} {s : List UInt8} {v : Int} {cs : List Ck} (h : From l i ((3, s, v) :: cs)) (ops : List Int) : opPick l i ops = pickS s ops := by
  unfold opPick pickS
  congr 1; funext acc op
  rw [from_isS h]
def Stop (cs : List Ck) : Prop := ∀ c r, cs = c :: r → c.1 = 3 → c.2.1 ≠ [46] ∧ ∀ op : Int, 6 ≤ op ∧ op ≤ 14 → c.2.1 ≠ signF op
def NoDot (cs : List Ck) : Prop := ∀ c r, cs = c :: r → c.1 = 3 → c.2.1 ≠ [46]
theorem foldl_none {l : List Tk} {i : Nat} : ∀ {ops : List Int} {a : Int}, (∀ op ∈ ops, isSg l i (signF op) = false) → ops.foldl (fun acc op => bif isSg l i (signF op) then op else acc) a = a := by
  intro ops
  induction ops with
  | nil => intro a h; rfl
  | cons op ops ih =>
    intro a h
    rw [List.foldl_cons, h op (List.mem_cons_self ..), cond_false]
    exact ih (fun o ho => h o (List.mem_cons_of_mem _ ho))
theorem stop_pick {l : List Tk} {i : Nat} {cs : List Ck} (h : From l i cs) (hs : Stop cs) (f : Nat) : opPick l i (opsF f) = 0 := by
  refine foldl_none (fun op ho => ?_)
  have h6 := (ops_ok f).1 op ho
  cases cs with
  | nil => simp [isSg, from_nil h]
  | cons c r =>
    obtain ⟨t, h1, h2, _⟩ := from_get h
    by_cases c3 : c.1 = 3
    · have := (hs c r rfl c3).2 op h6
      rw [← h2] at this
      simp only [isSg, h1]
      rw [beq_eq_false_iff_ne.2 (show t.f_Text ≠ signF op from this)]; simp
    · rw [← h2] at c3
      simp only [isSg, h1]
      rw [beq_eq_false_iff_ne.2 (show t.f_Kind ≠ 3 from c3)]; simp
theorem nodot_is {l : List Tk} {i : Nat} {cs : List Ck} (h : From l i cs) (hs : NoDot cs) : isSg l i [46] = false := by
  cases cs with
  | nil => simp [isSg, from_nil h]
  | cons c r =>
    obtain ⟨t, h1, h2, _⟩ := from_get h
    by_cases c3 : c.1 = 3
    · have := hs c r rfl c3
      rw [← h2] at this
      simp only [isSg, h1]
      rw [beq_eq_false_iff_ne.2 (show t.f_Text ≠ [46] from this)]; simp
    · rw [← h2] at c3
      simp only [isSg, h1]
      rw [beq_eq_false_iff_ne.2 (show t.f_Kind ≠ 3 from c3)]; simp
theorem pe_up {l : List Tk} {inn i tu : Nat} {x : List Nd} : ∀ {d f g : Nat}, g = f + d → g ≤ 5 → PE l (.fl g) inn i (.ok x tu) → (∀ h, f ≤ h → h < g → opPick l tu (opsF h) = 0) → PE l (.fl f) inn i (.ok x tu) := by
  intro d
  induction d with
  | zero => intro f g e _ h _; rw [e] at h; exact h
  | succ d ih =>
    intro f g e h5 h hp
    exact .fl_ok (by omega) (ih (f := f + 1) (by omega) h5 h (fun k h1 h2 => hp k (by omega) h2)) (.lp_stop (hp f (by omega) (by omega)))
def bareR (x : Nd) : Nd := ⟨if x.f_Op = 3 then 2 else x.f_Op, x.f_N, x.f_Name, x.f_In, 0⟩
theorem bareR_leaf1 {x : Nd} (h : nodeOk x = true) (h1 : x.f_Op = 1) : x.f_Name = [] ∧ x.f_In = [] := by
  simp only [nodeOk, h1, if_true, Bool.and_eq_true, beq_iff_eq] at h
  exact h.2.2
theorem bareR_leaf2 {x : Nd} (h : nodeOk x = true) (h1 : x.f_Op = 2 ∨ x.f_Op = 3) : x.f_N = 0 ∧ x.f_In = [] := by
  simp only [nodeOk, Bool.and_eq_true] at h
  rw [if_neg (by omega), if_pos h1] at h
  simp only [Bool.and_eq_true, beq_iff_eq] at h
  exact ⟨h.2.1, h.2.2.2⟩
theorem bareR_leaf4 {x : Nd} (h : nodeOk x = true) (h1 : x.f_Op = 4) : x.f_N = 0 := by
  simp only [nodeOk, Bool.and_eq_true] at h
  rw [if_neg (by omega), if_neg (by omega), if_pos h1] at h
  simp only [Bool.and_eq_true, beq_iff_eq] at h
  exact h.2.1
theorem bareR_op {x : Nd} (h : nodeOk x = true) (h1 : 5 ≤ x.f_Op) : x.f_N = 0 ∧ x.f_Name = [] ∧ x.f_In = [] := by
  simp only [nodeOk, Bool.and_eq_true] at h
  rw [if_neg (by omega), if_neg (by omega), if_neg (by omega)] at h
  simp only [Bool.and_eq_true, beq_iff_eq] at h
  exact ⟨h.2.1, h.2.2.1, h.2.2.2⟩
theorem kids_bin {op : Int} (h : kidsF op = 2) : 6 ≤ op ∧ op ≤ 14 := by unfold kidsF at h; split at h <;> (try split at h) <;> (try split at h) <;> omega
theorem kids_un {op : Int} (h : kidsF op = 1) : op = 5 := by unfold kidsF at h; split at h <;> (try split at h) <;> (try split at h) <;> omega
theorem signF_ne {op : Int} (h : 6 ≤ op ∧ op ≤ 14) : signF op ≠ [46] ∧ signF op ≠ [41] ∧ signF op ≠ [33] ∧ signF op ≠ [40] := by
  have : op = 6 ∨ op = 7 ∨ op = 8 ∨ op = 9 ∨ op = 10 ∨ op = 11 ∨ op = 12 ∨ op = 13 ∨ op = 14 := by omega
  rcases this with e | e | e | e | e | e | e | e | e <;> subst e <;> decide
theorem close_stop (r : List Ck) : Stop ((3, [41], 0) :: r) := by
  intro c r' e h3
  obtain ⟨rfl, _⟩ := List.cons.inj e
  exact ⟨by decide, fun op ho e => (signF_ne ho).2.1 e.symm⟩
theorem stop_nodot {cs : List Ck} (h : Stop cs) : NoDot cs := fun c r e h3 => (h c r e h3).1
theorem op_nodot {op : Int} (h : 6 ≤ op ∧ op ≤ 14) (r : List Ck) : NoDot ((3, signF op, 0) :: r) := by
  intro c r' e h3
  obtain ⟨rfl, _⟩ := List.cons.inj e
  exact (signF_ne h).1
theorem pe_back {l : List Tk} : ∀ (t : Tr), t.wf → NodesOk t.flat →
    (∀ (i inn : Nat) (rest : List Ck), From l i (tokT t true ++ rest) → inn + t.dep ≤ 30 → NoDot rest → ∃ x, PE l (.fl 5) inn i (.ok x (i + (tokT t true).length)) ∧ x.map bareR = t.flat.map bareR) ∧
    (∀ (i inn : Nat) (rest : List Ck), From l i (tokT t false ++ rest) → inn + t.dep ≤ 30 → Stop rest → ∃ x, PE l (.fl 0) inn i (.ok x (i + (tokT t false).length)) ∧ x.map bareR = t.flat.map bareR) := by
  intro t
  have lift : ∀ {t : Tr}, tokT t true = tokT t false → (∀ (i inn : Nat) (rest : List Ck), From l i (tokT t true ++ rest) → inn + t.dep ≤ 30 → NoDot rest → ∃ x, PE l (.fl 5) inn i (.ok x (i + (tokT t true).length)) ∧ x.map bareR = t.flat.map bareR) → (∀ (i inn : Nat) (rest : List Ck), From l i (tokT t false ++ rest) → inn + t.dep ≤ 30 → Stop rest → ∃ x, PE l (.fl 0) inn i (.ok x (i + (tokT t false).length)) ∧ x.map bareR = t.flat.map bareR) := by
    intro t e h i inn rest hf hd hs
    rw [← e] at hf ⊢
    obtain ⟨x, h1, h2⟩ := h i inn rest hf hd (stop_nodot hs)
    exact ⟨x, pe_up (d := 5) rfl (by omega) h1 (fun k _ _ => stop_pick (from_append hf) hs k), h2⟩
  induction t with
  | leaf x =>
    intro h hn
    have hk := kids0.1 h
    have hx := (hn x (by simp [Tr.flat])).1
    have hA : ∀ (i inn : Nat) (rest : List Ck), From l i (tokT (.leaf x) true ++ rest) → inn + (Tr.leaf x).dep ≤ 30 → NoDot rest → ∃ y, PE l (.fl 5) inn i (.ok y (i + (tokT (.leaf x) true).length)) ∧ y.map bareR = (Tr.leaf x).flat.map bareR := by
      intro i inn rest hf hd hs
      rw [tokT] at hf ⊢
      by_cases c1 : x.f_Op = 1
      · rw [if_pos c1] at hf ⊢
        obtain ⟨t, h1, h2, h3⟩ := from_get hf
        injection h2 with e1 e2; injection e2 with e2 e3
        refine ⟨_, .num (by simp [isK, h1, e1]) h1, ?_⟩
        obtain ⟨b1, b2⟩ := bareR_leaf1 hx c1
        simp [Tr.flat, bareR, c1, b1, b2, e3]
      · rw [if_neg c1] at hf ⊢
        obtain ⟨n1, n2⟩ := leaf_names hx hk c1
        by_cases c4 : x.f_Op = 4
        · rw [if_pos c4] at hf ⊢
          obtain ⟨t, h1, h2, h3⟩ := from_get hf
          injection h2 with e1 e2; injection e2 with e2 e3
          have hdot := from_isS h3 [46]
          obtain ⟨_, _, _, h4⟩ := from_get h3
          obtain ⟨u, g1, g2, g3⟩ := from_get h4
          injection g2 with f1 f2; injection f2 with f2 f3
          refine ⟨_, .of (by simp [isN, h1, e1, e2, n2 c4]) (by rw [hdot]; rfl) (by simp only [isN, g1, f1, f2, n1]; rfl) h1 g1, ?_⟩
          have b := bareR_leaf4 hx c4
          simp [Tr.flat, bareR, c4, b, e2, f2]
        · rw [if_neg c4] at hf ⊢
          obtain ⟨t, h1, h2, h3⟩ := from_get hf
          injection h2 with e1 e2; injection e2 with e2 e3
          refine ⟨_, .reg (by simp [isN, h1, e1, e2, n1]) (nodot_is h3 hs) h1, ?_⟩
          obtain ⟨b1, b2⟩ := bareR_leaf2 hx (by omega)
          have e0 : (if x.f_Op = 3 then (2 : Int) else x.f_Op) = 2 := by split <;> omega
          simp [Tr.flat, bareR, e0, b1, b2, e2]
    exact ⟨hA, lift rfl hA⟩
  | un x a ih =>
    intro h hn
    have h5 := kids_un h.1
    have hx := (hn x (by simp [Tr.flat])).1
    have iha := (ih h.2 (fun y hy => hn y (by simp [Tr.flat, hy]))).1
    have hA : ∀ (i inn : Nat) (rest : List Ck), From l i (tokT (.un x a) true ++ rest) → inn + (Tr.un x a).dep ≤ 30 → NoDot rest → ∃ y, PE l (.fl 5) inn i (.ok y (i + (tokT (.un x a) true).length)) ∧ y.map bareR = (Tr.un x a).flat.map bareR := by
      intro i inn rest hf hd hs
      rw [tokT] at hf ⊢
      simp only [Tr.dep] at hd
      obtain ⟨t, h1, h2, h3⟩ := from_get hf
      obtain ⟨y, y1, y2⟩ := iha (i + 1) (inn + 1) rest h3 (by omega) hs
      have hs33 : isSg l i [33] = true := by rw [from_isS hf]; rfl
      refine ⟨⟨5, 0, [], [], t.f_At⟩ :: y, ?_, ?_⟩
      · have := PE.not_ok hs33 (by omega) h1 y1
        rw [List.length_cons, show i + ((tokT a true).length + 1) = i + 1 + (tokT a true).length by omega]; exact this
      · obtain ⟨b1, b2, b3⟩ := bareR_op hx (by omega)
        rw [Tr.flat, List.map_cons, List.map_cons, y2]
        congr 1
        simp [bareR, h5, b1, b2, b3]
    exact ⟨hA, lift rfl hA⟩
  | bin x a b iha ihb =>
    intro h hn
    have h5 := kids_bin h.1
    have hx := (hn x (by simp [Tr.flat])).1
    have iha := (iha h.2.1 (fun y hy => hn y (by simp [Tr.flat, hy]))).1
    have ihb := (ihb h.2.2 (fun y hy => hn y (by simp [Tr.flat, hy]))).1
    have hB : ∀ (i inn : Nat) (rest : List Ck), From l i (tokT (.bin x a b) false ++ rest) → inn + a.dep ≤ 30 → inn + b.dep ≤ 30 → Stop rest → ∃ y, PE l (.fl 0) inn i (.ok y (i + (tokT (.bin x a b) false).length)) ∧ y.map bareR = (Tr.bin x a b).flat.map bareR := by
      intro i inn rest hf hda hdb hs
      rw [tokT, cond_false] at hf ⊢
      rw [List.append_assoc] at hf
      obtain ⟨y, y1, y2⟩ := iha i inn _ hf hda (op_nodot h5 _)
      have hf2 := from_append hf
      rw [List.cons_append] at hf2
      obtain ⟨t, h1, h2, h3⟩ := from_get hf2
      obtain ⟨z, z1, z2⟩ := ihb _ inn rest h3 hdb (stop_nodot hs)
      have hf3 := from_append h3
      have hp : ∀ k, k < 5 → opPick l (i + (tokT a true).length) (opsF k) = if k = floorOf x.f_Op then x.f_Op else 0 := fun k hk => by rw [from_pick hf2, pickS_is k hk _ h5]
      have hF : floorOf x.f_Op < 5 := by unfold floorOf; repeat' split
                                         all_goals omega
      generalize hFF : floorOf x.f_Op = F at *
      have pF := hp F hF
      rw [if_pos rfl] at pF
      have a1 : PE l (.fl (F + 1)) inn i (.ok y (i + (tokT a true).length)) := pe_up (d := 4 - F) (by omega) (by omega) y1 (fun k k1 k2 => by rw [hp k (by omega), if_neg (by omega)])
      have b1 : PE l (.fl (F + 1)) inn (i + (tokT a true).length + 1) (.ok z (i + (tokT a true).length + 1 + (tokT b true).length)) := pe_up (d := 4 - F) (by omega) (by omega) z1 (fun k k1 k2 => stop_pick hf3 hs k)
      have hne : opPick l (i + (tokT a true).length) (opsF F) ≠ 0 := by rw [pF]; omega
      have c1 : PE l (.fl F) inn i (.ok (⟨x.f_Op, 0, [], [], t.f_At⟩ :: (y ++ z)) (i + (tokT a true).length + 1 + (tokT b true).length)) := by
        refine .fl_ok hF a1 ?_
        by_cases c2 : F = 2
        · subst c2
          have := PE.lp_once (x := y) hne h1 b1
          rw [pF] at this; exact this
        · have := PE.lp_go (x := y) (r := .ok (⟨x.f_Op, 0, [], [], t.f_At⟩ :: (y ++ z)) (i + (tokT a true).length + 1 + (tokT b true).length)) hF c2 hne h1 b1 (by rw [pF]; exact .lp_stop (stop_pick hf3 hs F))
          exact this
      refine ⟨⟨x.f_Op, 0, [], [], t.f_At⟩ :: (y ++ z), ?_, ?_⟩
      · have := pe_up (f := 0) (d := F) (by omega) (by omega) c1 (fun k _ _ => stop_pick hf3 hs k)
        rw [List.length_append, List.length_cons, show i + ((tokT a true).length + ((tokT b true).length + 1)) = i + (tokT a true).length + 1 + (tokT b true).length by omega]
        exact this
      · obtain ⟨b1, b2, b3⟩ := bareR_op hx (by omega)
        rw [Tr.flat, List.map_cons, List.map_cons, List.map_append, List.map_append, y2, z2]
        congr 1
        simp [bareR, b1, b2, b3]
    refine ⟨fun i inn rest hf hd hs => ?_, fun i inn rest hf hd hs => hB i inn rest hf (by simp only [Tr.dep] at hd; omega) (by simp only [Tr.dep] at hd; omega) hs⟩
    have et : tokT (.bin x a b) true = (3, [40], 0) :: (tokT (.bin x a b) false ++ [(3, [41], 0)]) := by rw [tokT, tokT]; rfl
    rw [et] at hf ⊢
    simp only [Tr.dep] at hd
    rw [List.cons_append, List.append_assoc] at hf
    obtain ⟨t, h1, h2, h3⟩ := from_get hf
    obtain ⟨y, y1, y2⟩ := hB (i + 1) (inn + 1) _ h3 (by omega) (by omega) (close_stop rest)
    have h40 : isSg l i [40] = true := by rw [from_isS hf]; rfl
    have hf4 := from_append h3
    refine ⟨y, ?_, y2⟩
    have := PE.par_ok h40 (by omega) y1 (by rw [from_isS hf4]; rfl)
    rw [List.length_cons, List.length_append, show i + ((tokT (.bin x a b) false).length + [((3 : Int), ([41] : List UInt8), (0 : Int))].length + 1) = i + 1 + (tokT (.bin x a b) false).length + 1 by simp; omega]
    exact this
end Go.Proofs.Ytonhmholnneaaaa
end
section
namespace Go.Proofs.Ytonhmholnneaaaa
set_option linter.unusedVariables false
set_option linter.unusedSimpArgs false
theorem lexFrom_cnt (f : Nat) (l : List UInt8) (p : Nat) (acc : List Tok) : (lexFrom f l p acc).toks.length ≤ acc.length + l.length := by
  induction f generalizing l p acc with
  | zero => simp [lexFrom]
  | succ f ih =>
    have hg := gapS_le false l
    simp only [lexFrom]
    rcases hd : l.drop (gapS false l) with _ | ⟨c, u⟩
    · simp
    · have hlen := congrArg List.length hd
      rw [List.length_drop] at hlen
      simp only
      cases ho : oneL (c :: u) with
      | err e => simp
      | tok k n v =>
        simp only
        have hn := oneL_len ho
        have := ih ((c :: u).drop n) (p + gapS false l + n) (acc ++ [⟨k, (c :: u).take n, v, (p + gapS false l : Nat)⟩])
        simp only [List.length_append, List.length_singleton, List.length_drop] at this
        omega
theorem scan_cnt (l : List UInt8) : (scanL l).toks.length ≤ l.length := by
  unfold scanL
  split
  · simp
  · have := lexFrom_cnt (l.length + 1) l 0 []
    simpa using this
theorem oneL_val {l : List UInt8} {k : Int} {n v : Nat} (h : oneL l = .tok k n v) : v ≤ 9999 := by
  rcases l with _ | ⟨c, t⟩
  · simp [oneL] at h
  · simp only [oneL] at h
    repeat' split at h
    all_goals first
      | (simp at h; done)
      | (simp only [Lx.tok.injEq] at h; omega)
def TokIn (B : Nat) (t : Tok) : Prop := 0 ≤ t.at' ∧ t.at' + t.text.length ≤ B ∧ 0 ≤ t.n ∧ t.n ≤ 9999
theorem lexFrom_in (f : Nat) (l : List UInt8) (p B : Nat) (acc : List Tok) (hB : p + l.length ≤ B) (ha : ∀ t ∈ acc, TokIn B t) : ∀ t ∈ (lexFrom f l p acc).toks, TokIn B t := by
  induction f generalizing l p acc with
  | zero => exact ha
  | succ f ih =>
    have hg := gapS_le false l
    simp only [lexFrom]
    rcases hd : l.drop (gapS false l) with _ | ⟨c, u⟩
    · exact ha
    · have hlen := congrArg List.length hd
      rw [List.length_drop] at hlen
      simp only
      cases ho : oneL (c :: u) with
      | err e => simp
      | tok k n v =>
        simp only
        have hn := oneL_len ho
        refine ih ((c :: u).drop n) (p + gapS false l + n) _ (by rw [List.length_drop]; omega) (fun t ht => ?_)
        rcases List.mem_append.1 ht with ht | ht
        · exact ha t ht
        · obtain rfl := List.mem_singleton.1 ht
          have := oneL_val ho
          refine ⟨by dsimp only; omega, ?_, by dsimp only; omega, by dsimp only; omega⟩
          dsimp only
          rw [List.length_take]; omega
theorem scan_in (l : List UInt8) : ∀ t ∈ (scanL l).toks, TokIn l.length t := by
  unfold scanL
  split
  · simp
  · exact lexFrom_in _ _ _ _ _ (by omega) (by simp)
def toksS (s : List UInt8) : List Tk := (scanL s).toks.map tkS
theorem toksS_ok (s : List UInt8) : (∀ t ∈ toksS s, TkOk t ∧ t.f_At + t.f_Text.length ≤ s.length) ∧ (toksS s).length ≤ s.length := by
  refine ⟨fun t ht => ?_, by rw [toksS, List.length_map]; exact scan_cnt s⟩
  obtain ⟨u, hu, rfl⟩ := List.mem_map.1 ht
  have := scan_in s u hu
  exact ⟨⟨this.1, this.2.2.1, this.2.2.2⟩, this.2.1⟩
theorem showT_len16 : ∀ (t : Tr) (o : Bool), t.wf → NodesOk t.flat → (showT t o).length ≤ 40 * t.flat.length := by
  have nl : ∀ {w : List UInt8}, nameB w = true → w.length ≤ 16 := fun h => by
    obtain ⟨_, _, _, _, _, h⟩ := word_of_name h; exact h
  intro t
  induction t with
  | leaf x =>
    intro o h hn
    have hx := (hn x (by simp [Tr.flat])).1
    have hk := kids0.1 h
    rw [showT, Tr.flat]
    by_cases c1 : x.f_Op = 1
    · rw [if_pos c1]; have := (dec_m (leaf_num hx c1)).1; simp; omega
    · obtain ⟨n1, n2⟩ := leaf_names hx hk c1
      have := nl n1
      rw [if_neg c1]
      by_cases c4 : x.f_Op = 4
      · rw [if_pos c4]; have := nl (n2 c4); simp; omega
      · rw [if_neg c4]; simp; omega
  | un x a ih =>
    intro o h hn
    have := ih true h.2 (fun y hy => hn y (by simp [Tr.flat, hy]))
    rw [showT, Tr.flat]; simp; omega
  | bin x a b iha ihb =>
    intro o h hn
    have h1 := iha true h.2.1 (fun y hy => hn y (by simp [Tr.flat, hy]))
    have h2 := ihb true h.2.2 (fun y hy => hn y (by simp [Tr.flat, hy]))
    have h3 := (sign_p 0 (show 5 ≤ x.f_Op ∧ x.f_Op ≤ 14 by have := kids_bin h.1; omega)).2
    rw [showT, Tr.flat]
    cases o <;> simp <;> omega
theorem core_eq (toks : List Tok) : (toks.map tkS).map ck = toks.map Tok.core := by
  rw [List.map_map]; rfl
theorem same02_bare (n : Nat) (a b : List Nd) (h : a.length < 1000000) (hn : a.length + 1 < n) (hab : a.map bareR = b.map bareR) (h3 : ∀ x ∈ a, x.f_Op ≠ 3) (h3' : ∀ x ∈ b, x.f_Op ≠ 3) : m_ref02_Same n a b false = some true := by
  obtain ⟨n, rfl⟩ : ∃ j, n = j + 1 := ⟨n - 1, by omega⟩
  have hlen : a.length = b.length := by simpa using congrArg List.length hab
  have hL : ref02_Same_L0 n a b n false 0 = bif a.all (fun _ => true) then some (.out ()) else some (.ret false) := by
    refine all_list a (fun k i => ref02_Same_L0 n a b k false (i : Int)) _ (fun k => ?_) (fun k i x hi hx => ?_) (by omega)
    · rw [ref02_Same_L0, bif_not (by omega)]
    · have hy : b[i]? = some (b[i]'(by omega)) := List.getElem?_eq_getElem (by omega)
      have he : bareR x = bareR (b[i]'(by omega)) := by
        have := congrArg (fun l => l[i]?) hab
        simp only [List.getElem?_map, hx, hy, Option.map_some] at this
        exact Option.some.inj this
      have hx3 := h3 x (List.mem_of_getElem? hx)
      have hy3 := h3' _ (List.mem_of_getElem? hy)
      generalize b[i]'(by omega) = y at *
      have e1 := congrArg S_api_Node.f_Op he
      have e2 := congrArg S_api_Node.f_N he
      have e3 := congrArg S_api_Node.f_Name he
      have e4 := congrArg S_api_Node.f_In he
      simp only [bareR, if_neg hx3, if_neg hy3] at e1 e2 e3 e4
      rw [ref02_Same_L0, bif_decide (by omega), idx_some hx, idx_some hy, wrap_one i (by omega)]
      simp [e1, e2, e3, e4]
  have e : a.all (fun _ => true) = true := by simp
  rw [m_ref02_Same, hL, e, show (((a.length : Nat) : Int) != ((b.length : Nat) : Int)) = false by rw [hlen]; simp]; simp
theorem nodes_of {l : List Nd} (h6 : l.all nodeOk = true) (hl : lightE l = true) : NodesOk l := by
  simp only [lightE, Bool.and_eq_true, decide_eq_true_eq, List.all_eq_true] at hl
  exact fun x hx => ⟨List.all_eq_true.1 h6 x hx, (hl.2 x hx).1, (hl.2 x hx).2⟩
theorem show_m {t : Tr} (h : t.wf) (hn : NodesOk t.flat) (hl : t.flat.length ≤ 200) (he : exprOk t.flat = true) {n : Nat} (hf : 1000 < n) : m_expr_Show n t.flat = some (showT t false) := by
  obtain ⟨n, rfl⟩ : ∃ j, n = j + 1 := ⟨n - 1, by omega⟩
  have hd := t.dep_lt
  have s1 : m_expr_shown n t.flat 0 false = some (showT t false, ((t.flat.length : Nat) : Int)) := by
    have := shown_tr t n [] [] false h hn (by simp; omega) (by omega)
    simpa using this
  rw [m_expr_Show, eright_m n t.flat (by omega) (by omega), Option.bind_some, he, cond_true, s1]; rfl
end Go.Proofs.Ytonhmholnneaaaa
end
section
namespace Go.Proofs.Ytonhmholnneaaaa
set_option linter.unusedVariables false
set_option linter.unusedSimpArgs false
theorem good_light {x : List Nd} (h : GoodX x) (hl : x.length ≤ 200) : lightE x = true := by
  simp only [lightE, Bool.and_eq_true, decide_eq_true_eq, List.all_eq_true]
  refine ⟨by omega, fun y hy => ?_⟩
  have hy := (h.2 y hy).1
  have nl : ∀ {w : List UInt8}, nameB w = true → w.length ≤ 16 := fun h => by
    obtain ⟨_, _, _, _, _, h⟩ := word_of_name h; exact h
  simp only [nodeOk, Bool.and_eq_true] at hy
  have hy := hy.2
  by_cases c1 : y.f_Op = 1
  · rw [if_pos c1] at hy
    simp only [Bool.and_eq_true, beq_iff_eq] at hy
    rw [hy.2.1, hy.2.2]; simp
  · rw [if_neg c1] at hy
    by_cases c2 : y.f_Op = 2 ∨ y.f_Op = 3
    · rw [if_pos c2] at hy
      simp only [Bool.and_eq_true, beq_iff_eq] at hy
      have := nl hy.2.1
      rw [hy.2.2]; simp; omega
    · rw [if_neg c2] at hy
      by_cases c4 : y.f_Op = 4
      · rw [if_pos c4] at hy
        simp only [Bool.and_eq_true, beq_iff_eq] at hy
        have := nl hy.2.1; have := nl hy.2.2
        omega
      · rw [if_neg c4] at hy
        simp only [Bool.and_eq_true, beq_iff_eq] at hy
        rw [hy.2.1, hy.2.2]; simp
theorem good_tree {x : List Nd} (h : GoodX x) (hl : x.length ≤ 200) (hd : (depF x (0, [])).1 ≤ 30) : ∃ t : Tr, t.wf ∧ t.flat = x ∧ t.dep ≤ 30 ∧ NodesOk t.flat ∧ exprOk x = true := by
  obtain ⟨⟨t, t1, rfl⟩, hg⟩ := h
  have hd2 := depF_tr t [] 0 [] t1 (by omega)
  rw [List.append_nil] at hd2
  have e : (depF t.flat (0, [])).1 = (t.dep : Int) := by rw [hd2]; simp [depF]
  have hp := t.flat_pos
  have h6 : t.flat.all nodeOk = true := List.all_eq_true.2 fun y hy => (hg y hy).1
  have he : endF t.flat 1 = some t.flat.length := by
    have := endF_tr t 1 [] t1 (by omega)
    rw [List.append_nil, if_pos rfl] at this; exact this
  refine ⟨t, t1, rfl, by omega, nodes_of h6 (good_light ⟨⟨t, t1, rfl⟩, hg⟩ hl), ?_⟩
  simp only [exprOk, Bool.and_eq_true, decide_eq_true_eq]
  exact ⟨⟨hp, hl⟩, he, h6, hd⟩
end Go.Proofs.Ytonhmholnneaaaa
end
section
namespace Go.Proofs.Ytonhmholnneaaaa
set_option linter.unusedVariables false
set_option linter.unusedSimpArgs false
set_option maxRecDepth 10000
theorem err_ne (l : List Tk) (i : Nat) : errF l i ≠ 0 := by unfold errF; split <;> decide
end Go.Proofs.Ytonhmholnneaaaa
end
section
namespace Go.Proofs.Ytonhmholnneaaaa
set_option linter.unusedVariables false
set_option linter.unusedSimpArgs false
set_option maxRecDepth 10000
theorem parse_prog {T : Nat} {l : List Tk} (hl : l.length < 100000) (hk : ∀ t ∈ l, TkOk t) (hT : ∀ t ∈ l, t.f_Text.length ≤ T) (hT2 : T < 100000) {n i : Nat} {r : PR} (hr : PE l (.fl 0) 0 i r) (hi : i ≤ l.length) (hn : 12 * l.length + T + 200 ≤ n) :
    m_expr_Parse n l (i : Int) = some (parseR l i r) := parse_g hl hr hi (by omega)
end Go.Proofs.Ytonhmholnneaaaa
end
section
namespace Go.Proofs.Ytonhmholnneaaaa
set_option linter.unusedVariables false
set_option linter.unusedSimpArgs false
set_option maxRecDepth 10000
abbrev St := S_api_Stmt
def plnB (x : List Nd) : Bool := (x.filter isName).all fun y => y.f_Op == 2
theorem allP_loop {F : Nat → Int → Option (LR Unit Bool)} (l : List Nd) (h0 : ∀ k i, l.length ≤ i → F (k + 1) (i : Int) = some (.out ())) (h1 : ∀ k i x, i < l.length → l[i]? = some x → F (k + 1) (i : Int) = bif x.f_Op != 2 then some (.ret false) else F k ((i + 1 : Nat) : Int)) : ∀ (m i k : Nat), l.length - i ≤ m → l.length - i < k → F k (i : Int) = some (if (l.drop i).all (fun y => y.f_Op == 2) then .out () else .ret false) := by
  intro m
  induction m with
  | zero =>
    intro i k h hk
    obtain ⟨k, rfl⟩ : ∃ j, k = j + 1 := ⟨k - 1, by omega⟩
    rw [h0 k i (by omega), List.drop_of_length_le (by omega)]; rfl
  | succ m ih =>
    intro i k h hk
    obtain ⟨k, rfl⟩ : ∃ j, k = j + 1 := ⟨k - 1, by omega⟩
    by_cases hi : i < l.length
    · rw [h1 k i _ hi (List.getElem?_eq_getElem hi), ih (i + 1) k (by omega) (by omega), List.drop_eq_getElem_cons hi, List.all_cons]
      by_cases hx : l[i].f_Op = 2
      · simp [hx]
      · have : (l[i].f_Op == 2) = false := by rw [beq_eq_false_iff_ne]; exact hx
        simp [this, bne]
    · rw [h0 k i (by omega), List.drop_of_length_le (by omega)]; rfl
theorem plain_s {x : List Nd} (h : GoodX x) (hl : x.length ≤ 200) (hd : (depF x (0, [])).1 ≤ 30) {n : Nat} (hn : 600 < n) : m_stmt_plain n x = some (plnB x) := by
    obtain ⟨t, _, _, _, _, h5⟩ := good_tree h hl hd
    obtain ⟨n, rfl⟩ : ∃ j, n = j + 1 := ⟨n - 1, by omega⟩
    have hf : (x.filter isName).length ≤ 200 := Nat.le_trans (List.length_filter_le ..) hl
    rw [m_stmt_plain, names_m n x (by omega) (by omega), Option.bind_some]
    have := allP_loop (F := fun k i => stmt_plain_L0 n (x.filter isName) k i) (x.filter isName) (fun k i h => by rw [stmt_plain_L0, bif_not (by omega)]) (fun k i y hi hy => by rw [stmt_plain_L0, bif_decide (by omega), idx_some hy, Option.bind_some, wrap_one i (by omega)]) (x.filter isName).length 0 n (by omega) (by omega)
    rw [show ((0 : Nat) : Int) = 0 from rfl] at this
    rw [this, Option.bind_some, List.drop_zero, eright_m n x (by omega) (by omega), h5]
    unfold plnB
    by_cases c : (x.filter isName).all (fun y => y.f_Op == 2) = true
    · rw [if_pos c, c]; rfl
    · rw [if_neg c]; rw [Bool.not_eq_true] at c; rw [c]
structure Toks (T : Nat) (l : List Tk) : Prop where
  len : l.length < 100000
  ok : ∀ t ∈ l, TkOk t
  txt : ∀ t ∈ l, t.f_Text.length ≤ T
  small : T < 100000
def plainR (l : List Tk) (i : Nat) : PR → PR
  | .bad e a => .bad e a
  | .ok x tu => if 30 < (depF x (0, [])).1 then .bad 7 (placeF l i) else if 200 < x.length then .bad 2 (placeF l i) else if plnB x = true then .ok x tu else .bad 5 (placeF l i)
open Classical in
noncomputable def exQ (l : List Tk) (i : Nat) : PR := if h : ∃ r, PE l (.fl 0) 0 i r then plainR l i h.choose else .bad 6 0
theorem exQ_is {T : Nat} {l : List Tk} (hk : Toks T l) {i : Nat} (hi : i ≤ l.length) : ∃ r, PE l (.fl 0) 0 i r ∧ exQ l i = plainR l i r := by
  have h : ∃ r, PE l (.fl 0) 0 i r := fl_total l.length i 0 0 (by omega) hi (by omega) (by omega)
  exact ⟨h.choose, h.choose_spec, by unfold exQ; rw [dif_pos h]⟩
theorem exQ_ok {T : Nat} {l : List Tk} (hk : Toks T l) {i : Nat} (hi : i ≤ l.length) : match exQ l i with
    | .ok x tu => i < tu ∧ tu ≤ l.length ∧ x.length ≤ 200
    | .bad e _ => e ≠ 0 := by
  obtain ⟨r, hr, e⟩ := exQ_is hk hi
  rw [e]
  cases r with
  | bad e a => exact PE_ok hr hi
  | ok x tu =>
    have := PE_ok hr hi; dsimp only at this
    simp only [plainR]
    split
    · rename_i h; split at h
      · cases h
      · split at h
        · cases h
        · split at h
          · cases h; omega
          · cases h
    · rename_i h; split at h
      · cases h; decide
      · split at h
        · cases h; decide
        · split at h
          · cases h
          · cases h; decide
end Go.Proofs.Ytonhmholnneaaaa
end
