/- Parts of the proofs: what they lean on. Conditions: none. -/
import Derived.WalkKit
section
namespace Go.Proofs.YteindmlljlboeaaGreat
theorem A3 {α β:Type} (a:α) (f:α→Option β):(some a).bind f=f a:=rfl
theorem B3 {α β:Type} {as:List α} (f:α→β):(as.map f).length=as.length:=List.length_map f
theorem Ap (a b:Bool):((a&&b)=true)=(a=true∧b=true):=Bool.and_eq_true a b
theorem As {n m:Nat} (h:Nat.ble n m=true):n≤m:=Nat.le_of_ble_eq_true h
theorem B7 {α:Type} {l:List α} {i:Nat} (h:i < l.length):l[i]?=some l[i]:=List.getElem?_eq_getElem h
theorem Ch {α:Type} [BEq α] [LawfulBEq α] {a b:α}:(a==b)=false↔a≠b:=beq_eq_false_iff_ne
theorem Bb {p:Prop} [Decidable p]:(decide p=true)=p:=decide_eq_true_eq
theorem Bo {α:Type} {a b:α}:(bif false then a else b)=b:=rfl
theorem B8 {α:Type} {a b:α}:(bif true then a else b)=a:=rfl
set_option linter.unusedVariables false
inductive AV where
 | junk
 | bool (b:Bool)
 | int (k:IntKind) (n:Int)
 | str (s:List UInt8)
 | nilp
 | ptr (id off:Nat)
 | pte (id i off:Nat)
 | rptr (el:List AV) (off:Nat)
 | nils
 | sl (size:Nat) (els:List (List AV))
 | row (id n:Nat)
 | own (id off n:Nat)
 | vsl (id off n cap:Nat)
 | vel (id off:Nat)
 | stk (id ver n:Nat)
 | pts (id ver i off:Nat)
 | agg (cs:List AV)
 | tup (cs:List AV)
 | func (f:FuncId) (first cap:List AV)
 | nilf
 | mapp (id:Nat)
 | mcl (kd:Option IntKind) (els:List (List AV))
 | mfn (kd:Option IntKind) (els:List (List AV))
 | ifc (t:TypeId) (a:AV)
 | nili
 deriving Inhabited
inductive Ob where
 | var (t:TypeId) (cs:List AV)
 | row (e:TypeId) (size:Nat) (els:List (List AV))
 | arr (size:Nat) (els:List (List AV))
 | stk (ver:Nat) (e:TypeId) (size:Nat) (els:List (List AV))
 | mp (kd:Option IntKind) (frz:Bool) (els:List (List AV))
 | mpo (kd:Option IntKind) (els:List (List AV))
 deriving Inhabited
abbrev Tm:=List AV
abbrev Hp:=List Ob
def nth {α:Type} (d:α):List α→Nat→α
 | [],_=>d
 | a :: _,0=>a
 | _ :: l,n+1=>nth d l n
def nth? {α:Type}:List α→Nat→Option α
 | [],_=>none
 | a :: _,0=>some a
 | _ :: l,n+1=>nth? l n
def C7 {α:Type}:List α→Nat→α→List α
 | [],_,_=>[]
 | _ :: l,0,x=>x :: l
 | a :: l,n+1,x=>a :: C7 l n x
def Abs:Value→AV
 | .bool b=>.bool b
 | .int k n=>match decide (k.min≤n)&&decide (n≤k.max) with
   | true=>.int k n
   | false=>.junk
 | .string s=>match decide (s.data.toList.length≤140737488355328) with
   | true=>.str s.data.toList
   | false=>.junk
 | .pointer none=>.nilp
 | .slice none 0 0=>.nils
 | .nilFunc=>.nilf
 | .map none=>.mcl none []
 | .nilIface=>.nili
 | _=>.junk
def lit:Value→AV
 | .agg cs=>match cs.toList.all Value.oneCell' with
   | true=>.agg (cs.toList.map Abs)
   | false=>.junk
 | v=>Abs v
def ev (tm:Tm):Operand→AV
 | .tmp t=>nth .junk tm t
 | .const v=>lit v
 | .func f=>.func f [] []
 | .global _=>.junk
def Kr (P:Program) (t:TypeId):Option Bool :=
 match P.underlying t with
 | some (.struct _) | some (.array _ _)=>some true
 | some _=>some false
 | none=>none
def T2 (P:Program) (t:TypeId) (f:Nat):Option (Nat×TypeId):=match P.underlying t with
 | some (.struct fs)=>(fs[f]?).map fun x=>(x.offset,x.type)
 | _=>none
def Hc (P:Program) (t:TypeId):Option TypeId:=match P.underlying t with
 | some (.slice e)=>some e
 | _=>none
def AV.one:AV→Bool
 | .junk | .agg _ | .tup _ | .mfn _ _=>false
 | _=>true
def AV.cells:AV→List AV
 | .agg cs=>cs
 | a=>[a]
def De (hp:Hp):AV→Option AV
 | .row id n=>match nth? hp id with
   | some (.row _ size els)=>some (.sl size (els.take n))
   | _=>none
 | .bool b=>some (.bool b)
 | .int k n=>some (.int k n)
 | .str s=>some (.str s)
 | .nilp=>some .nilp
 | .rptr el off=>some (.rptr el off)
 | .nils=>some .nils
 | .sl size els=>some (.sl size els)
 | .nilf=>some .nilf
 | .func f [] []=>some (.func f [] [])
 | .mcl kd els=>some (.mcl kd els)
 | .ifc t a=>some (.ifc t a)
 | .nili=>some .nili
 | _=>none
def D7 (hp:Hp):List AV→Option (List AV)
 | []=>some []
 | a :: l=>match De hp a with
   | some a=>match D7 hp l with
     | some l=>some (a :: l)
     | none=>none
   | none=>none
def N7 (hp:Hp):AV→Option AV
 | .agg cs=>match D7 hp cs with
   | some cs=>some (.agg cs)
   | none=>none
 | a=>De hp a
def Fb (hp:Hp):List AV→Option (List AV)
 | []=>some []
 | a :: l=>match N7 hp a with
   | some a=>match Fb hp l with
     | some l=>some (a :: l)
     | none=>none
   | none=>none
def Hn (hp:Hp):AV→Option AV
 | .own id off n=>match nth? hp id with
   | some (.arr size els)=>some (.sl size ((els.drop off).take n))
   | _=>none
 | .stk id ver n=>match nth? hp id with
   | some (.stk v _ size els)=>match decide (v=ver) with
     | true=>some (.sl size (els.take n))
     | false=>none
   | _=>none
 | a=>De hp a
def K0 (hp:Hp):List AV→Option (List AV)
 | []=>some []
 | a :: l=>match Hn hp a with
   | some a=>match K0 hp l with
     | some l=>some (a :: l)
     | none=>none
   | none=>none
def O8 (hp:Hp):AV→Option AV
 | .agg cs=>match K0 hp cs with
   | some cs=>some (.agg cs)
   | none=>none
 | a=>Hn hp a
def Eo (hp:Hp):List AV→Option (List AV)
 | []=>some []
 | a :: l=>match O8 hp a with
   | some a=>match Eo hp l with
     | some l=>some (a :: l)
     | none=>none
   | none=>none
def Agq:AV→Bool
 | .own _ _ _=>true
 | .stk _ _ _=>true
 | _=>false
def A6j:List AV→Bool
 | []=>false
 | .agg cs :: l=>cs.any Agq || A6j l
 | a :: l=>Agq a || A6j l
def V4:AV→Bool
 | .bool _ | .int _ _ | .str _=>true
 | _=>false
def flat:AV→Bool
 | .tup cs=>cs.all V4
 | a=>V4 a
def Ip (P:Program):Nat→TypeId→List TypeId
 | 0,t=>[t]
 | n+1,t=>match P.underlying t with
   | some (.struct fs)=>fs.toList.flatMap fun f=>Ip P n f.type
   | some (.array k e)=>(List.replicate k (Ip P n e)).flatten
   | _=>[t]
def Yn (P:Program) (t:TypeId):AV→AV
 | .nils=>match Hc P t with
   | some e=>.sl (P.cellsOf e) []
   | none=>.nils
 | a=>a
def Nk (P:Program):List TypeId→List AV→List AV
 | t :: ts,a :: l=>Yn P t a :: Nk P ts l
 | _,l=>l
def A7p (P:Program) (t:TypeId):AV→AV
 | .agg cs=>.agg (Nk P (Ip P 6 t) cs)
 | .nils=>Yn P t .nils
 | a=>a
def Dl (P:Program):List TypeId→List AV→List AV
 | t :: ts,a :: l=>A7p P t a :: Dl P ts l
 | _,l=>l
def A12 (h0:Nat) (hp:Hp):AV→AV
 | .ptr id off=>bif decide (id < h0) then .ptr id off else .junk
 | .pte id i off=>bif decide (id < h0) then .pte id i off else .junk
 | .vsl id off n c=>bif decide (id < h0) then .vsl id off n c else .junk
 | .vel id off=>bif decide (id < h0) then .vel id off else .junk
 | .row id n=>bif decide (id < h0) then .row id n else match nth? hp id with
   | some (.row _ size els)=>.sl size (els.take n)
   | _=>.junk
 | .own id off n=>bif decide (id < h0) then .own id off n else match nth? hp id with
   | some (.arr size els)=>.sl size ((els.drop off).take n)
   | _=>.junk
 | .stk id ver n=>bif decide (id < h0) then .stk id ver n else match nth? hp id with
   | some (.stk v _ size els)=>match decide (v=ver) with
     | true=>.sl size (els.take n)
     | false=>.junk
   | _=>.junk
 | .pts id v i off=>bif decide (id < h0) then .pts id v i off else .junk
 | .mapp id=>bif decide (id < h0) then .mapp id else match nth? hp id with
   | some (.mp kd _ els)=>.mcl kd els
   | _=>.junk
 | .func f [] []=>.func f [] []
 | .func _ _ _=>.junk
 | .agg _=>.junk
 | .tup _=>.junk
 | .mfn _ _=>.junk
 | a=>a
def Y9 (h0:Nat) (hp:Hp):AV→AV
 | .agg cs=>.agg (cs.map (A12 h0 hp))
 | .func f a b=>.func f (a.map (A12 h0 hp)) (b.map (A12 h0 hp))
 | a=>A12 h0 hp a
def wane (h0:Nat) (hp:Hp):AV→AV
 | .tup cs=>.tup (cs.map (Y9 h0 hp))
 | .mfn kd els=>.mfn kd (els.map (List.map (Y9 h0 hp)))
 | .mapp id=>bif decide (id < h0) then .mapp id else match nth? hp id with
   | some (.mp kd _ els)=>.mcl kd els
   | some (.mpo kd els)=>.mfn kd (els.map (List.map (Y9 h0 hp)))
   | _=>.junk
 | a=>Y9 h0 hp a
def Aj7 (h0:Nat) (hp:Hp):Ob→Ob
 | .var t cs=>.var t (cs.map (Y9 h0 hp))
 | .mpo kd els=>.mpo kd (els.map (List.map (Y9 h0 hp)))
 | o=>o
def Hb (h0:Nat) (hp:Hp):Hp:=(hp.take h0).map (Aj7 h0 hp)
def X0 (keep:List Nat) (h0:Nat) (hp:Hp):Nat→Tm→Tm
 | _,[]=>[]
 | i,a :: l=>(bif keep.contains i then wane h0 hp a else .junk) :: X0 keep h0 hp (i+1) l
def Nw:List Nat→Nat→Bool
 | [],_=>false
 | a :: l,f=>match Nat.beq a f with
   | true=>true
   | false=>Nw l f
def Lz:List Nat→Nat→Nat→Option Nat
 | [],_,_=>none
 | a :: l,k,id=>match Nat.beq a id with
   | true=>some k
   | false=>Lz l (k+1) id
def Cw:AV→List Nat
 | .ptr id _=>[id]
 | .pte id _ _=>[id]
 | .vsl id _ _ _=>[id]
 | .vel id _=>[id]
 | .row id _=>[id]
 | .own id _ _=>[id]
 | .stk id _ _=>[id]
 | .pts id _ _ _=>[id]
 | .mapp id=>[id]
 | _=>[]
def Ce (g:AV→List Nat):List AV→List Nat
 | []=>[]
 | a :: l=>g a++Ce g l
def Ew:AV→List Nat
 | .agg cs=>Ce Cw cs
 | .func _ a b=>Ce Cw a++Ce Cw b
 | a=>Cw a
def Ri:AV→List Nat
 | .tup cs=>Ce Ew cs
 | .mfn _ els=>Ce Ew els.flatten
 | a=>Ew a
def Aq2:Ob→List Nat
 | .var _ cs=>Ce Ew cs
 | .mpo _ els=>Ce Ew els.flatten
 | _=>[]
def U7 (hp:Hp):Nat→List Nat→List Nat→Option (List Nat)
 | 0,_,done=>some done
 | _+1,[],done=>some done
 | n+1,id :: todo,done=>match Nw done id with
   | true=>U7 hp n todo done
   | false=>match nth? hp id with
     | some o=>U7 hp n (Aq2 o++todo) (done++[id])
     | none=>none
def idB (n:Nat):List Nat→Bool
 | []=>true
 | a :: l=>match Nat.blt a n with
   | true=>idB n l
   | false=>false
def Tc (hp:Hp):AV→AV
 | .row id n=>match nth? hp id with
   | some (.row _ size els)=>.sl size (els.take n)
   | _=>.junk
 | a=>a
def A1k (hp:Hp):AV→AV
 | .agg cs=>.agg (cs.map (Tc hp))
 | .func f a b=>.func f (a.map (Tc hp)) (b.map (Tc hp))
 | a=>Tc hp a
def A5j (q:Nat→Option Nat):AV→AV
 | .ptr id off=>match q id with
   | some k=>.ptr k off
   | none=>.junk
 | .vsl id off n c=>match q id with
   | some k=>.vsl k off n c
   | none=>.junk
 | .vel id off=>match q id with
   | some k=>.vel k off
   | none=>.junk
 | .pte id i off=>match q id with
   | some k=>.pte k i off
   | none=>.junk
 | .row id n=>match q id with
   | some k=>.row k n
   | none=>.junk
 | .own id off n=>match q id with
   | some k=>.own k off n
   | none=>.junk
 | .stk id v n=>match q id with
   | some k=>.stk k v n
   | none=>.junk
 | .pts id v i off=>match q id with
   | some k=>.pts k v i off
   | none=>.junk
 | .mapp id=>match q id with
   | some k=>.mapp k
   | none=>.junk
 | .func f [] []=>.func f [] []
 | .func _ _ _=>.junk
 | .agg _=>.junk
 | .tup _=>.junk
 | .mfn _ _=>.junk
 | a=>a
def Xf (q:Nat→Option Nat):AV→AV
 | .agg cs=>.agg (cs.map (A5j q))
 | .func f a b=>.func f (a.map (A5j q)) (b.map (A5j q))
 | a=>A5j q a
def Ack (q:Nat→Option Nat):AV→AV
 | .tup cs=>.tup (cs.map (Xf q))
 | .mfn kd els=>.mfn kd (els.map (List.map (Xf q)))
 | a=>Xf q a
def N9 (P:Program) (q:Nat→Option Nat):Ob→Ob
 | .var t cs=>.var t (Nk P (Ip P 6 t) (cs.map (Xf q)))
 | .mpo kd els=>.mpo kd (els.map (List.map (Xf q)))
 | o=>o
def Q0 (P:Program) (q:Nat→Option Nat) (hp:Hp):List Nat→Hp
 | []=>[]
 | id :: l=>match nth? hp id with
   | some o=>N9 P q o :: Q0 P q hp l
   | none=>Q0 P q hp l
def Xe (P:Program) (ids:List Nat):List Nat→Hp→Hp→Hp
 | id :: l,o :: hpn,hp=>Xe P ids l hpn (C7 hp id (N9 P (nth? ids) o))
 | _,_,hp=>hp
structure Bu where
 keep:FuncId→Nat→Nat→List Nat
 inl:FuncId→FuncId→Bool
 obj:FuncId→Nat→Bool
 arr:FuncId→Nat→Bool
 ups:FuncId→Bool
 ado:FuncId→Nat→Bool
 upc:FuncId→FuncId→Bool
 ind:FuncId→Bool
 dyn:FuncId→Nat→Bool
 order:FuncId→Nat→List Nat
 join:FuncId→Nat→List Nat
 stk:FuncId→Nat→Bool
 cy:FuncId→Nat→List Nat
 upz:FuncId→Nat→Bool
 raw:FuncId→Bool
 good:List FuncId
 plain:List FuncId
section
variable {ρ:Type}
def Sr (K:Nat→Option ρ) (n:Nat):Option ρ:=match Nat.beq n 0 with
 | true=>K 0
 | false=>match Nat.beq n 1 with
 | true=>K 1
 | false=>match Nat.beq n 2 with
 | true=>K 2
 | false=>match Nat.beq n 3 with
 | true=>K 3
 | false=>match Nat.beq n 4 with
 | true=>K 4
 | false=>match Nat.beq n 5 with
 | true=>K 5
 | false=>match Nat.beq n 6 with
 | true=>K 6
 | false=>match Nat.beq n 7 with
 | true=>K 7
 | false=>match Nat.beq n 8 with
 | true=>K 8
 | false=>match Nat.beq n 9 with
 | true=>K 9
 | false=>match Nat.beq n 10 with
 | true=>K 10
 | false=>match Nat.beq n 11 with
 | true=>K 11
 | false=>match Nat.beq n 12 with
 | true=>K 12
 | false=>match Nat.beq n 13 with
 | true=>K 13
 | false=>match Nat.beq n 14 with
 | true=>K 14
 | false=>match Nat.beq n 15 with
 | true=>K 15
 | false=>match Nat.beq n 16 with
 | true=>K 16
 | false=>match Nat.beq n 17 with
 | true=>K 17
 | false=>match Nat.beq n 18 with
 | true=>K 18
 | false=>match Nat.beq n 19 with
 | true=>K 19
 | false=>match Nat.beq n 20 with
 | true=>K 20
 | false=>match Nat.beq n 21 with
 | true=>K 21
 | false=>match Nat.beq n 22 with
 | true=>K 22
 | false=>match Nat.beq n 23 with
 | true=>K 23
 | false=>match Nat.beq n 24 with
 | true=>K 24
 | false=>match Nat.beq n 25 with
 | true=>K 25
 | false=>match Nat.beq n 26 with
 | true=>K 26
 | false=>match Nat.beq n 27 with
 | true=>K 27
 | false=>match Nat.beq n 28 with
 | true=>K 28
 | false=>match Nat.beq n 29 with
 | true=>K 29
 | false=>match Nat.beq n 30 with
 | true=>K 30
 | false=>match Nat.beq n 31 with
 | true=>K 31
 | false=>match Nat.beq n 32 with
 | true=>K 32
 | false=>match Nat.beq n 33 with
 | true=>K 33
 | false=>match Nat.beq n 34 with
 | true=>K 34
 | false=>match Nat.beq n 35 with
 | true=>K 35
 | false=>match Nat.beq n 36 with
 | true=>K 36
 | false=>match Nat.beq n 37 with
 | true=>K 37
 | false=>match Nat.beq n 38 with
 | true=>K 38
 | false=>match Nat.beq n 39 with
 | true=>K 39
 | false=>match Nat.beq n 40 with
 | true=>K 40
 | false=>match Nat.beq n 41 with
 | true=>K 41
 | false=>match Nat.beq n 42 with
 | true=>K 42
 | false=>match Nat.beq n 43 with
 | true=>K 43
 | false=>match Nat.beq n 44 with
 | true=>K 44
 | false=>match Nat.beq n 45 with
 | true=>K 45
 | false=>match Nat.beq n 46 with
 | true=>K 46
 | false=>match Nat.beq n 47 with
 | true=>K 47
 | false=>K n
def Ry (K:AV→Option ρ):AV→Option ρ
 | .junk=>K .junk
 | .bool b=>K (.bool b)
 | .int k n=>K (.int k n)
 | .str s=>K (.str s)
 | .nilp=>K .nilp
 | .ptr id off=>Sr (fun id=>Sr (fun off=>K (.ptr id off)) off) id
 | .pte id i off=>Sr (fun id=>Sr (fun off=>K (.pte id i off)) off) id
 | .vsl id off n c=>Sr (fun id=>K (.vsl id off n c)) id
 | .vel id off=>Sr (fun id=>K (.vel id off)) id
 | .rptr el off=>K (.rptr el off)
 | .nils=>K .nils
 | .sl size els=>K (.sl size els)
 | .row id n=>Sr (fun id=>K (.row id n)) id
 | .own id off n=>Sr (fun id=>K (.own id off n)) id
 | .stk id v n=>Sr (fun id=>K (.stk id v n)) id
 | .pts id v i off=>Sr (fun id=>Sr (fun off=>K (.pts id v i off)) off) id
 | .agg cs=>K (.agg cs)
 | .tup cs=>K (.tup cs)
 | .func f a b=>K (.func f a b)
 | .nilf=>K .nilf
 | .mapp id=>Sr (fun id=>K (.mapp id)) id
 | .mcl kd els=>K (.mcl kd els)
 | .mfn kd els=>K (.mfn kd els)
 | .ifc t a=>K (.ifc t a)
 | .nili=>K .nili
def Fg (g:(AV→Option ρ)→AV→Option ρ):(List AV→Option ρ)→List AV→Option ρ
 | K,[]=>K []
 | K,a :: l=>g (fun a=>Fg g (fun l=>K (a :: l)) l) a
def Ru (K:AV→Option ρ):AV→Option ρ
 | .agg cs=>Fg Ry (fun cs=>K (.agg cs)) cs
 | .func f a b=>Fg Ry (fun a=>Fg Ry (fun b=>K (.func f a b)) b) a
 | a=>Ry K a
def A09:(List (List AV)→Option ρ)→List (List AV)→Option ρ
 | K,[]=>K []
 | K,el :: l=>Fg Ru (fun el=>A09 (fun l=>K (el :: l)) l) el
def force (K:AV→Option ρ):AV→Option ρ
 | .tup cs=>Fg Ru (fun cs=>K (.tup cs)) cs
 | .mfn kd els=>A09 (fun els=>K (.mfn kd els)) els
 | a=>Ru K a
def A8w (K:Ob→Option ρ):Ob→Option ρ
 | .var t cs=>match Nat.beq t 1000001 with
   | true=>K (.var t cs)
   | false=>Fg Ru (fun cs=>K (.var t cs)) cs
 | .row e size els=>K (.row e size els)
 | .arr size els=>K (.arr size els)
 | .stk v e size els=>K (.stk v e size els)
 | .mp kd frz els=>K (.mp kd frz els)
 | .mpo kd els=>A09 (fun els=>K (.mpo kd els)) els
def C5:(Hp→Option ρ)→Hp→Option ρ
 | K,[]=>K []
 | K,o :: l=>A8w (fun o=>C5 (fun l=>K (o :: l)) l) o
def Xu:(List Nat→Option ρ)→List Nat→Option ρ
 | K,[]=>K []
 | K,a :: l=>Sr (fun a=>Xu (fun l=>K (a :: l)) l) a
def Ah5 {α:Type} (K:List α→Option ρ) (v:α):List α→Nat→Option ρ
 | [],_=>K []
 | _ :: l,0=>K (v :: l)
 | a :: l,n+1=>Ah5 (fun l=>K (a :: l)) v l n
def Ls (tm:Tm) (d:Option Tmp) (v:AV) (K:Tm→Option ρ):Option ρ:=match d with
 | some d=>force (fun v=>Ah5 K v tm d) v
 | none=>K tm
def M1 (b:Option Bool) (cs:List AV) (K:AV→Option ρ):Option ρ:=match b with
 | some true=>K (.agg cs)
 | some false=>match cs with
   | [a]=>K a
   | _=>none
 | none=>none
def sub (l:List AV) (off n:Nat) (K:List AV→Option ρ):Option ρ:=bif decide (off+n≤l.length) then K ((l.drop off).take n) else none
def load (P:Program) (hp:Hp) (t:TypeId) (K:AV→Option ρ):AV→Option ρ
 | .ptr id off=>match nth? hp id with
   | some (.var _ cs)=>sub cs off (P.cellsOf t) fun cs=>M1 (Kr P t) cs K
   | _=>none
 | .vel id off=>match nth? hp id with
   | some (.var _ cs)=>sub cs off (P.cellsOf t) fun cs=>M1 (Kr P t) cs K
   | _=>none
 | .pte id i off=>match nth? hp id with
   | some (.arr _ els)=>match nth? els i with
     | some el=>sub el off (P.cellsOf t) fun cs=>M1 (Kr P t) cs K
     | none=>none
   | _=>none
 | .pts id ver i off=>match nth? hp id with
   | some (.stk v _ _ els)=>match decide (v=ver) with
     | true=>match nth? els i with
       | some el=>sub el off (P.cellsOf t) fun cs=>M1 (Kr P t) cs K
       | none=>none
     | false=>none
   | _=>none
 | .rptr el off=>sub el off (P.cellsOf t) fun cs=>M1 (Kr P t) cs K
 | _=>none
def zero (P:Program) (t:TypeId):Option AV:=match (P.info? t) with
 | some i=>match i.zero with
   | some v=>some (lit v)
   | none=>none
 | none=>none
def A0b (op:BinOp) (k:IntKind) (a b:Int) (K:AV→Option ρ):Option ρ:=match op with
 | .add=>K (.int k (k.wrap (a+b)))
 | .sub=>K (.int k (k.wrap (a - b)))
 | .mul=>K (.int k (k.wrap (a*b)))
 | .quo=>bif decide (b=0) then none else K (.int k (k.wrap (a.tdiv b)))
 | .rem=>bif decide (b=0) then none else K (.int k (a.tmod b))
 | .eql=>K (.bool (a==b))
 | .neq=>K (.bool (a != b))
 | .lss=>K (.bool (decide (a < b)))
 | .leq=>K (.bool (decide (a≤b)))
 | .gtr=>K (.bool (decide (b < a)))
 | .geq=>K (.bool (decide (b≤a)))
 | _=>none
def X6 (a b c:Int):Int:=if(if a < b then b else a) < c then c else(if a < b then b else a)
def Adk (a b c:Int):Int:=if c < (if b < a then b else a) then c else(if b < a then b else a)
def Uv:Nat→List Field→Bool
 | _,[]=>true
 | n,f :: fs=>decide (f.name≠ "_")&&decide (f.offset=n)&&Uv (n+1) fs
def Y2 (P:Program) (t:TypeId):Option (List Field):=match P.underlying t with
 | some (.struct fs)=>match Uv 0 fs.toList&&!P.stoodInHeld t&&!P.eqGuardType P.depth t with
   | true=>some fs.toList
   | false=>none
 | _=>none
def eqs (P:Program):(Bool→Option ρ)→List Field→List AV→List AV→Option ρ
 | K,[],[],[]=>K true
 | K,f :: fs,x :: xs,y :: ys=>match P.underlying f.type with
   | some .bool=>match x with
     | .bool a=>match y with
       | .bool b=>eqs P (fun c=>K ((a==b)&&c)) fs xs ys
       | _=>none
     | _=>none
   | some (.int _)=>match x with
     | .int k a=>match y with
       | .int k' b=>match decide (k=k') with
         | true=>eqs P (fun c=>K ((a==b)&&c)) fs xs ys
         | false=>none
       | _=>none
     | _=>none
   | some .string=>match x with
     | .str a=>match y with
       | .str b=>eqs P (fun c=>K ((a==b)&&c)) fs xs ys
       | _=>none
     | _=>none
   | _=>none
 | _,_,_,_=>none
def A3r (P:Program) (t:TypeId) (op:BinOp) (K:AV→Option ρ):AV→AV→Option ρ
 | .int k a,.int k' b=>match decide (k=k') with
   | true=>A0b op k a b K
   | false=>none
 | .str a,.str b=>match op with
   | .eql=>K (.bool (a==b))
   | .neq=>K (.bool (!(a==b)))
   | .add=>bif decide (a.length+b.length≤140737488355328) then K (.str (a++b)) else none
   | _=>none
 | .bool a,.bool b=>match P.underlying t with
   | some .bool=>match op with
     | .eql=>K (.bool (a==b))
     | .neq=>K (.bool (!(a==b)))
     | _=>none
   | _=>none
 | .agg xs,.agg ys=>match Y2 P t with
   | some fs=>match op with
     | .eql=>eqs P (fun c=>K (.bool c)) fs xs ys
     | .neq=>eqs P (fun c=>K (.bool (!c))) fs xs ys
     | _=>none
   | none=>none
 | _,_=>none
def A7v (K:Nat→Option ρ):AV→Option ρ
 | .nils=>K 0
 | .sl _ els=>K els.length
 | .row _ n=>K n
 | .own _ _ n=>K n
 | .stk _ _ n=>K n
 | _=>none
def Vi (K:AV→Option ρ):AV→Nat→Option ρ
 | .ptr id off,k=>K (.ptr id (off+k))
 | .pte id i off,k=>K (.pte id i (off+k))
 | .pts id v i off,k=>K (.pts id v i (off+k))
 | .rptr cs off,k=>K (.rptr cs (off+k))
 | _,_=>none
def Rx (size n:Nat) (els:List (List AV)) (i:Int) (sz:Nat) (K:AV→Option ρ):Option ρ:=match decide (size=sz)&&decide (0 < sz) with
 | true=>bif decide (0≤i)&&decide (i < n) then match nth? els i.toNat with
  | some el=>K (.rptr el 0)
  | none=>none
   else none
 | false=>none
def Vj (i:Int) (K:Nat→Option ρ):Nat→Option ρ
 | 0=>none
 | n+1=>bif decide (i=(n:Int)) then K n else Vj i K n
def Ab1 (P:Program) (t:TypeId):Option (Nat×TypeId):=match P.underlying t with
 | some (.array n e)=>some (n,e)
 | _=>none
def P9 (P:Program) (hp:Hp) (t:TypeId) (x:AV) (i:Int) (K:AV→Option ρ):Option ρ:=match Hc P t with
 | none=>match Ab1 P t with
   | some p=>match decide (0 < P.cellsOf p.2) with
     | true=>Vj i (fun k=>Vi K x (k*P.cellsOf p.2)) p.1
     | false=>none
   | none=>none
 | some e=>match x with
   | .sl size els=>Rx size els.length els i (P.cellsOf e) K
   | .row id n=>match nth? hp id with
     | some (.row _ size els)=>Rx size n els i (P.cellsOf e) K
     | _=>none
   | .own id off n=>match nth? hp id with
     | some (.arr size els)=>match decide (size=P.cellsOf e)&&decide (0 < size) with
       | true=>bif decide (0≤i)&&decide (i < n)&&decide (off+n≤els.length) then K (.pte id (off+i.toNat) 0) else none
       | false=>none
     | _=>none
   | .vsl id off n _=>match decide (P.cellsOf e=1) with
     | true=>bif decide (0≤i)&&decide (i < n) then K (.vel id (off+i.toNat)) else none
     | false=>none
   | .stk id ver n=>match nth? hp id with
     | some (.stk v _ size els)=>match decide (v=ver)&&decide (size=P.cellsOf e)&&decide (0 < size) with
       | true=>bif decide (0≤i)&&decide (i < n) then K (.pts id ver i.toNat 0) else none
       | false=>none
     | _=>none
   | _=>none
def Eg (hp:Hp) (size:Nat):AV→Option (List (List AV))
 | .nils=>some []
 | .sl s els=>match decide (s=size) with | true=>some els | false=>none
 | .row id n=>match nth? hp id with
   | some (.row _ s els)=>match decide (s=size) with | true=>some (els.take n) | false=>none
   | _=>none
 | .own id off n=>match nth? hp id with
   | some (.arr s els)=>match decide (s=size) with | true=>some ((els.drop off).take n) | false=>none
   | _=>none
 | .stk id ver n=>match nth? hp id with
   | some (.stk v _ s els)=>match decide (v=ver)&&decide (s=size) with | true=>some (els.take n) | false=>none
   | _=>none
 | _=>none
def A7f:List AV→Bool
 | [.int .u8 _]=>true
 | _=>false
def Zw:List AV→UInt8
 | [.int .u8 n]=>UInt8.ofNat n.toNat
 | _=>0
def Nt (n:Nat) (lo hi:Option AV) (K:Nat→Nat→Option ρ):Option ρ :=
 match hi with
 | none=>match lo with
   | none=>K 0 n
   | some (.int _ l)=>bif decide (0≤l)&&decide (l≤n) then K l.toNat n else none
   | _=>none
 | some (.int _ h)=>match lo with
   | none=>bif decide (0≤h)&&decide (h≤n) then K 0 h.toNat else none
   | some (.int _ l)=>bif decide (0≤h)&&decide (h≤n)&&decide (0≤l)&&decide (l≤h) then K l.toNat h.toNat else none
   | _=>none
 | _=>none
def Vw (hp:Hp) (x:AV) (sz:Nat) (lo hi:Option AV) (K:AV→Option ρ):Option ρ:=match x with
 | .sl size els=>match decide (size=sz) with
   | true=>Nt els.length lo hi fun l h=>K (.sl size ((els.take h).drop l))
   | false=>none
 | .row id n=>match nth? hp id with
   | some (.row _ size els)=>match decide (size=sz) with
     | true=>Nt n lo hi fun l h=>K (.sl size (((els.take n).take h).drop l))
     | false=>none
   | _=>none
 | .own id off n=>match nth? hp id with
   | some (.arr size els)=>match decide (size=sz) with
     | true=>Nt n lo hi fun l h=>K (.own id (off+l) (h - l))
     | false=>none
   | _=>none
 | .stk id ver n=>match nth? hp id with
   | some (.stk v _ size els)=>match decide (v=ver)&&decide (size=sz) with
     | true=>match lo with
       | none=>Nt n none hi fun l h=>match l with
         | 0=>K (.stk id ver h)
         | _+1=>none
       | some _=>none
     | false=>none
   | _=>none
 | _=>none
def Wd (P:Program) (t:TypeId) (tm:Tm):List AV→List (Nat×Operand)→Option (List AV)
 | cs,[]=>some cs
 | cs,(i,x) :: rest=>match T2 P t i with
   | none=>none
   | some (off,ft)=>match (ev tm x).cells.all AV.one&&decide (off+(ev tm x).cells.length≤cs.length)&&decide ((ev tm x).cells.length=P.cellsOf ft) with
     | true=>Wd P t tm (cs.take off++((ev tm x).cells++cs.drop (off+(ev tm x).cells.length))) rest
     | false=>none
def V8 (sz:Nat) (tm:Tm):List AV→List (Nat×Operand)→Option (List AV)
 | cs,[]=>some cs
 | cs,(i,x) :: rest=>match (ev tm x).cells.all AV.one&&decide (i*sz+(ev tm x).cells.length≤cs.length)&&decide ((ev tm x).cells.length=sz) with
   | true=>V8 sz tm (cs.take (i*sz)++((ev tm x).cells++cs.drop (i*sz+(ev tm x).cells.length))) rest
   | false=>none
def Ea (P:Program) (tys:List TypeId) (hp:Hp) (size:Nat) (tm:Tm) (zc:List AV):Nat→Nat→List (Nat×Operand)→Option (List (List AV))
 | 0,_,[]=>some []
 | 0,_,_ :: _=>none
 | m+1,k,[]=>match Ea P tys hp size tm zc m (k+1) [] with
   | some l=>some (zc :: l)
   | none=>none
 | m+1,k,(i,x) :: rest=>match decide (i=k) with
   | true=>match decide ((ev tm x).cells.length=size)&&(ev tm x).cells.all AV.one with
     | true=>match D7 hp (Nk P tys (ev tm x).cells) with
       | some c=>match Ea P tys hp size tm zc m (k+1) rest with
         | some l=>some (c :: l)
         | none=>none
       | none=>none
     | false=>none
   | false=>match Ea P tys hp size tm zc m (k+1) ((i,x) :: rest) with
     | some l=>some (zc :: l)
     | none=>none
def W8 (P:Program) (t:TypeId):Option (TypeId×TypeId):=match P.underlying t with
 | some (.map k e)=>some (k,e)
 | _=>none
def Aht (P:Program) (kt:TypeId):Option (Option IntKind):=match P.underlying kt with
 | some (.int k)=>some (some k)
 | some .string=>some none
 | _=>none
def R2:AV→Option (Option IntKind)
 | .int k _=>some (some k)
 | .str _=>some none
 | _=>none
def A1c (P:Program) (kt:TypeId) (kd:Option IntKind) (k:AV):Bool:=decide (Aht P kt=some kd)&&decide (R2 k=some kd)
def Lu:AV→AV→Bool
 | .int k n,.int k' m=>decide (k=k')&&decide (n=m)
 | .str s,.str u=>s==u
 | _,_=>false
def Fw (z:AV):List (List AV)→AV→AV
 | [] ,_=>z
 | [k',v] :: l,k=>bif Lu k k' then v else Fw z l k
 | _ :: l,k=>Fw z l k
def Id:List (List AV)→AV→Bool
 | [],_=>false
 | [k',_] :: l,k=>bif Lu k k' then true else Id l k
 | _ :: l,k=>Id l k
def Hh:List (List AV)→AV→Nat
 | [],_=>0
 | [k',_] :: l,k=>bif Lu k k' then 0 else Hh l k+1
 | _ :: l,k=>Hh l k+1
def N6:List (List AV)→AV→AV→List (List AV)
 | [],k,v=>[[k,v]]
 | [k',u] :: l,k,v=>bif Lu k k' then [k',v] :: l else [k',u] :: N6 l k v
 | el :: l,k,v=>el :: N6 l k v
def Rc (z:AV):List (List AV)→AV→List (List AV)
 | [],k=>[[k,z]]
 | [k',u] :: l,k=>bif Lu k k' then [k',u] :: l else [k',u] :: Rc z l k
 | el :: l,k=>el :: Rc z l k
def Wi:List (List AV)→Nat→AV→List (List AV)
 | [],_,_=>[]
 | [k',_] :: l,0,v=>[k',v] :: l
 | el :: l,0,_=>el :: l
 | el :: l,n+1,v=>el :: Wi l n v
def Nn (hp:Hp):AV→Option (Option IntKind×List (List AV))
 | .mapp id=>match nth? hp id with
   | some (.mp kd _ els)=>some (kd,els)
   | some (.mpo kd els)=>some (kd,els)
   | _=>none
 | .mcl kd els=>some (kd,els)
 | .mfn kd els=>some (kd,els)
 | _=>none
def Aqj (P:Program) (t:TypeId):Bool:=match P.underlying t with
 | some (.func ..)=>true
 | _=>false
def Zg (P:Program) (hp:Hp) (t:TypeId) (m k:AV) (ok:Bool) (K:AV→Option ρ):Option ρ:=match W8 P t with
 | some (kt,et)=>match zero P et with
   | some z=>match z.one with
     | true=>match Nn hp m with
       | some (kd,els)=>match A1c P kt kd k with
         | true=>match ok with
           | true=>K (.tup [Fw z els k,.bool (Id els k)])
           | false=>K (Fw z els k)
         | false=>none
       | none=>none
     | false=>none
   | none=>none
 | none=>none
def Akh (K K':Option ρ):AV→AV→Option ρ
 | .int k n,.int k' m=>match decide (k=k') with
   | true=>bif decide (n=m) then K else K'
   | false=>K'
 | .str s,.str u=>bif s==u then K else K'
 | _,_=>K'
def Wa (z:AV) (K:AV→Bool→Option ρ):List (List AV)→AV→Option ρ
 | [],_=>K z false
 | [k',v] :: l,k=>Akh (K v true) (Wa z K l k) k k'
 | _ :: l,k=>Wa z K l k
def Apy (hp:Hp):AV→Bool
 | .mapp id=>match nth? hp id with
   | some (.mpo _ _)=>true
   | _=>false
 | .mfn _ _=>true
 | _=>false
def T7 (P:Program) (hp:Hp) (t:TypeId) (m k:AV) (ok:Bool) (K:AV→Option ρ):Option ρ:=Ry (fun k=>match W8 P t with
 | some (kt,et)=>match zero P et with
   | some z=>Ry (fun z=>match z.one with
     | true=>match Nn hp m with
       | some (kd,els)=>match A1c P kt kd k with
         | true=>match Apy hp m with
           | true=>match ok with
             | true=>Wa z (fun v b=>K (.tup [v,.bool b])) els k
             | false=>Wa z (fun v _=>K v) els k
           | false=>match ok with
             | true=>K (.tup [Fw z els k,.bool (Id els k)])
             | false=>K (Fw z els k)
         | false=>none
       | none=>none
     | false=>none) z
   | none=>none
 | none=>none) k
def Zu (P:Program) (t:TypeId):Option Bool:=match P.underlying t with
 | some (.interface _)=>some true
 | some _=>some false
 | none=>none
def Wp (P:Program) (a:TypeId) (ok:Bool) (x:AV) (K:AV→Option ρ):Option ρ:=match Zu P a with
 | some false=>match x with
   | .ifc t v=>match decide (t=a) with
     | true=>match ok with
       | true=>K (.tup [v,.bool true])
       | false=>K v
     | false=>match ok with
       | true=>match zero P a with
         | some z=>K (.tup [z,.bool false])
         | none=>none
       | false=>none
   | .nili=>match ok with
     | true=>match zero P a with
       | some z=>K (.tup [z,.bool false])
       | none=>none
     | false=>none
   | _=>none
 | _=>none
def Bs (P:Program) (tm:Tm) (hp:Hp) (o:Op) (K:AV→Option ρ):Option ρ:=match o with
 | .move x=>K (ev tm x)
 | .assign x=>K (ev tm x)
 | .pick c a b=>match ev tm c with
   | .bool t=>bif t then K (ev tm a) else K (ev tm b)
   | _=>none
 | .binOp op t x y _=>A3r P t op K (ev tm x) (ev tm y)
 | .unOp .not _ x=>match ev tm x with
   | .bool b=>K (.bool (!b))
   | _=>none
 | .unOp .neg _ x=>match ev tm x with
   | .int k n=>K (.int k (k.wrap (0 - n)))
   | _=>none
 | .convert src dst x=>match P.underlying dst with
   | some (.int k)=>match (P.underlying src).isSome with
     | true=>match ev tm x with
       | .int _ n=>K (.int k (k.wrap n))
       | _=>none
     | false=>none
   | some .string=>match P.underlying src with
     | some (.int _)=>match ev tm x with
       | .int _ n=>bif decide (0≤n)&&decide (n < 128) then K (.str [UInt8.ofNat n.toNat]) else none
       | _=>none
     | some (.slice et)=>match P.underlying et with
       | some (.int .u8)=>match Eg hp 1 (ev tm x) with
         | some els=>bif els.all A7f&&decide (els.length≤140737488355328) then K (.str (els.map Zw)) else none
         | none=>none
       | _=>none
     | _=>none
   | _=>none
 | .nilCheck x=>match ev tm x with
   | .ptr id off=>K (.ptr id off)
   | .pte id i off=>K (.pte id i off)
   | .pts id v i off=>K (.pts id v i off)
   | .rptr el off=>K (.rptr el off)
   | .func f a b=>K (.func f a b)
   | _=>none
 | .build t ps=>match P.underlying t with
   | some (.struct fs)=>match fs.toList.all (fun f=>(P.info? f.type).isSome) with
     | true=>match zero P t with
       | some (.agg z)=>match Wd P t tm z ps.toList with
         | some cs=>K (.agg cs)
         | none=>none
       | _=>none
     | false=>none
   | some (.array _ et)=>match (P.info? et).isSome with
     | true=>match zero P t with
       | some (.agg z)=>match V8 (P.cellsOf et) tm z ps.toList with
         | some cs=>K (.agg cs)
         | none=>none
       | _=>none
     | false=>none
   | _=>none
 | .buildSlice t n ps=>match Hc P t with
   | some e=>match decide (n*P.cellsOf e≤16777216) with
     | true=>match zero P e with
       | some z=>match decide (z.cells.length=P.cellsOf e)&&z.cells.all AV.one&&decide (0 < P.cellsOf e) with
         | true=>match D7 [] (Nk P (Ip P 6 e) z.cells) with
           | some zc=>match Ea P (Ip P 6 e) hp (P.cellsOf e) tm zc n 0 ps.toList with
             | some els=>K (.sl (P.cellsOf e) els)
             | none=>none
           | none=>none
         | false=>none
       | none=>none
     | false=>none
   | none=>none
 | .makeSlice t n c=>match Hc P t with
   | some e=>match ev tm n with
     | .int .i64 l=>match ev tm c with
       | .int .i64 l'=>match zero P e with
         | some z=>match decide (z.cells.length=P.cellsOf e)&&z.cells.all AV.one with
           | true=>match D7 [] (Nk P (Ip P 6 e) z.cells) with
             | some zc=>bif decide (0≤l)&&decide (l=l')&&decide (P.bytesOf e*l≤140737488355328) then
              K (.sl (P.cellsOf e) (List.replicate l.toNat zc)) else none
             | none=>none
           | false=>none
         | none=>none
       | _=>none
     | _=>none
   | none=>none
 | .load t a=>load P hp t K (ev tm a)
 | .fieldAddr t a f=>match T2 P t f with
   | some p=>match decide (0 < P.cellsOf p.2) with
     | true=>Vi K (ev tm a) p.1
     | false=>none
   | none=>none
 | .field t x f=>match T2 P t f with
   | some p=>match ev tm x with
     | .agg cs=>sub cs p.1 (P.cellsOf p.2) fun cs=>M1 (Kr P p.2) cs K
     | _=>none
   | none=>none
 | .indexAddr t x i=>match ev tm i with
   | .int _ i=>P9 P hp t (ev tm x) i K
   | _=>none
 | .index t x i=>match ev tm i with
   | .int _ i=>match P.underlying t with
    | some .string=>match ev tm x with
     | .str s=>bif decide (0≤i)&&decide (i < s.length) then match nth? s i.toNat with
      | some b=>K (.int .u8 b.toNat)
      | none=>none
       else none
     | _=>none
    | some (.array n et)=>match ev tm x with
     | .agg cs=>Vj i (fun k=>sub cs (k*P.cellsOf et) (P.cellsOf et) fun cs=>M1 (Kr P et) cs K) n
     | _=>none
    | _=>none
   | _=>none
 | .slice t x lo hi none=>match P.underlying t with
   | some .string=>match ev tm x with
     | .str s=>Nt s.length (lo.map (ev tm)) (hi.map (ev tm)) fun l h=>K (.str ((s.take h).drop l))
     | _=>none
   | some (.slice et)=>match decide (0 < P.cellsOf et) with
     | true=>Vw hp (ev tm x) (P.cellsOf et) (lo.map (ev tm)) (hi.map (ev tm)) K
     | false=>none
   | _=>none
 | .extract t k=>match ev tm t with
   | .tup cs=>match nth? cs k with
     | some v=>K v
     | none=>none
   | _=>none
 | .makeFunc (.func f) a b=>K (.func f (a.toList.map (ev tm)) (b.toList.map (ev tm)))
 | .call c=>match c.callee with
   | .builtin .len=>match c.args with
     | ⟨[x]⟩=>match c.argTypes with
       | ⟨[t]⟩=>match P.underlying t with
         | some .string=>match ev tm x with
           | .str s=>K (.int .i64 s.length)
           | _=>none
         | some (.slice _)=>A7v (fun n=>K (.int .i64 n)) (ev tm x)
         | _=>none
       | _=>none
     | _=>none
   | .builtin .min=>match c.args with
     | ⟨[x,y]⟩=>match ev tm x with
       | .int k a=>match ev tm y with
         | .int k' b=>match decide (k=k') with
           | true=>K (.int k (if b < a then b else a))
           | false=>none
         | _=>none
       | _=>none
     | ⟨[x,y,z]⟩=>match ev tm x with
       | .int k a=>match ev tm y with
         | .int k' b=>match ev tm z with
           | .int k2 c=>match decide (k=k')&&decide (k=k2) with
             | true=>K (.int k (Adk a b c))
             | false=>none
           | _=>none
         | _=>none
       | _=>none
     | _=>none
   | .builtin .max=>match c.args with
     | ⟨[x,y]⟩=>match ev tm x with
       | .int k a=>match ev tm y with
         | .int k' b=>match decide (k=k') with
           | true=>K (.int k (if a < b then b else a))
           | false=>none
         | _=>none
       | _=>none
     | ⟨[x,y,z]⟩=>match ev tm x with
       | .int k a=>match ev tm y with
         | .int k' b=>match ev tm z with
           | .int k2 c=>match decide (k=k')&&decide (k=k2) with
             | true=>K (.int k (X6 a b c))
             | false=>none
           | _=>none
         | _=>none
       | _=>none
     | _=>none
   | _=>none
 | .lookup t m x ok=>T7 P hp t (ev tm m) (ev tm x) ok K
 | .makeInterface t x=>match Zu P t with
   | some false=>match N7 hp (ev tm x) with
     | some a=>K (.ifc t a)
     | none=>none
   | _=>none
 | .typeAssert x _ a ok=>Wp P a ok (ev tm x) K
 | _=>none
abbrev Ct:=Bool→FuncId→List AV→Hp→Option (AV×Hp)
def M8 (l:List AV) (off:Nat) (xs:List AV):List AV:=l.take off++(xs++l.drop (off+xs.length))
def Ki (H:Bu) (f:FuncId) (d:Option Tmp):Bool:=match d with
 | some d=>H.obj f d
 | none=>false
def M0 (H:Bu) (f:FuncId) (d:Option Tmp):Bool:=match d with
 | some d=>H.arr f d
 | none=>false
def Ly (H:Bu) (f:FuncId) (d:Option Tmp):Bool:=match d with
 | some d=>H.stk f d
 | none=>false
def A7u (b:Bool) (hp:Hp) (K:AV→Hp→Option ρ) (v:AV):Option ρ:=match b with
 | false=>K v hp
 | true=>match v with
   | .stk id ver n=>match nth? hp id with
     | some (.stk v e size els)=>match decide (v=ver) with
       | true=>C5 (K (.stk id (ver+1) n)) (C7 hp id (.stk (ver+1) e size (els.take n)))
       | false=>none
     | _=>none
   | _=>none
def Sq (P:Program) (t:TypeId) (row arr:Bool) (hp:Hp) (K:AV→Hp→Option ρ) (v:AV):Option ρ:=match row with
 | true=>match Hc P t with
   | some e=>match v with
     | .sl size els=>match decide (size=P.cellsOf e)&&decide (0 < size) with
       | true=>match arr with
         | true=>C5 (fun hp'=>K (.stk hp.length 0 els.length) hp') (hp++[.stk 0 e size els])
         | false=>C5 (fun hp'=>K (.row hp.length els.length) hp') (hp++[.row e size els])
       | false=>none
     | _=>none
   | none=>none
 | false=>match arr with
   | true=>match v with
     | .sl size els=>C5 (fun hp'=>K (.own hp.length 0 els.length) hp') (hp++[.arr size els])
     | _=>none
   | false=>K v hp
def Q3 (H:Bu) (f:FuncId) (d:Option Tmp):Bool:=match d with
 | some d=>H.ado f d
 | none=>false
def X2 (k:Nat):AV→AV
 | .ptr id off=>.ptr (k+id) off
 | .pte id i off=>.pte (k+id) i off
 | .vsl id off n c=>.vsl (k+id) off n c
 | .vel id off=>.vel (k+id) off
 | .row id n=>.row (k+id) n
 | .own id off n=>.own (k+id) off n
 | .stk id v n=>.stk (k+id) v n
 | .pts id v i off=>.pts (k+id) v i off
 | .mapp id=>.mapp (k+id)
 | .func f [] []=>.func f [] []
 | .func _ _ _=>.junk
 | .agg _=>.junk
 | .tup _=>.junk
 | .mfn _ _=>.junk
 | a=>a
def X4 (k:Nat):AV→AV
 | .agg cs=>.agg (cs.map (X2 k))
 | .func f a b=>.func f (a.map (X2 k)) (b.map (X2 k))
 | a=>X2 k a
def A73 (k:Nat):AV→AV
 | .tup cs=>.tup (cs.map (X4 k))
 | .mfn kd els=>.mfn kd (els.map (List.map (X4 k)))
 | a=>X4 k a
def Mk (k:Nat):Ob→Ob
 | .var t cs=>.var t (cs.map (X4 k))
 | .mpo kd els=>.mpo kd (els.map (List.map (X4 k)))
 | o=>o
def Ca (P:Program) (z:Nat→Bool):Nat→List TypeId→List AV→List AV×List Ob
 | n,t :: ts,.nils :: l=>match Hc P t with
   | some e=>match decide (0 < P.cellsOf e) with
     | true=>match z (P.cellsOf e) with
       | true=>(.sl (P.cellsOf e) [] :: (Ca P z n ts l).1,(Ca P z n ts l).2)
       | false=>(.row n 0 :: (Ca P z (n+1) ts l).1,.row e (P.cellsOf e) [] :: (Ca P z (n+1) ts l).2)
     | false=>(.nils :: (Ca P z n ts l).1,(Ca P z n ts l).2)
   | none=>(.nils :: (Ca P z n ts l).1,(Ca P z n ts l).2)
 | n,_ :: ts,a :: l=>(a :: (Ca P z n ts l).1,(Ca P z n ts l).2)
 | _,_,l=>(l,[])
def E4 (P:Program) (z:Nat→Bool):Nat→List Ob→List Ob×List Ob
 | n,.var t cs :: l =>
  (.var t (Ca P z n (Ip P 6 t) cs).1 :: (E4 P z (n+(Ca P z n (Ip P 6 t) cs).2.length) l).1,
   (Ca P z n (Ip P 6 t) cs).2++(E4 P z (n+(Ca P z n (Ip P 6 t) cs).2.length) l).2)
 | n,o :: l=>(o :: (E4 P z n l).1,(E4 P z n l).2)
 | _,[]=>([],[])
def Uz (P:Program) (z:Nat→Bool) (b:Bool) (hp:Hp):Hp:=match b with
 | true=>(E4 P z hp.length hp).1++(E4 P z hp.length hp).2
 | false=>hp
def Zo (P:Program) (call:Ct) (g:FuncId) (hp:Hp) (ids:List Nat) (as:List AV) (K:AV→Hp→Option ρ):Option ρ :=
 Fg Ru (fun as=>C5 (fun hpR=>match call false g as hpR with
  | some (v,hpn)=>match decide (hpn.length=ids.length) with
    | true=>C5 (K (Ack (nth? ids) v)) (Xe P ids ids hpn hp)
    | false=>none
  | none=>none) (Q0 P (Lz ids 0) hp ids)) (as.map (Xf (Lz ids 0)))
def Ym (nr:Bool) (hp:Hp) (a:AV):AV:=match nr with
 | true=>a
 | false=>A1k hp a
def R5 (P:Program) (call:Ct) (g:FuncId) (nr:Bool) (raw:List AV) (hp:Hp) (K:AV→Hp→Option ρ):Option ρ:=match idB hp.length (Ce Ew raw) with
 | true=>Fg Ru (fun as=>match U7 hp 64 (Ce Ew as) [] with
   | some ids=>Xu (fun ids=>Zo P call g hp ids as K) ids
   | none=>none) (raw.map (Ym nr hp))
 | false=>none
def qA (ids:List Nat) (m k:Nat):Option Nat:=match nth? ids k with
 | some i=>some i
 | none=>some (m+(k - ids.length))
def Pw (P:Program) (q:Nat→Option Nat):List Nat→Hp→Hp→Hp
 | id :: l,o :: hpn,hp=>Pw P q l hpn (C7 hp id (N9 P q o))
 | [],hpn,hp=>hp++hpn.map (N9 P q)
 | _ :: _,[],hp=>hp
def A5f (P:Program) (call:Ct) (g:FuncId) (hp:Hp) (ids:List Nat) (as:List AV) (K:AV→Hp→Option ρ):Option ρ :=
 Fg Ru (fun as=>C5 (fun hpR=>match call true g as hpR with
  | some (v,hpn)=>match decide (ids.length≤hpn.length) with
    | true=>C5 (K (Ack (qA ids hp.length) v)) (Pw P (qA ids hp.length) ids hpn hp)
    | false=>none
  | none=>none) (Q0 P (Lz ids 0) hp ids)) (as.map (Xf (Lz ids 0)))
def Xq (P:Program) (call:Ct) (g:FuncId) (raw:List AV) (hp:Hp) (K:AV→Hp→Option ρ):Option ρ:=match idB hp.length (Ce Ew raw) with
 | true=>Fg Ru (fun as=>match U7 hp 64 (Ce Ew as) [] with
   | some ids=>Xu (fun ids=>A5f P call g hp ids as K) ids
   | none=>none) (raw.map (A1k hp))
 | false=>none
def A7h:Operand→Bool
 | .tmp _=>true
 | _=>false
def A0m (H:Bu) (f:FuncId) (fo:Operand) (g:FuncId):Bool:=H.inl f g || (A7h fo&&H.ind f)
def Yb (H:Bu) (f:FuncId) (fo:Operand) (g:FuncId):Bool:=H.upc f g&&!A7h fo
def Adi (hp:Hp):AV→Option (AV×Hp)
 | .mapp id=>match nth? hp id with
   | some (.mp kd _ els)=>some (.mcl kd els,C7 hp id (.mp kd true els))
   | _=>none
 | a=>match De hp a with
   | some v=>some (v,hp)
   | none=>none
def Ahq (P:Program) (hp:Hp) (t:TypeId) (m k x:AV) (K:AV→Hp→Option ρ):Option ρ:=match W8 P t with
 | some (kt,_)=>match m with
   | .mapp id=>match nth? hp id with
     | some (.mp kd false _)=>match A1c P kt kd k with
       | true=>match Adi hp x with
         | some (v,hp')=>match nth? hp' id with
           | some (.mp kd' false els)=>match decide (kd'=kd) with
             | true=>C5 (K .junk) (C7 hp' id (.mp kd false (N6 els k v)))
             | false=>none
           | _=>none
         | none=>none
       | false=>none
     | some (.mpo kd els)=>match A1c P kt kd k&&x.one with
       | true=>C5 (K .junk) (C7 hp id (.mpo kd (N6 els k x)))
       | false=>none
     | _=>none
   | _=>none
 | none=>none
def A7r (P:Program) (hp:Hp) (t:TypeId) (m k x:AV) (K:AV→Hp→Option ρ):Option ρ:=Ry (fun k=>Ahq P hp t m k x K) k
def Ai5 (P:Program) (hp:Hp) (t:TypeId) (m k:AV) (K:AV→Hp→Option ρ):Option ρ:=match W8 P t with
 | some (kt,et)=>match zero P et with
   | some z=>match De [] z with
     | some z=>match m with
       | .mapp id=>match nth? hp id with
         | some (.mp kd false els)=>match A1c P kt kd k with
           | true=>bif decide (els.length≤140737488355328) then C5 (K (.tup [Fw z els k,.int .i64 (Hh els k:Nat)])) (C7 hp id (.mp kd false (Rc z els k))) else none
           | false=>none
         | _=>none
       | _=>none
     | none=>none
   | none=>none
 | none=>none
def Add (P:Program) (hp:Hp) (t:TypeId) (m k:AV) (K:AV→Hp→Option ρ):Option ρ:=Ry (fun k=>Ai5 P hp t m k K) k
def Zh (hp:Hp) (m s x:AV) (K:AV→Hp→Option ρ):Option ρ:=match m with
 | .mapp id=>match nth? hp id with
   | some (.mp kd false els)=>match s with
     | .int .i64 n=>match De hp x with
       | some v=>bif decide (0≤n)&&decide (n < (els.length:Int)) then C5 (K .junk) (C7 hp id (.mp kd false (Wi els n.toNat v))) else none
       | none=>none
     | _=>none
   | _=>none
 | _=>none
def kd1:AV→Nat
 | .int _ _=>1
 | .str _=>2
 | .bool _=>3
 | _=>0
def eqL:List Nat→List Nat→Bool
 | [],[]=>true
 | a :: l,b :: m=>match Nat.beq a b with
   | true=>eqL l m
   | false=>false
 | _,_=>false
def Ami (pat:List Nat) (el:List AV):Bool:=eqL (el.map kd1) pat
def Qu (pat:List Nat) (els:List (List AV)):Bool:=els.all (Ami pat)
def noZ:List Nat→Bool
 | []=>true
 | k :: l=>match Nat.beq k 0 with
   | true=>false
   | false=>noZ l
def Aq4 (P:Program) (t:TypeId):Nat:=match P.underlying t with
 | some (.int _)=>1
 | some .string=>2
 | some .bool=>3
 | _=>0
def Sc (P:Program) (t:TypeId):List Nat:=match Hc P t with
 | some e=>(Ip P 9 e).map (Aq4 P)
 | none=>[]
def A3f (a:Nat):List Nat→Nat→List (Nat×Nat)
 | [],z=>[(a,z)]
 | b :: l,z=>(a,b) :: A3f b l z
def Aod:List Nat→List (Nat×Nat)
 | []=>[]
 | a :: l=>A3f a l a
def Abd (q:Nat×Nat):List (Nat×Nat)→Bool
 | []=>true
 | r :: l=>match Nat.beq q.1 r.1&&Nat.beq q.2 r.2 with
   | true=>false
   | false=>Abd q l
def Yg (l:List (Nat×Nat)):Nat→List Nat→Bool
 | _,[]=>false
 | a,b :: m=>match Abd (a,b) l with
   | true=>true
   | false=>Yg l b m
def Ade (p q:List Nat):Bool:=match p with
 | []=>false
 | a :: l=>Yg (Aod q) a l
def Ab0 (P:Program) (g:FuncId) (as:List AV) (r:Option (AV×Hp)):Option (AV×Hp):=match P.funcs[g]? with
 | some fn=>match r with
   | some (.tup (.sl size els :: rest),[])=>match as with
     | .sl sz els' :: more=>match (Ade (Sc P (nth 0 fn.resultTypes.toList 0)) (Sc P (nth 0 fn.params.toList 0))&&(noZ (Sc P (nth 0 fn.resultTypes.toList 0))&&noZ (Sc P (nth 0 fn.params.toList 0))))&&(decide (size=(Sc P (nth 0 fn.resultTypes.toList 0)).length)&&(decide (sz=(Sc P (nth 0 fn.params.toList 0)).length)&&(rest.all V4&&more.all V4))) with
       | true=>bif Qu (Sc P (nth 0 fn.resultTypes.toList 0)) els&&Qu (Sc P (nth 0 fn.params.toList 0)) els' then(bif decide (els.length=0) then some (.tup (.sl size els :: rest),[]) else some (.tup (.own 0 0 els.length :: rest),[.arr size els])) else none
       | false=>none
     | _=>none
   | _=>none
 | none=>none
def Wn (P:Program) (b:Bool) (call:Ct) (g:FuncId) (as:List AV):Option (AV×Hp):=match b with
 | true=>Ab0 P g as (call false g as [])
 | false=>call true g as []
def Ab5 (tm:Tm):Option Operand→Bool
 | none=>true
 | some x=>match ev tm x with
   | .int _ _=>true
   | _=>false
def Agy (P:Program) (b:Bool) (t:TypeId):AV:=match b with
 | true=>Yn P t .nils
 | false=>.nils
def Bx (P:Program) (H:Bu) (call:Ct) (f:FuncId) (o:Oper) (tm:Tm) (hp:Hp) (K:AV→Hp→Option ρ):Option ρ:=match o.op with
 | .assign x=>match ev tm x with
   | .nils=>match Ki H f o.dst with
    | true=>match Hc P o.type with
      | some e=>match decide (0 < P.cellsOf e) with
        | true=>C5 (fun hp'=>K (.row hp.length 0) hp') (hp++[.row e (P.cellsOf e) []])
        | false=>none
      | none=>none
    | false=>match Ly H f o.dst with
      | true=>match Hc P o.type with
        | some e=>match decide (0 < P.cellsOf e) with
          | true=>C5 (fun hp'=>K (.stk hp.length 0 0) hp') (hp++[.stk 0 e (P.cellsOf e) []])
          | false=>none
        | none=>none
      | false=>K (Agy P (Q3 H f o.dst) o.type) hp
   | _=>K (ev tm x) hp
 | .buildSlice t n ps=>Bs P tm hp (.buildSlice t n ps) fun v=>Sq P t (Ki H f o.dst) (M0 H f o.dst) hp K v
 | .makeSlice t n c=>Bs P tm hp (.makeSlice t n c) fun v=>Sq P t (Ki H f o.dst) (M0 H f o.dst) hp K v
 | .alloc e=>match zero P e with
   | some z=>match decide (z.cells.length=P.cellsOf e)&&z.cells.all AV.one with
     | true=>C5 (fun hp'=>K (.ptr hp.length 0) hp') (hp++[.var e z.cells])
     | false=>none
   | none=>none
 | .box e x=>match (ev tm x).cells.all AV.one with
   | true=>C5 (fun hp'=>K (.ptr hp.length 0) hp') (hp++[.var e (ev tm x).cells])
   | false=>none
 | .store t a x=>match decide ((ev tm x).cells.length=P.cellsOf t)&&decide (0 < P.cellsOf t)&&(ev tm x).cells.all AV.one with
   | true=>match ev tm a with
     | .ptr id off=>match nth? hp id with
       | some (.var e cs)=>bif decide (off+P.cellsOf t≤cs.length) then C5 (K .junk) (C7 hp id (.var e (M8 cs off (ev tm x).cells))) else none
       | _=>none
     | .vel id off=>match nth? hp id with
       | some (.var e cs)=>bif decide (off+P.cellsOf t≤cs.length) then C5 (K .junk) (C7 hp id (.var e (M8 cs off (ev tm x).cells))) else none
       | _=>none
     | .pte id i off=>match nth? hp id with
       | some (.arr size els)=>match nth? els i with
         | some el=>match D7 hp (ev tm x).cells with
           | some c=>bif decide (off+P.cellsOf t≤el.length) then C5 (K .junk) (C7 hp id (.arr size (C7 els i (M8 el off c)))) else none
           | none=>none
         | none=>none
       | _=>none
     | .pts id ver i off=>match nth? hp id with
       | some (.stk v e size els)=>match decide (v=ver) with
         | true=>match nth? els i with
           | some el=>match D7 hp (ev tm x).cells with
             | some c=>bif decide (off+P.cellsOf t≤el.length) then C5 (K .junk) (C7 hp id (.stk v e size (C7 els i (M8 el off c)))) else none
             | none=>none
           | none=>none
         | false=>none
       | _=>none
     | _=>none
   | false=>none
 | .call c=>match c.callee with
   | .value fo=>match ev tm fo with
     | .func g a b=>match H.good.contains g with
       | true=>match A0m H f fo g with
         | true=>match Q3 H f o.dst with
           | true=>C5 (fun hp=>Xq P call g (a++Dl P c.argTypes.toList (c.args.toList.map (ev tm))++b) hp K) (Uz P (fun _=>false) (Yb H f fo g) hp)
           | false=>C5 (fun hp=>R5 P call g (H.raw g) (a++Dl P c.argTypes.toList (c.args.toList.map (ev tm))++b) hp K) (Uz P (fun _=>false) (Yb H f fo g) hp)
         | false=>match Q3 H f o.dst with
          | true=>match Fb hp (a++Dl P c.argTypes.toList (c.args.toList.map (ev tm))++b) with
            | some as=>match Wn P (M0 H f o.dst) call g as with
              | some (v,hpn)=>C5 (fun hp'=>K (A73 hp.length v) hp') (hp++hpn.map (Mk hp.length))
              | none=>none
            | none=>none
          | false=>match A6j (a++Dl P c.argTypes.toList (c.args.toList.map (ev tm))++b) with
           | false=>match Fb hp (a++Dl P c.argTypes.toList (c.args.toList.map (ev tm))++b) with
             | some as=>match call false g as [] with
               | some (v,[])=>K v hp
               | _=>none
             | none=>none
           | true=>match Eo hp (a++Dl P c.argTypes.toList (c.args.toList.map (ev tm))++b) with
             | some as=>match call false g as [] with
               | some (v,[])=>match flat v with
                 | true=>K v hp
                 | false=>none
               | _=>none
             | none=>none
       | false=>none
     | _=>none
   | .builtin .copy=>match c.args with
     | ⟨[d,x]⟩=>match c.argTypes with
       | ⟨[t,_]⟩=>match Hc P t with
         | some e=>match ev tm d with
           | .own id off n=>match nth? hp id with
             | some (.arr size els)=>match decide (size=P.cellsOf e)&&decide (0 < size) with
               | true=>match Eg hp size (ev tm x) with
                 | some news=>bif decide (off+n≤els.length) then C5 (K (.int .i64 ((Nat.min news.length n:Nat):Int))) (C7 hp id (.arr size (els.take off++(news.take n++els.drop (off+Nat.min news.length n))))) else none
                 | none=>none
               | false=>none
             | _=>none
           | _=>none
         | none=>none
       | _=>none
     | _=>none
   | .builtin .append=>match c.args with
     | ⟨[s,x]⟩=>match c.argTypes with
       | ⟨[t,t']⟩=>match decide (t=t') with
         | true=>match Hc P t with
           | some e=>match zero P e with
             | some z=>match decide (z.cells.length=P.cellsOf e)&&z.cells.all AV.one&&decide (0 < P.cellsOf e) with
               | true=>match Eg hp (P.cellsOf e) (ev tm x) with
                 | some news=>match ev tm s with
                   | .nils=>bif decide (news.length*(P.bytesOf e+1)≤140737488355328) then match M0 H f o.dst with
                     | false=>match Ki H f o.dst with
                      | false=>K (.sl (P.cellsOf e) news) hp
                      | true=>C5 (fun hp'=>K (.row hp.length news.length) hp') (hp++[.row e (P.cellsOf e) news])
                     | true=>bif decide (news.length=0) then K .nils hp else C5 (fun hp'=>K (.own hp.length 0 news.length) hp') (hp++[.arr (P.cellsOf e) news]) else none
                   | .row id n=>match nth? hp id with
                     | some (.row e' size els)=>match decide (e'=e)&&decide (size=P.cellsOf e) with
                       | true=>bif decide (n=els.length)&&decide ((els.length+news.length)*(P.bytesOf e+1)≤140737488355328) then
                        C5 (K (.row id (els.length+news.length))) (C7 hp id (.row e (P.cellsOf e) (els++news))) else none
                       | false=>none
                     | _=>none
                   | .stk id ver n=>match nth? hp id with
                     | some (.stk v e' size els)=>match Ly H f o.dst&&(decide (v=ver)&&decide (e'=e)&&decide (size=P.cellsOf e)) with
                       | true=>bif decide (n=els.length)&&decide ((els.length+news.length)*(P.bytesOf e+1)≤140737488355328) then
                        C5 (K (.stk id (ver+1) (els.length+news.length))) (C7 hp id (.stk (ver+1) e (P.cellsOf e) (els++news))) else none
                       | false=>none
                     | _=>none
                   | _=>none
                 | none=>none
               | false=>none
             | none=>none
           | none=>none
         | false=>none
       | _=>none
     | _=>none
   | _=>Bs P tm hp o.op fun v=>K v hp
 | .slice t x lo hi mx=>Bs P tm hp (.slice t x lo hi mx) fun v=>A7u (Ly H f o.dst) hp K v
 | .makeMap t r=>match W8 P t with
   | some (kt,et)=>match Ab5 tm r with
     | true=>match Aht P kt with
       | some kd=>match Aqj P et with
         | true=>C5 (fun hp'=>K (.mapp hp.length) hp') (hp++[.mpo kd []])
         | false=>C5 (fun hp'=>K (.mapp hp.length) hp') (hp++[.mp kd false []])
       | none=>none
     | false=>none
   | none=>none
 | .mapUpdate t m k x=>A7r P hp t (ev tm m) (ev tm k) (ev tm x) K
 | .insert t m k x=>A7r P hp t (ev tm m) (ev tm k) (ev tm x) K
 | .mapEntry t m k=>Add P hp t (ev tm m) (ev tm k) K
 | .entryStore _ m s x=>Zh hp (ev tm m) (ev tm s) (ev tm x) K
 | op=>Bs P tm hp op fun v=>K v hp
def put (tm:Tm) (d:Option Tmp) (v:AV):Tm:=match d with
 | some d=>C7 tm d v
 | none=>tm
def Xg (P:Program) (H:Bu) (call:Ct) (f:FuncId) (ops:List Oper) (o:Oper) (rest:Tm→Hp→(Tm→Hp→Option ρ)→Option ρ) (tm:Tm) (hp:Hp) (K:Tm→Hp→Option ρ):Option ρ:=match o.guard with
    | none=>Bx P H call f o tm hp fun v hp=>Ls tm o.dst v fun tm=>rest tm hp K
    | some (j,want)=>match (nth? ops j).bind (·.dst) with
      | none=>none
      | some t=>match nth .junk tm t with
        | .bool b=>match want with
          | true=>bif b then Bx P H call f o tm hp (fun v hp=>Ls tm o.dst v fun tm=>rest tm hp K) else(Ls tm o.dst (.tup []) fun tm=>rest tm hp K)
          | false=>bif b then(Ls tm o.dst (.tup []) fun tm=>rest tm hp K) else Bx P H call f o tm hp (fun v hp=>Ls tm o.dst v fun tm=>rest tm hp K)
        | .tup []=>Ls tm o.dst (.tup []) fun tm=>rest tm hp K
        | _=>none
noncomputable def U2 (P:Program) (H:Bu) (call:Ct) (f:FuncId) (ops:List Oper) (l:List Oper):Tm→Hp→(Tm→Hp→Option ρ)→Option ρ :=
 @List.rec Oper (fun _=>Tm→Hp→(Tm→Hp→Option ρ)→Option ρ) (fun tm hp K=>K tm hp) (fun o _ ih=>Xg P H call f ops o ih) l
inductive Cls where
 | P | R | C | A | G | W | S
 deriving DecidableEq
def A2a:List Operand→Bool
 | .const (.slice none 0 0) :: _=>true
 | _=>false
def cls (H:Bu) (f:FuncId) (o:Oper):Cls:=match o.op with
 | .assign _=>match Ki H f o.dst with
   | true=>.A
   | false=>match Ly H f o.dst with
     | true=>.W
     | false=>.P
 | .alloc _ | .box _ _=>.A
 | .load _ _ | .indexAddr _ _ _=>.R
 | .store _ _ _=>.S
 | .convert _ _ _=>.C
 | .buildSlice _ _ _=>match Ki H f o.dst || M0 H f o.dst with
   | true=>.A
   | false=>.C
 | .makeSlice _ _ _=>match Ki H f o.dst || M0 H f o.dst with
   | true=>.A
   | false=>.P
 | .slice _ _ _ _ _=>match Ly H f o.dst with
   | true=>.W
   | false=>.C
 | .call c=>match c.callee with
   | .value (.func g)=>match H.inl f g with
     | true=>match H.upc f g || Q3 H f o.dst with
       | true=>.W
       | false=>.S
     | false=>match Q3 H f o.dst with
       | true=>.A
       | false=>.C
   | .value (.tmp _)=>match H.ind f&&!Q3 H f o.dst with
     | true=>.S
     | false=>.W
   | .builtin .append=>match Ly H f o.dst with
     | true=>.W
     | false=>match Ki H f o.dst || M0 H f o.dst || !A2a c.args.toList with
       | true=>.G
       | false=>.C
   | .builtin .copy=>.S
   | .builtin .len=>.P
   | .builtin .min=>.P
   | .builtin .max=>.P
   | _=>.W
 | .move _ | .pick _ _ _ | .binOp _ _ _ _ _ | .unOp _ _ _ | .nilCheck _ | .build _ _ | .fieldAddr _ _ _ | .field _ _ _ | .index _ _ _ | .extract _ _ | .makeFunc _ _ _ | .typeAssert _ _ _ _=>.P
 | .lookup _ _ _ _=>.R
 | .makeInterface _ _=>.C
 | .makeMap _ _=>.A
 | _=>.W
def Fl (o:Oper) (j:Nat):Bool:=o.after.any fun e=>e.on==j&&Region.binds .any e
def Cv (P:Program) (H:Bu) (f:FuncId) (o:Oper) (tm:Tm) (hp:Hp):List Nat:=match cls H f o with
 | .S=>match o.op with
   | .call c=>match c.callee with
     | .value fo=>match ev tm fo with
       | .func g a b=>match U7 hp 64 (Ce Ew ((a++Dl P c.argTypes.toList (c.args.toList.map (ev tm))++b).map (Ym (H.raw g) hp))) [] with
         | some ids=>Ce Ew (a++Dl P c.argTypes.toList (c.args.toList.map (ev tm))++b)++ids
         | none=>[]
       | _=>[]
     | _=>Ce Ri (o.op.operands.toList.map (ev tm))
   | .store _ a x=>match ev tm a with
     | .ptr id _=>[id]
     | .vel id _=>[id]
     | _=>Cw (ev tm a)++Ce Cw (ev tm x).cells
   | _=>[]
 | .R=>Ce Ri (o.op.operands.toList.map (ev tm))
 | .C=>Ce Ri (o.op.operands.toList.map (ev tm))
 | _=>[]
def A7c:List Nat→List Nat→Bool
 | [],_=>true
 | a :: l,m=>match Nw m a with
   | true=>false
   | false=>A7c l m
def anc (ops:List Oper):Nat→Oper→Nat→Bool
 | 0,o,j=>Fl o j
 | n+1,o,j=>Fl o j || o.after.toList.any fun e=>Region.binds .any e&&match nth? ops e.on with
   | some q=>anc ops n q j
   | none=>false
def I4 (ops:List Oper):List Nat→List (Nat×Oper)
 | []=>[]
 | i :: l=>match nth? ops i with
   | some o=>(i,o) :: I4 ops l
   | none=>I4 ops l
def Aha:Nat→List Oper→List (Nat×Oper)
 | _,[]=>[]
 | k,o :: l=>(k,o) :: Aha (k+1) l
def A4w (ops:List Oper):List Nat→List (Nat×Oper)
 | []=>Aha 0 ops
 | i :: l=>I4 ops (i :: l)
abbrev Log:=List (Nat×Bool×List Nat)
def Acp {α:Type} (p:α→Bool):List α→Bool
 | []=>false
 | a :: l=>match p a with
   | true=>true
   | false=>Acp p l
def A74 (o:Oper) (j:Nat):Bool:=Acp (fun e=>match Nat.beq e.on j with
 | true=>Region.binds .any e
 | false=>false) o.after.toList
def Ago (ops:List Oper):Nat→Oper→Nat→Bool
 | 0,o,j=>A74 o j
 | n+1,o,j=>match A74 o j with
   | true=>true
   | false=>Acp (fun e=>match Region.binds .any e with
     | true=>match nth? ops e.on with
       | some q=>Ago ops n q j
       | none=>false
     | false=>false) o.after.toList
def Wy (ops:List Oper) (o:Oper) (s:Bool) (ft:List Nat):Log→Bool
 | []=>true
 | e :: l=>match e.2.1==s with
   | true=>Wy ops o s ft l
   | false=>match A7c ft e.2.2 with
     | true=>Wy ops o s ft l
     | false=>match Ago ops 9 o e.1 with
       | true=>Wy ops o s ft l
       | false=>false
def Dd (H:Bu) (f:FuncId) (o:Oper):Option Bool:=match cls H f o with
 | .S=>some true
 | .R=>some false
 | .C=>some false
 | _=>none
noncomputable def A5d (P:Program) (H:Bu) (call:Ct) (f:FuncId) (ops:List Oper) (l:List (Nat×Oper)):Log→Tm→Hp→(Tm→Hp→Option ρ)→Option ρ :=
 @List.rec (Nat×Oper) (fun _=>Log→Tm→Hp→(Tm→Hp→Option ρ)→Option ρ) (fun _ tm hp K=>K tm hp) (fun p _ ih log tm hp K=>match Dd H f p.2 with
  | none=>Xg P H call f ops p.2 (ih log) tm hp K
  | some s=>Xu (fun ft=>match Wy ops p.2 s ft log with
    | true=>Xg P H call f ops p.2 (ih ((p.1,s,ft) :: log)) tm hp K
    | false=>none) (Cv P H f p.2 tm hp)) l
def isS (H:Bu) (f:FuncId) (o:Oper):Bool:=match cls H f o with
 | .S=>true
 | _=>false
inductive Ex where
 | normal | exit (id:Nat) | ret
def A5x:(List Oper→Option ρ)→List Oper→Option ρ
 | K,[]=>K []
 | K,o :: l=>A5x (fun l=>K (o :: l)) l
def A3v (ops:List Oper):List Nat→List Oper
 | []=>[]
 | i :: l=>match nth? ops i with
   | some o=>o :: A3v ops l
   | none=>A3v ops l
def A3o (ops:List Oper):List Nat→List Oper
 | []=>ops
 | i :: l=>A3v ops (i :: l)
def A6t:Ex→Nat
 | .normal=>0
 | .exit _=>1
 | .ret=>2
noncomputable def Sk (c:Code):Nat:=@Code.rec (fun _=>Nat) 0 (fun id _ _=>id+1) (fun _ _ ia _=>ia) (fun _ _ _ ia _=>ia) (fun _ _ ib=>ib) (fun _ ib=>ib+10000) (fun _ _ _ _ _ _=>0) (fun _=>0) (fun _ ib=>ib) (fun _=>0) (fun _=>0) 0 (fun _=>0) c
def rounds (body:Tm→Hp→(Ex→Tm→Hp→Option ρ)→Option ρ) (keep:Nat→List Nat) (h0:Nat):Nat→Tm→Hp→(Ex→Tm→Hp→Option ρ)→Option ρ
 | 0,_,_,_=>none
 | n+1,tm,hp,K=>body tm hp fun e tm hp=>Fg force (fun tm=>C5 (fun hp=>match e with
   | .normal=>rounds body keep h0 n tm hp K
   | .exit id=>K (.exit id) tm hp
   | .ret=>K .ret tm hp) (Hb h0 hp)) (X0 (keep (A6t e)) h0 hp 0 tm)
def A6x (keep:List Nat):Nat→Tm→Tm
 | _,[]=>[]
 | i,a :: l=>(match Nw keep i with
   | true=>a
   | false=>.junk) :: A6x keep (i+1) l
@[irreducible] def A67 (run:(Tm→Hp→Option ρ)→Option ρ) (K:Tm→Hp→Option ρ):Option ρ:=run K
noncomputable def Abq (P:Program) (H:Bu) (call:Ct) (f:FuncId) (id:Nat) (ops:Array Oper) (draw:Bool) (tm:Tm) (hp:Hp) (K:Tm→Hp→Option ρ):Option ρ :=
 A5x (fun ops=>match draw&&H.dyn f id with
  | false=>U2 P H call f ops (A3o ops (H.order f id)) tm hp K
  | true=>A5d P H call f ops (A4w ops (H.order f id)) [] tm hp K) ops.toList
def swp (k i x:Nat):Option Nat:=match Nat.beq x k with
 | true=>some i
 | false=>match Nat.beq x i with
   | true=>some k
   | false=>some x
def A2o (q:Nat→Option Nat):Ob→Ob
 | .var t cs=>.var t (cs.map (Xf q))
 | .mpo kd els=>.mpo kd (els.map (List.map (Xf q)))
 | o=>o
def swR (hb:Nat) (tm0:Tm) (K:Tm→Hp→Option ρ) (tm:Tm) (hp:Hp):List Nat→Option ρ
 | []=>K tm hp
 | s :: _=>match nth .junk tm0 s with
   | .ptr k _=>match nth .junk tm s with
     | .ptr i _=>match decide (hb≤k)&&decide (k < i) with
       | true=>match nth? hp k with
         | some a=>match nth? hp i with
           | some b=>Fg force (fun tm=>C5 (fun hp=>K tm hp) ((C7 (C7 hp k b) i a).map (A2o (swp k i)))) (tm.map (Ack (swp k i)))
           | none=>none
         | none=>none
       | false=>none
     | _=>none
   | _=>none
noncomputable def Ss (P:Program) (H:Bu) (call:Ct) (f:FuncId) (fuel hb:Nat) (c:Code):Tm→Hp→(Ex→Tm→Hp→Option ρ)→Option ρ :=
 @Code.rec (fun _=>Tm→Hp→(Ex→Tm→Hp→Option ρ)→Option ρ)
  (fun tm hp K=>K .normal tm hp)
  (fun id ops draw tm hp K=>match H.join f id with
   | []=>Abq P H call f id ops draw tm hp fun tm' hp'=>swR hb tm (K .normal) tm' hp' (H.cy f id)
   | k :: keep=>A67 (fun K'=>Abq P H call f id ops draw tm hp fun tm hp=>Fg force (fun tm=>K' tm hp) (A6x (k :: keep) 0 tm)) fun tm hp=>K .normal tm hp)
  (fun _ _ ia ib tm hp K=>ia tm hp fun e tm hp=>match e with
   | .normal=>ib tm hp K
   | .exit id=>K (.exit id) tm hp
   | .ret=>K .ret tm hp)
  (fun x _ _ ia ib tm hp K=>match ev tm x with
   | .bool t=>bif t then ia tm hp K else ib tm hp K
   | _=>none)
  (fun id _ ib tm hp K=>ib tm hp fun e tm hp=>match e with
   | .normal=>K .normal tm hp
   | .ret=>K .ret tm hp
   | .exit k=>match decide (k=id) with
     | true=>K .normal tm hp
     | false=>K (.exit k) tm hp)
  (fun b ib tm hp K=>C5 (fun hp1=>Fg force (fun tm=>C5 (fun hp2=>rounds ib (H.keep f (Sk b)) hp1.length fuel tm hp2 K) (Hb hp1.length hp1)) (X0 (H.keep f (Sk b) 0) hp1.length hp1 0 tm)) (Uz P (H.upz f) (H.ups f) hp))
  (fun _ _ _ _ _ _ _ _ _=>none)
  (fun id tm hp K=>K (.exit id) tm hp)
  (fun _ ib tm hp K=>ib tm hp K)
  (fun _ tm hp K=>K .normal tm hp)
  (fun _ _ _ _=>none)
  (fun tm hp K=>K .ret tm hp)
  (fun _ _ _ _=>none) c
def A8j (P:Program) (tm:Tm) (hp:Hp) (K:List AV→Option ρ):List ResultVar→Option ρ
 | []=>K []
 | .tmp t :: l=>A8j P tm hp (fun vs=>K (nth .junk tm t :: vs)) l
 | .cell t ty :: l=>load P hp ty (fun v=>A8j P tm hp (fun vs=>K (v :: vs)) l) (nth .junk tm t)
def A5l (P:Program) (fn:Func) (tm:Tm) (hp:Hp) (K:AV→Option ρ):Option ρ :=
 A8j P tm hp (fun vs=>match vs with
  | [v]=>K (A7p P (nth 0 fn.resultTypes.toList 0) v)
  | vs=>K (.tup (Dl P fn.resultTypes.toList vs))) fn.results.toList
end
def Qv (P:Program):Ob→Ob
 | .var t cs=>.var t (Nk P (Ip P 6 t) cs)
 | o=>o
def Abb (P:Program) (stay:Bool) (h0:Nat) (v:AV) (hp:Hp):Option (AV×Hp):=match stay with
 | true=>some (v,hp)
 | false=>some (wane h0 hp v,(Hb h0 hp).map (Qv P))
noncomputable def A0w (P:Program) (H:Bu) (call:Ct) (fuel:Nat) (stay:Bool) (f:FuncId) (args:List AV) (hp:Hp):Option (AV×Hp):=match P.funcs[f]? with
 | some fn=>match fn.body with
   | some c=>match H.plain.contains f&&decide (args.length≤fn.ntmps) with
     | true=>Ss P H call f fuel hp.length c (args++List.replicate (fn.ntmps - args.length) .junk) hp fun e tm hp'=>match e with
       | .exit _=>none
       | _=>A5l P fn tm hp' fun v=>Abb P stay hp.length v hp'
     | false=>none
   | none=>none
 | none=>none
abbrev Ext:=FuncId→Option (List AV→Option AV)
noncomputable def On (P:Program) (H:Bu) (X:Ext):Nat→Ct
 | 0=>fun _ _ _ _=>none
 | n+1=>fun st f args hp=>match X f with
   | some g=>match hp with
     | []=>match g args with
       | some v=>some (v,[])
       | none=>none
     | _=>none
   | none=>A0w P H (On P H X n) n st f args hp
noncomputable abbrev I2 (P:Program) (H:Bu) (X:Ext) (n:Nat):FuncId→List AV→Hp→Option (AV×Hp):=On P H X n false
theorem Am {α:Type} {c:Bool} {a b r:α} (h:c=true) (h2:a=r):(bif c then a else b)=r:=by rw[h];exact h2
end Go.Proofs.YteindmlljlboeaaGreat
end
