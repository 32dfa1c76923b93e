/- Parts of the proofs: what they lean on. Conditions: none. -/
import Derived.WalkKit
section
namespace Go.Proofs.YtfabdppicogkmaaGreat
theorem A4 {α β:Type} (a:α) (f:α→Option β):(some a).bind f=f a:=rfl
theorem A5 {α β:Type} {as:List α} (f:α→β):(as.map f).length=as.length:=List.length_map f
theorem A8 (a b:Bool):((a&&b)=true)=(a=true∧b=true):=Bool.and_eq_true a b
theorem B4 {n m:Nat} (h:Nat.ble n m=true):n≤m:=Nat.le_of_ble_eq_true h
theorem A6 {α:Type} {l:List α} {i:Nat} (h:i < l.length):l[i]?=some l[i]:=List.getElem?_eq_getElem h
theorem Cg {α:Type} [BEq α] [LawfulBEq α] {a b:α}:(a==b)=false↔a≠b:=beq_eq_false_iff_ne
theorem Ai {p:Prop} [Decidable p]:(decide p=true)=p:=decide_eq_true_eq
theorem B3 {α:Type} {a b:α}:(bif false then a else b)=b:=rfl
theorem As {α:Type} {a b:α}:(bif true then a else b)=a:=rfl
set_option linter.unusedVariables false
inductive AV where
 | junk
 | bool (b:Bool)
 | int (k:IntKind) (n:Int)
 | str (s:List UInt8)
 | nilp
 | ptr (id off:Nat)
 | pte (id i off:Nat)
 | rptr (el:List AV) (off:Nat)
 | nils
 | sl (size:Nat) (els:List (List AV))
 | row (id n:Nat)
 | own (id off n:Nat)
 | vsl (id off n cap:Nat)
 | vel (id off:Nat)
 | stk (id ver n:Nat)
 | pts (id ver i off:Nat)
 | agg (cs:List AV)
 | tup (cs:List AV)
 | func (f:FuncId) (first cap:List AV)
 | nilf
 | mapp (id:Nat)
 | mcl (kd:Option IntKind) (els:List (List AV))
 | mfn (kd:Option IntKind) (els:List (List AV))
 | ifc (t:TypeId) (a:AV)
 | nili
 deriving Inhabited
inductive Ob where
 | var (t:TypeId) (cs:List AV)
 | row (e:TypeId) (size:Nat) (els:List (List AV))
 | arr (size:Nat) (els:List (List AV))
 | stk (ver:Nat) (e:TypeId) (size:Nat) (els:List (List AV))
 | mp (kd:Option IntKind) (frz:Bool) (els:List (List AV))
 | mpo (kd:Option IntKind) (els:List (List AV))
 deriving Inhabited
abbrev Tm:=List AV
abbrev Hp:=List Ob
def nth {α:Type} (d:α):List α→Nat→α
 | [],_=>d
 | a :: _,0=>a
 | _ :: l,n+1=>nth d l n
def nth? {α:Type}:List α→Nat→Option α
 | [],_=>none
 | a :: _,0=>some a
 | _ :: l,n+1=>nth? l n
def Bq {α:Type}:List α→Nat→α→List α
 | [],_,_=>[]
 | _ :: l,0,x=>x :: l
 | a :: l,n+1,x=>a :: Bq l n x
def A97:Value→AV
 | .bool b=>.bool b
 | .int k n=>match decide (k.min≤n)&&decide (n≤k.max) with
   | true=>.int k n
   | false=>.junk
 | .string s=>match decide (s.data.toList.length≤140737488355328) with
   | true=>.str s.data.toList
   | false=>.junk
 | .pointer none=>.nilp
 | .slice none 0 0=>.nils
 | .nilFunc=>.nilf
 | .map none=>.mcl none []
 | .nilIface=>.nili
 | _=>.junk
def lit:Value→AV
 | .agg cs=>match cs.toList.all Value.oneCell' with
   | true=>.agg (cs.toList.map A97)
   | false=>.junk
 | v=>A97 v
def ev (tm:Tm):Operand→AV
 | .tmp t=>nth .junk tm t
 | .const v=>lit v
 | .func f=>.func f [] []
 | .global _=>.junk
def Ht (P:Program) (t:TypeId):Option Bool :=
 match P.underlying t with
 | some (.struct _) | some (.array _ _)=>some true
 | some _=>some false
 | none=>none
def Oi (P:Program) (t:TypeId) (f:Nat):Option (Nat×TypeId):=match P.underlying t with
 | some (.struct fs)=>(fs[f]?).map fun x=>(x.offset,x.type)
 | _=>none
def Fr (P:Program) (t:TypeId):Option TypeId:=match P.underlying t with
 | some (.slice e)=>some e
 | _=>none
def AV.one:AV→Bool
 | .junk | .agg _ | .tup _ | .mfn _ _=>false
 | _=>true
def AV.cells:AV→List AV
 | .agg cs=>cs
 | a=>[a]
def D9 (hp:Hp):AV→Option AV
 | .row id n=>match nth? hp id with
   | some (.row _ size els)=>some (.sl size (els.take n))
   | _=>none
 | .bool b=>some (.bool b)
 | .int k n=>some (.int k n)
 | .str s=>some (.str s)
 | .nilp=>some .nilp
 | .rptr el off=>some (.rptr el off)
 | .nils=>some .nils
 | .sl size els=>some (.sl size els)
 | .nilf=>some .nilf
 | .func f [] []=>some (.func f [] [])
 | .mcl kd els=>some (.mcl kd els)
 | .ifc t a=>some (.ifc t a)
 | .nili=>some .nili
 | _=>none
def D0 (hp:Hp):List AV→Option (List AV)
 | []=>some []
 | a :: l=>match D9 hp a with
   | some a=>match D0 hp l with
     | some l=>some (a :: l)
     | none=>none
   | none=>none
def Js (hp:Hp):AV→Option AV
 | .agg cs=>match D0 hp cs with
   | some cs=>some (.agg cs)
   | none=>none
 | a=>D9 hp a
def El (hp:Hp):List AV→Option (List AV)
 | []=>some []
 | a :: l=>match Js hp a with
   | some a=>match El hp l with
     | some l=>some (a :: l)
     | none=>none
   | none=>none
def G0 (hp:Hp):AV→Option AV
 | .own id off n=>match nth? hp id with
   | some (.arr size els)=>some (.sl size ((els.drop off).take n))
   | _=>none
 | .stk id ver n=>match nth? hp id with
   | some (.stk v _ size els)=>match decide (v=ver) with
     | true=>some (.sl size (els.take n))
     | false=>none
   | _=>none
 | a=>D9 hp a
def Hf (hp:Hp):List AV→Option (List AV)
 | []=>some []
 | a :: l=>match G0 hp a with
   | some a=>match Hf hp l with
     | some l=>some (a :: l)
     | none=>none
   | none=>none
def Kb (hp:Hp):AV→Option AV
 | .agg cs=>match Hf hp cs with
   | some cs=>some (.agg cs)
   | none=>none
 | a=>G0 hp a
def E6 (hp:Hp):List AV→Option (List AV)
 | []=>some []
 | a :: l=>match Kb hp a with
   | some a=>match E6 hp l with
     | some l=>some (a :: l)
     | none=>none
   | none=>none
def Afa:AV→Bool
 | .own _ _ _=>true
 | .stk _ _ _=>true
 | _=>false
def A2m:List AV→Bool
 | []=>false
 | .agg cs :: l=>cs.any Afa || A2m l
 | a :: l=>Afa a || A2m l
def Tp:AV→Bool
 | .bool _ | .int _ _ | .str _=>true
 | _=>false
def A5p:AV→Bool
 | .tup cs=>cs.all Tp
 | a=>Tp a
def Gk (P:Program):Nat→TypeId→List TypeId
 | 0,t=>[t]
 | n+1,t=>match P.underlying t with
   | some (.struct fs)=>fs.toList.flatMap fun f=>Gk P n f.type
   | some (.array k e)=>(List.replicate k (Gk P n e)).flatten
   | _=>[t]
def Tv (P:Program) (t:TypeId):AV→AV
 | .nils=>match Fr P t with
   | some e=>.sl (P.cellsOf e) []
   | none=>.nils
 | a=>a
def Jx (P:Program):List TypeId→List AV→List AV
 | t :: ts,a :: l=>Tv P t a :: Jx P ts l
 | _,l=>l
def A4n (P:Program) (t:TypeId):AV→AV
 | .agg cs=>.agg (Jx P (Gk P 6 t) cs)
 | .nils=>Tv P t .nils
 | a=>a
def Df (P:Program):List TypeId→List AV→List AV
 | t :: ts,a :: l=>A4n P t a :: Df P ts l
 | _,l=>l
def Wh (h0:Nat) (hp:Hp):AV→AV
 | .ptr id off=>bif decide (id < h0) then .ptr id off else .junk
 | .pte id i off=>bif decide (id < h0) then .pte id i off else .junk
 | .vsl id off n c=>bif decide (id < h0) then .vsl id off n c else .junk
 | .vel id off=>bif decide (id < h0) then .vel id off else .junk
 | .row id n=>bif decide (id < h0) then .row id n else match nth? hp id with
   | some (.row _ size els)=>.sl size (els.take n)
   | _=>.junk
 | .own id off n=>bif decide (id < h0) then .own id off n else match nth? hp id with
   | some (.arr size els)=>.sl size ((els.drop off).take n)
   | _=>.junk
 | .stk id ver n=>bif decide (id < h0) then .stk id ver n else match nth? hp id with
   | some (.stk v _ size els)=>match decide (v=ver) with
     | true=>.sl size (els.take n)
     | false=>.junk
   | _=>.junk
 | .pts id v i off=>bif decide (id < h0) then .pts id v i off else .junk
 | .mapp id=>bif decide (id < h0) then .mapp id else match nth? hp id with
   | some (.mp kd _ els)=>.mcl kd els
   | _=>.junk
 | .func f [] []=>.func f [] []
 | .func _ _ _=>.junk
 | .agg _=>.junk
 | .tup _=>.junk
 | .mfn _ _=>.junk
 | a=>a
def Tu (h0:Nat) (hp:Hp):AV→AV
 | .agg cs=>.agg (cs.map (Wh h0 hp))
 | .func f a b=>.func f (a.map (Wh h0 hp)) (b.map (Wh h0 hp))
 | a=>Wh h0 hp a
def wane (h0:Nat) (hp:Hp):AV→AV
 | .tup cs=>.tup (cs.map (Tu h0 hp))
 | .mfn kd els=>.mfn kd (els.map (List.map (Tu h0 hp)))
 | .mapp id=>bif decide (id < h0) then .mapp id else match nth? hp id with
   | some (.mp kd _ els)=>.mcl kd els
   | some (.mpo kd els)=>.mfn kd (els.map (List.map (Tu h0 hp)))
   | _=>.junk
 | a=>Tu h0 hp a
def Ahv (h0:Nat) (hp:Hp):Ob→Ob
 | .var t cs=>.var t (cs.map (Tu h0 hp))
 | .mpo kd els=>.mpo kd (els.map (List.map (Tu h0 hp)))
 | o=>o
def G4 (h0:Nat) (hp:Hp):Hp:=(hp.take h0).map (Ahv h0 hp)
def Sy (keep:List Nat) (h0:Nat) (hp:Hp):Nat→Tm→Tm
 | _,[]=>[]
 | i,a :: l=>(bif keep.contains i then wane h0 hp a else .junk) :: Sy keep h0 hp (i+1) l
def Kd:List Nat→Nat→Bool
 | [],_=>false
 | a :: l,f=>match Nat.beq a f with
   | true=>true
   | false=>Kd l f
def Iv:List Nat→Nat→Nat→Option Nat
 | [],_,_=>none
 | a :: l,k,id=>match Nat.beq a id with
   | true=>some k
   | false=>Iv l (k+1) id
def Cv:AV→List Nat
 | .ptr id _=>[id]
 | .pte id _ _=>[id]
 | .vsl id _ _ _=>[id]
 | .vel id _=>[id]
 | .row id _=>[id]
 | .own id _ _=>[id]
 | .stk id _ _=>[id]
 | .pts id _ _ _=>[id]
 | .mapp id=>[id]
 | _=>[]
def Cd (g:AV→List Nat):List AV→List Nat
 | []=>[]
 | a :: l=>g a++Cd g l
def E9:AV→List Nat
 | .agg cs=>Cd Cv cs
 | .func _ a b=>Cd Cv a++Cd Cv b
 | a=>Cv a
def Na:AV→List Nat
 | .tup cs=>Cd E9 cs
 | .mfn _ els=>Cd E9 els.flatten
 | a=>E9 a
def Asl:Ob→List Nat
 | .var _ cs=>Cd E9 cs
 | .mpo _ els=>Cd E9 els.flatten
 | _=>[]
def P8 (hp:Hp):Nat→List Nat→List Nat→Option (List Nat)
 | 0,_,done=>some done
 | _+1,[],done=>some done
 | n+1,id :: todo,done=>match Kd done id with
   | true=>P8 hp n todo done
   | false=>match nth? hp id with
     | some o=>P8 hp n (Asl o++todo) (done++[id])
     | none=>none
def idB (n:Nat):List Nat→Bool
 | []=>true
 | a :: l=>match Nat.blt a n with
   | true=>idB n l
   | false=>false
def P7 (hp:Hp):AV→AV
 | .row id n=>match nth? hp id with
   | some (.row _ size els)=>.sl size (els.take n)
   | _=>.junk
 | a=>a
def Wd (hp:Hp):AV→AV
 | .agg cs=>.agg (cs.map (P7 hp))
 | .func f a b=>.func f (a.map (P7 hp)) (b.map (P7 hp))
 | a=>P7 hp a
def A0z (q:Nat→Option Nat):AV→AV
 | .ptr id off=>match q id with
   | some k=>.ptr k off
   | none=>.junk
 | .vsl id off n c=>match q id with
   | some k=>.vsl k off n c
   | none=>.junk
 | .vel id off=>match q id with
   | some k=>.vel k off
   | none=>.junk
 | .pte id i off=>match q id with
   | some k=>.pte k i off
   | none=>.junk
 | .row id n=>match q id with
   | some k=>.row k n
   | none=>.junk
 | .own id off n=>match q id with
   | some k=>.own k off n
   | none=>.junk
 | .stk id v n=>match q id with
   | some k=>.stk k v n
   | none=>.junk
 | .pts id v i off=>match q id with
   | some k=>.pts k v i off
   | none=>.junk
 | .mapp id=>match q id with
   | some k=>.mapp k
   | none=>.junk
 | .func f [] []=>.func f [] []
 | .func _ _ _=>.junk
 | .agg _=>.junk
 | .tup _=>.junk
 | .mfn _ _=>.junk
 | a=>a
def T8 (q:Nat→Option Nat):AV→AV
 | .agg cs=>.agg (cs.map (A0z q))
 | .func f a b=>.func f (a.map (A0z q)) (b.map (A0z q))
 | a=>A0z q a
def Aad (q:Nat→Option Nat):AV→AV
 | .tup cs=>.tup (cs.map (T8 q))
 | .mfn kd els=>.mfn kd (els.map (List.map (T8 q)))
 | a=>T8 q a
def Jb (P:Program) (q:Nat→Option Nat):Ob→Ob
 | .var t cs=>.var t (Jx P (Gk P 6 t) (cs.map (T8 q)))
 | .mpo kd els=>.mpo kd (els.map (List.map (T8 q)))
 | o=>o
def Lu (P:Program) (q:Nat→Option Nat) (hp:Hp):List Nat→Hp
 | []=>[]
 | id :: l=>match nth? hp id with
   | some o=>Jb P q o :: Lu P q hp l
   | none=>Lu P q hp l
def T1 (P:Program) (ids:List Nat):List Nat→Hp→Hp→Hp
 | id :: l,o :: hpn,hp=>T1 P ids l hpn (Bq hp id (Jb P (nth? ids) o))
 | _,_,hp=>hp
structure Bv where
 keep:FuncId→Nat→Nat→List Nat
 inl:FuncId→FuncId→Bool
 obj:FuncId→Nat→Bool
 arr:FuncId→Nat→Bool
 ups:FuncId→Bool
 ado:FuncId→Nat→Bool
 upc:FuncId→FuncId→Bool
 ind:FuncId→Bool
 dyn:FuncId→Nat→Bool
 order:FuncId→Nat→List Nat
 join:FuncId→Nat→List Nat
 stk:FuncId→Nat→Bool
 cy:FuncId→Nat→List Nat
 upz:FuncId→Nat→Bool
 raw:FuncId→Bool
 good:List FuncId
 plain:List FuncId
section
variable {ρ:Type}
def O9 (K:Nat→Option ρ) (n:Nat):Option ρ:=match Nat.beq n 0 with
 | true=>K 0
 | false=>match Nat.beq n 1 with
 | true=>K 1
 | false=>match Nat.beq n 2 with
 | true=>K 2
 | false=>match Nat.beq n 3 with
 | true=>K 3
 | false=>match Nat.beq n 4 with
 | true=>K 4
 | false=>match Nat.beq n 5 with
 | true=>K 5
 | false=>match Nat.beq n 6 with
 | true=>K 6
 | false=>match Nat.beq n 7 with
 | true=>K 7
 | false=>match Nat.beq n 8 with
 | true=>K 8
 | false=>match Nat.beq n 9 with
 | true=>K 9
 | false=>match Nat.beq n 10 with
 | true=>K 10
 | false=>match Nat.beq n 11 with
 | true=>K 11
 | false=>match Nat.beq n 12 with
 | true=>K 12
 | false=>match Nat.beq n 13 with
 | true=>K 13
 | false=>match Nat.beq n 14 with
 | true=>K 14
 | false=>match Nat.beq n 15 with
 | true=>K 15
 | false=>match Nat.beq n 16 with
 | true=>K 16
 | false=>match Nat.beq n 17 with
 | true=>K 17
 | false=>match Nat.beq n 18 with
 | true=>K 18
 | false=>match Nat.beq n 19 with
 | true=>K 19
 | false=>match Nat.beq n 20 with
 | true=>K 20
 | false=>match Nat.beq n 21 with
 | true=>K 21
 | false=>match Nat.beq n 22 with
 | true=>K 22
 | false=>match Nat.beq n 23 with
 | true=>K 23
 | false=>match Nat.beq n 24 with
 | true=>K 24
 | false=>match Nat.beq n 25 with
 | true=>K 25
 | false=>match Nat.beq n 26 with
 | true=>K 26
 | false=>match Nat.beq n 27 with
 | true=>K 27
 | false=>match Nat.beq n 28 with
 | true=>K 28
 | false=>match Nat.beq n 29 with
 | true=>K 29
 | false=>match Nat.beq n 30 with
 | true=>K 30
 | false=>match Nat.beq n 31 with
 | true=>K 31
 | false=>match Nat.beq n 32 with
 | true=>K 32
 | false=>match Nat.beq n 33 with
 | true=>K 33
 | false=>match Nat.beq n 34 with
 | true=>K 34
 | false=>match Nat.beq n 35 with
 | true=>K 35
 | false=>match Nat.beq n 36 with
 | true=>K 36
 | false=>match Nat.beq n 37 with
 | true=>K 37
 | false=>match Nat.beq n 38 with
 | true=>K 38
 | false=>match Nat.beq n 39 with
 | true=>K 39
 | false=>match Nat.beq n 40 with
 | true=>K 40
 | false=>match Nat.beq n 41 with
 | true=>K 41
 | false=>match Nat.beq n 42 with
 | true=>K 42
 | false=>match Nat.beq n 43 with
 | true=>K 43
 | false=>match Nat.beq n 44 with
 | true=>K 44
 | false=>match Nat.beq n 45 with
 | true=>K 45
 | false=>match Nat.beq n 46 with
 | true=>K 46
 | false=>match Nat.beq n 47 with
 | true=>K 47
 | false=>K n
def Nj (K:AV→Option ρ):AV→Option ρ
 | .junk=>K .junk
 | .bool b=>K (.bool b)
 | .int k n=>K (.int k n)
 | .str s=>K (.str s)
 | .nilp=>K .nilp
 | .ptr id off=>O9 (fun id=>O9 (fun off=>K (.ptr id off)) off) id
 | .pte id i off=>O9 (fun id=>O9 (fun off=>K (.pte id i off)) off) id
 | .vsl id off n c=>O9 (fun id=>K (.vsl id off n c)) id
 | .vel id off=>O9 (fun id=>K (.vel id off)) id
 | .rptr el off=>K (.rptr el off)
 | .nils=>K .nils
 | .sl size els=>K (.sl size els)
 | .row id n=>O9 (fun id=>K (.row id n)) id
 | .own id off n=>O9 (fun id=>K (.own id off n)) id
 | .stk id v n=>O9 (fun id=>K (.stk id v n)) id
 | .pts id v i off=>O9 (fun id=>O9 (fun off=>K (.pts id v i off)) off) id
 | .agg cs=>K (.agg cs)
 | .tup cs=>K (.tup cs)
 | .func f a b=>K (.func f a b)
 | .nilf=>K .nilf
 | .mapp id=>O9 (fun id=>K (.mapp id)) id
 | .mcl kd els=>K (.mcl kd els)
 | .mfn kd els=>K (.mfn kd els)
 | .ifc t a=>K (.ifc t a)
 | .nili=>K .nili
def F4 (g:(AV→Option ρ)→AV→Option ρ):(List AV→Option ρ)→List AV→Option ρ
 | K,[]=>K []
 | K,a :: l=>g (fun a=>F4 g (fun l=>K (a :: l)) l) a
def Nb (K:AV→Option ρ):AV→Option ρ
 | .agg cs=>F4 Nj (fun cs=>K (.agg cs)) cs
 | .func f a b=>F4 Nj (fun a=>F4 Nj (fun b=>K (.func f a b)) b) a
 | a=>Nj K a
def Vd:(List (List AV)→Option ρ)→List (List AV)→Option ρ
 | K,[]=>K []
 | K,el :: l=>F4 Nb (fun el=>Vd (fun l=>K (el :: l)) l) el
def force (K:AV→Option ρ):AV→Option ρ
 | .tup cs=>F4 Nb (fun cs=>K (.tup cs)) cs
 | .mfn kd els=>Vd (fun els=>K (.mfn kd els)) els
 | a=>Nb K a
def A3n (K:Ob→Option ρ):Ob→Option ρ
 | .var t cs=>match Nat.beq t 1000001 with
   | true=>K (.var t cs)
   | false=>F4 Nb (fun cs=>K (.var t cs)) cs
 | .row e size els=>K (.row e size els)
 | .arr size els=>K (.arr size els)
 | .stk v e size els=>K (.stk v e size els)
 | .mp kd frz els=>K (.mp kd frz els)
 | .mpo kd els=>Vd (fun els=>K (.mpo kd els)) els
def C8:(Hp→Option ρ)→Hp→Option ρ
 | K,[]=>K []
 | K,o :: l=>A3n (fun o=>C8 (fun l=>K (o :: l)) l) o
def Sk:(List Nat→Option ρ)→List Nat→Option ρ
 | K,[]=>K []
 | K,a :: l=>O9 (fun a=>Sk (fun l=>K (a :: l)) l) a
def Aea {α:Type} (K:List α→Option ρ) (v:α):List α→Nat→Option ρ
 | [],_=>K []
 | _ :: l,0=>K (v :: l)
 | a :: l,n+1=>Aea (fun l=>K (a :: l)) v l n
def It (tm:Tm) (d:Option Tmp) (v:AV) (K:Tm→Option ρ):Option ρ:=match d with
 | some d=>force (fun v=>Aea K v tm d) v
 | none=>K tm
def Iz (b:Option Bool) (cs:List AV) (K:AV→Option ρ):Option ρ:=match b with
 | some true=>K (.agg cs)
 | some false=>match cs with
   | [a]=>K a
   | _=>none
 | none=>none
def sub (l:List AV) (off n:Nat) (K:List AV→Option ρ):Option ρ:=bif decide (off+n≤l.length) then K ((l.drop off).take n) else none
def load (P:Program) (hp:Hp) (t:TypeId) (K:AV→Option ρ):AV→Option ρ
 | .ptr id off=>match nth? hp id with
   | some (.var _ cs)=>sub cs off (P.cellsOf t) fun cs=>Iz (Ht P t) cs K
   | _=>none
 | .vel id off=>match nth? hp id with
   | some (.var _ cs)=>sub cs off (P.cellsOf t) fun cs=>Iz (Ht P t) cs K
   | _=>none
 | .pte id i off=>match nth? hp id with
   | some (.arr _ els)=>match nth? els i with
     | some el=>sub el off (P.cellsOf t) fun cs=>Iz (Ht P t) cs K
     | none=>none
   | _=>none
 | .pts id ver i off=>match nth? hp id with
   | some (.stk v _ _ els)=>match decide (v=ver) with
     | true=>match nth? els i with
       | some el=>sub el off (P.cellsOf t) fun cs=>Iz (Ht P t) cs K
       | none=>none
     | false=>none
   | _=>none
 | .rptr el off=>sub el off (P.cellsOf t) fun cs=>Iz (Ht P t) cs K
 | _=>none
def zero (P:Program) (t:TypeId):Option AV:=match (P.info? t) with
 | some i=>match i.zero with
   | some v=>some (lit v)
   | none=>none
 | none=>none
def Vc (op:BinOp) (k:IntKind) (a b:Int) (K:AV→Option ρ):Option ρ:=match op with
 | .add=>K (.int k (k.wrap (a+b)))
 | .sub=>K (.int k (k.wrap (a - b)))
 | .mul=>K (.int k (k.wrap (a*b)))
 | .quo=>bif decide (b=0) then none else K (.int k (k.wrap (a.tdiv b)))
 | .rem=>bif decide (b=0) then none else K (.int k (a.tmod b))
 | .eql=>K (.bool (a==b))
 | .neq=>K (.bool (a != b))
 | .lss=>K (.bool (decide (a < b)))
 | .leq=>K (.bool (decide (a≤b)))
 | .gtr=>K (.bool (decide (b < a)))
 | .geq=>K (.bool (decide (b≤a)))
 | _=>none
def Aal (a b c:Int):Int:=if(if a < b then b else a) < c then c else(if a < b then b else a)
def Aa5 (a b c:Int):Int:=if c < (if b < a then b else a) then c else(if b < a then b else a)
def Q5:Nat→List Field→Bool
 | _,[]=>true
 | n,f :: fs=>decide (f.name≠ "_")&&decide (f.offset=n)&&Q5 (n+1) fs
def A7g (P:Program) (t:TypeId):Option (List Field):=match P.underlying t with
 | some (.struct fs)=>match Q5 0 fs.toList&&!P.stoodInHeld t&&!P.eqGuardType P.depth t with
   | true=>some fs.toList
   | false=>none
 | _=>none
def eqs (P:Program):(Bool→Option ρ)→List Field→List AV→List AV→Option ρ
 | K,[],[],[]=>K true
 | K,f :: fs,x :: xs,y :: ys=>match P.underlying f.type with
   | some .bool=>match x with
     | .bool a=>match y with
       | .bool b=>eqs P (fun c=>K ((a==b)&&c)) fs xs ys
       | _=>none
     | _=>none
   | some (.int _)=>match x with
     | .int k a=>match y with
       | .int k' b=>match decide (k=k') with
         | true=>eqs P (fun c=>K ((a==b)&&c)) fs xs ys
         | false=>none
       | _=>none
     | _=>none
   | some .string=>match x with
     | .str a=>match y with
       | .str b=>eqs P (fun c=>K ((a==b)&&c)) fs xs ys
       | _=>none
     | _=>none
   | _=>none
 | _,_,_,_=>none
def Zb (P:Program) (t:TypeId) (op:BinOp) (K:AV→Option ρ):AV→AV→Option ρ
 | .int k a,.int k' b=>match decide (k=k') with
   | true=>Vc op k a b K
   | false=>none
 | .str a,.str b=>match op with
   | .eql=>K (.bool (a==b))
   | .neq=>K (.bool (!(a==b)))
   | .add=>bif decide (a.length+b.length≤140737488355328) then K (.str (a++b)) else none
   | _=>none
 | .bool a,.bool b=>match P.underlying t with
   | some .bool=>match op with
     | .eql=>K (.bool (a==b))
     | .neq=>K (.bool (!(a==b)))
     | _=>none
   | _=>none
 | .agg xs,.agg ys=>match A7g P t with
   | some fs=>match op with
     | .eql=>eqs P (fun c=>K (.bool c)) fs xs ys
     | .neq=>eqs P (fun c=>K (.bool (!c))) fs xs ys
     | _=>none
   | none=>none
 | _,_=>none
def A3y (K:Nat→Option ρ):AV→Option ρ
 | .nils=>K 0
 | .sl _ els=>K els.length
 | .row _ n=>K n
 | .own _ _ n=>K n
 | .stk _ _ n=>K n
 | _=>none
def Qy (K:AV→Option ρ):AV→Nat→Option ρ
 | .ptr id off,k=>K (.ptr id (off+k))
 | .pte id i off,k=>K (.pte id i (off+k))
 | .pts id v i off,k=>K (.pts id v i (off+k))
 | .rptr cs off,k=>K (.rptr cs (off+k))
 | _,_=>none
def Nm (size n:Nat) (els:List (List AV)) (i:Int) (sz:Nat) (K:AV→Option ρ):Option ρ:=match decide (size=sz)&&decide (0 < sz) with
 | true=>bif decide (0≤i)&&decide (i < n) then match nth? els i.toNat with
  | some el=>K (.rptr el 0)
  | none=>none
   else none
 | false=>none
def R1 (i:Int) (K:Nat→Option ρ):Nat→Option ρ
 | 0=>none
 | n+1=>bif decide (i=(n:Int)) then K n else R1 i K n
def A7h (P:Program) (t:TypeId):Option (Nat×TypeId):=match P.underlying t with
 | some (.array n e)=>some (n,e)
 | _=>none
def Lf (P:Program) (hp:Hp) (t:TypeId) (x:AV) (i:Int) (K:AV→Option ρ):Option ρ:=match Fr P t with
 | none=>match A7h P t with
   | some p=>match decide (0 < P.cellsOf p.2) with
     | true=>R1 i (fun k=>Qy K x (k*P.cellsOf p.2)) p.1
     | false=>none
   | none=>none
 | some e=>match x with
   | .sl size els=>Nm size els.length els i (P.cellsOf e) K
   | .row id n=>match nth? hp id with
     | some (.row _ size els)=>Nm size n els i (P.cellsOf e) K
     | _=>none
   | .own id off n=>match nth? hp id with
     | some (.arr size els)=>match decide (size=P.cellsOf e)&&decide (0 < size) with
       | true=>bif decide (0≤i)&&decide (i < n)&&decide (off+n≤els.length) then K (.pte id (off+i.toNat) 0) else none
       | false=>none
     | _=>none
   | .vsl id off n _=>match decide (P.cellsOf e=1) with
     | true=>bif decide (0≤i)&&decide (i < n) then K (.vel id (off+i.toNat)) else none
     | false=>none
   | .stk id ver n=>match nth? hp id with
     | some (.stk v _ size els)=>match decide (v=ver)&&decide (size=P.cellsOf e)&&decide (0 < size) with
       | true=>bif decide (0≤i)&&decide (i < n) then K (.pts id ver i.toNat 0) else none
       | false=>none
     | _=>none
   | _=>none
def E0 (hp:Hp) (size:Nat):AV→Option (List (List AV))
 | .nils=>some []
 | .sl s els=>match decide (s=size) with | true=>some els | false=>none
 | .row id n=>match nth? hp id with
   | some (.row _ s els)=>match decide (s=size) with | true=>some (els.take n) | false=>none
   | _=>none
 | .own id off n=>match nth? hp id with
   | some (.arr s els)=>match decide (s=size) with | true=>some ((els.drop off).take n) | false=>none
   | _=>none
 | .stk id ver n=>match nth? hp id with
   | some (.stk v _ s els)=>match decide (v=ver)&&decide (s=size) with | true=>some (els.take n) | false=>none
   | _=>none
 | _=>none
def A1l:List AV→Bool
 | [.int .u8 _]=>true
 | _=>false
def Uv:List AV→UInt8
 | [.int .u8 n]=>UInt8.ofNat n.toNat
 | _=>0
def Kp (n:Nat) (lo hi:Option AV) (K:Nat→Nat→Option ρ):Option ρ :=
 match hi with
 | none=>match lo with
   | none=>K 0 n
   | some (.int _ l)=>bif decide (0≤l)&&decide (l≤n) then K l.toNat n else none
   | _=>none
 | some (.int _ h)=>match lo with
   | none=>bif decide (0≤h)&&decide (h≤n) then K 0 h.toNat else none
   | some (.int _ l)=>bif decide (0≤h)&&decide (h≤n)&&decide (0≤l)&&decide (l≤h) then K l.toNat h.toNat else none
   | _=>none
 | _=>none
def Rf (hp:Hp) (x:AV) (sz:Nat) (lo hi:Option AV) (K:AV→Option ρ):Option ρ:=match x with
 | .sl size els=>match decide (size=sz) with
   | true=>Kp els.length lo hi fun l h=>K (.sl size ((els.take h).drop l))
   | false=>none
 | .row id n=>match nth? hp id with
   | some (.row _ size els)=>match decide (size=sz) with
     | true=>Kp n lo hi fun l h=>K (.sl size (((els.take n).take h).drop l))
     | false=>none
   | _=>none
 | .own id off n=>match nth? hp id with
   | some (.arr size els)=>match decide (size=sz) with
     | true=>Kp n lo hi fun l h=>K (.own id (off+l) (h - l))
     | false=>none
   | _=>none
 | .stk id ver n=>match nth? hp id with
   | some (.stk v _ size els)=>match decide (v=ver)&&decide (size=sz) with
     | true=>match lo with
       | none=>Kp n none hi fun l h=>match l with
         | 0=>K (.stk id ver h)
         | _+1=>none
       | some _=>none
     | false=>none
   | _=>none
 | _=>none
def Rs (P:Program) (t:TypeId) (tm:Tm):List AV→List (Nat×Operand)→Option (List AV)
 | cs,[]=>some cs
 | cs,(i,x) :: rest=>match Oi P t i with
   | none=>none
   | some (off,ft)=>match (ev tm x).cells.all AV.one&&decide (off+(ev tm x).cells.length≤cs.length)&&decide ((ev tm x).cells.length=P.cellsOf ft) with
     | true=>Rs P t tm (cs.take off++((ev tm x).cells++cs.drop (off+(ev tm x).cells.length))) rest
     | false=>none
def Qr (sz:Nat) (tm:Tm):List AV→List (Nat×Operand)→Option (List AV)
 | cs,[]=>some cs
 | cs,(i,x) :: rest=>match (ev tm x).cells.all AV.one&&decide (i*sz+(ev tm x).cells.length≤cs.length)&&decide ((ev tm x).cells.length=sz) with
   | true=>Qr sz tm (cs.take (i*sz)++((ev tm x).cells++cs.drop (i*sz+(ev tm x).cells.length))) rest
   | false=>none
def Dt (P:Program) (tys:List TypeId) (hp:Hp) (size:Nat) (tm:Tm) (zc:List AV):Nat→Nat→List (Nat×Operand)→Option (List (List AV))
 | 0,_,[]=>some []
 | 0,_,_ :: _=>none
 | m+1,k,[]=>match Dt P tys hp size tm zc m (k+1) [] with
   | some l=>some (zc :: l)
   | none=>none
 | m+1,k,(i,x) :: rest=>match decide (i=k) with
   | true=>match decide ((ev tm x).cells.length=size)&&(ev tm x).cells.all AV.one with
     | true=>match D0 hp (Jx P tys (ev tm x).cells) with
       | some c=>match Dt P tys hp size tm zc m (k+1) rest with
         | some l=>some (c :: l)
         | none=>none
       | none=>none
     | false=>none
   | false=>match Dt P tys hp size tm zc m (k+1) ((i,x) :: rest) with
     | some l=>some (zc :: l)
     | none=>none
def Sa (P:Program) (t:TypeId):Option (TypeId×TypeId):=match P.underlying t with
 | some (.map k e)=>some (k,e)
 | _=>none
def Ae8 (P:Program) (kt:TypeId):Option (Option IntKind):=match P.underlying kt with
 | some (.int k)=>some (some k)
 | some .string=>some none
 | _=>none
def Mu:AV→Option (Option IntKind)
 | .int k _=>some (some k)
 | .str _=>some none
 | _=>none
def W8 (P:Program) (kt:TypeId) (kd:Option IntKind) (k:AV):Bool:=decide (Ae8 P kt=some kd)&&decide (Mu k=some kd)
def K2:AV→AV→Bool
 | .int k n,.int k' m=>decide (k=k')&&decide (n=m)
 | .str s,.str u=>s==u
 | _,_=>false
def Gj (z:AV):List (List AV)→AV→AV
 | [] ,_=>z
 | [k',v] :: l,k=>bif K2 k k' then v else Gj z l k
 | _ :: l,k=>Gj z l k
def Ga:List (List AV)→AV→Bool
 | [],_=>false
 | [k',_] :: l,k=>bif K2 k k' then true else Ga l k
 | _ :: l,k=>Ga l k
def Fu:List (List AV)→AV→Nat
 | [],_=>0
 | [k',_] :: l,k=>bif K2 k k' then 0 else Fu l k+1
 | _ :: l,k=>Fu l k+1
def Mx:List (List AV)→AV→AV→List (List AV)
 | [],k,v=>[[k,v]]
 | [k',u] :: l,k,v=>bif K2 k k' then [k',v] :: l else [k',u] :: Mx l k v
 | el :: l,k,v=>el :: Mx l k v
def Mt (z:AV):List (List AV)→AV→List (List AV)
 | [],k=>[[k,z]]
 | [k',u] :: l,k=>bif K2 k k' then [k',u] :: l else [k',u] :: Mt z l k
 | el :: l,k=>el :: Mt z l k
def Ru:List (List AV)→Nat→AV→List (List AV)
 | [],_,_=>[]
 | [k',_] :: l,0,v=>[k',v] :: l
 | el :: l,0,_=>el :: l
 | el :: l,n+1,v=>el :: Ru l n v
def Ke (hp:Hp):AV→Option (Option IntKind×List (List AV))
 | .mapp id=>match nth? hp id with
   | some (.mp kd _ els)=>some (kd,els)
   | some (.mpo kd els)=>some (kd,els)
   | _=>none
 | .mcl kd els=>some (kd,els)
 | .mfn kd els=>some (kd,els)
 | _=>none
def Asp (P:Program) (t:TypeId):Bool:=match P.underlying t with
 | some (.func ..)=>true
 | _=>false
def Uu (P:Program) (hp:Hp) (t:TypeId) (m k:AV) (ok:Bool) (K:AV→Option ρ):Option ρ:=match Sa P t with
 | some (kt,et)=>match zero P et with
   | some z=>match z.one with
     | true=>match Ke hp m with
       | some (kd,els)=>match W8 P kt kd k with
         | true=>match ok with
           | true=>K (.tup [Gj z els k,.bool (Ga els k)])
           | false=>K (Gj z els k)
         | false=>none
       | none=>none
     | false=>none
   | none=>none
 | none=>none
def Akt (K K':Option ρ):AV→AV→Option ρ
 | .int k n,.int k' m=>match decide (k=k') with
   | true=>bif decide (n=m) then K else K'
   | false=>K'
 | .str s,.str u=>bif s==u then K else K'
 | _,_=>K'
def S6 (z:AV) (K:AV→Bool→Option ρ):List (List AV)→AV→Option ρ
 | [],_=>K z false
 | [k',v] :: l,k=>Akt (K v true) (S6 z K l k) k k'
 | _ :: l,k=>S6 z K l k
def Ase (hp:Hp):AV→Bool
 | .mapp id=>match nth? hp id with
   | some (.mpo _ _)=>true
   | _=>false
 | .mfn _ _=>true
 | _=>false
def Ok (P:Program) (hp:Hp) (t:TypeId) (m k:AV) (ok:Bool) (K:AV→Option ρ):Option ρ:=Nj (fun k=>match Sa P t with
 | some (kt,et)=>match zero P et with
   | some z=>Nj (fun z=>match z.one with
     | true=>match Ke hp m with
       | some (kd,els)=>match W8 P kt kd k with
         | true=>match Ase hp m with
           | true=>match ok with
             | true=>S6 z (fun v b=>K (.tup [v,.bool b])) els k
             | false=>S6 z (fun v _=>K v) els k
           | false=>match ok with
             | true=>K (.tup [Gj z els k,.bool (Ga els k)])
             | false=>K (Gj z els k)
         | false=>none
       | none=>none
     | false=>none) z
   | none=>none
 | none=>none) k
def Uw (P:Program) (t:TypeId):Option Bool:=match P.underlying t with
 | some (.interface _)=>some true
 | some _=>some false
 | none=>none
def Sh (P:Program) (a:TypeId) (ok:Bool) (x:AV) (K:AV→Option ρ):Option ρ:=match Uw P a with
 | some false=>match x with
   | .ifc t v=>match decide (t=a) with
     | true=>match ok with
       | true=>K (.tup [v,.bool true])
       | false=>K v
     | false=>match ok with
       | true=>match zero P a with
         | some z=>K (.tup [z,.bool false])
         | none=>none
       | false=>none
   | .nili=>match ok with
     | true=>match zero P a with
       | some z=>K (.tup [z,.bool false])
       | none=>none
     | false=>none
   | _=>none
 | _=>none
def Bs (P:Program) (tm:Tm) (hp:Hp) (o:Op) (K:AV→Option ρ):Option ρ:=match o with
 | .move x=>K (ev tm x)
 | .assign x=>K (ev tm x)
 | .pick c a b=>match ev tm c with
   | .bool t=>bif t then K (ev tm a) else K (ev tm b)
   | _=>none
 | .binOp op t x y _=>Zb P t op K (ev tm x) (ev tm y)
 | .unOp .not _ x=>match ev tm x with
   | .bool b=>K (.bool (!b))
   | _=>none
 | .unOp .neg _ x=>match ev tm x with
   | .int k n=>K (.int k (k.wrap (0 - n)))
   | _=>none
 | .convert src dst x=>match P.underlying dst with
   | some (.int k)=>match (P.underlying src).isSome with
     | true=>match ev tm x with
       | .int _ n=>K (.int k (k.wrap n))
       | _=>none
     | false=>none
   | some .string=>match P.underlying src with
     | some (.int _)=>match ev tm x with
       | .int _ n=>bif decide (0≤n)&&decide (n < 128) then K (.str [UInt8.ofNat n.toNat]) else none
       | _=>none
     | some (.slice et)=>match P.underlying et with
       | some (.int .u8)=>match E0 hp 1 (ev tm x) with
         | some els=>bif els.all A1l&&decide (els.length≤140737488355328) then K (.str (els.map Uv)) else none
         | none=>none
       | _=>none
     | _=>none
   | _=>none
 | .nilCheck x=>match ev tm x with
   | .ptr id off=>K (.ptr id off)
   | .pte id i off=>K (.pte id i off)
   | .pts id v i off=>K (.pts id v i off)
   | .rptr el off=>K (.rptr el off)
   | .func f a b=>K (.func f a b)
   | _=>none
 | .build t ps=>match P.underlying t with
   | some (.struct fs)=>match fs.toList.all (fun f=>(P.info? f.type).isSome) with
     | true=>match zero P t with
       | some (.agg z)=>match Rs P t tm z ps.toList with
         | some cs=>K (.agg cs)
         | none=>none
       | _=>none
     | false=>none
   | some (.array _ et)=>match (P.info? et).isSome with
     | true=>match zero P t with
       | some (.agg z)=>match Qr (P.cellsOf et) tm z ps.toList with
         | some cs=>K (.agg cs)
         | none=>none
       | _=>none
     | false=>none
   | _=>none
 | .buildSlice t n ps=>match Fr P t with
   | some e=>match decide (n*P.cellsOf e≤16777216) with
     | true=>match zero P e with
       | some z=>match decide (z.cells.length=P.cellsOf e)&&z.cells.all AV.one&&decide (0 < P.cellsOf e) with
         | true=>match D0 [] (Jx P (Gk P 6 e) z.cells) with
           | some zc=>match Dt P (Gk P 6 e) hp (P.cellsOf e) tm zc n 0 ps.toList with
             | some els=>K (.sl (P.cellsOf e) els)
             | none=>none
           | none=>none
         | false=>none
       | none=>none
     | false=>none
   | none=>none
 | .makeSlice t n c=>match Fr P t with
   | some e=>match ev tm n with
     | .int .i64 l=>match ev tm c with
       | .int .i64 l'=>match zero P e with
         | some z=>match decide (z.cells.length=P.cellsOf e)&&z.cells.all AV.one with
           | true=>match D0 [] (Jx P (Gk P 6 e) z.cells) with
             | some zc=>bif decide (0≤l)&&decide (l=l')&&decide (P.bytesOf e*l≤140737488355328) then
              K (.sl (P.cellsOf e) (List.replicate l.toNat zc)) else none
             | none=>none
           | false=>none
         | none=>none
       | _=>none
     | _=>none
   | none=>none
 | .load t a=>load P hp t K (ev tm a)
 | .fieldAddr t a f=>match Oi P t f with
   | some p=>match decide (0 < P.cellsOf p.2) with
     | true=>Qy K (ev tm a) p.1
     | false=>none
   | none=>none
 | .field t x f=>match Oi P t f with
   | some p=>match ev tm x with
     | .agg cs=>sub cs p.1 (P.cellsOf p.2) fun cs=>Iz (Ht P p.2) cs K
     | _=>none
   | none=>none
 | .indexAddr t x i=>match ev tm i with
   | .int _ i=>Lf P hp t (ev tm x) i K
   | _=>none
 | .index t x i=>match ev tm i with
   | .int _ i=>match P.underlying t with
    | some .string=>match ev tm x with
     | .str s=>bif decide (0≤i)&&decide (i < s.length) then match nth? s i.toNat with
      | some b=>K (.int .u8 b.toNat)
      | none=>none
       else none
     | _=>none
    | some (.array n et)=>match ev tm x with
     | .agg cs=>R1 i (fun k=>sub cs (k*P.cellsOf et) (P.cellsOf et) fun cs=>Iz (Ht P et) cs K) n
     | _=>none
    | _=>none
   | _=>none
 | .slice t x lo hi none=>match P.underlying t with
   | some .string=>match ev tm x with
     | .str s=>Kp s.length (lo.map (ev tm)) (hi.map (ev tm)) fun l h=>K (.str ((s.take h).drop l))
     | _=>none
   | some (.slice et)=>match decide (0 < P.cellsOf et) with
     | true=>Rf hp (ev tm x) (P.cellsOf et) (lo.map (ev tm)) (hi.map (ev tm)) K
     | false=>none
   | _=>none
 | .extract t k=>match ev tm t with
   | .tup cs=>match nth? cs k with
     | some v=>K v
     | none=>none
   | _=>none
 | .makeFunc (.func f) a b=>K (.func f (a.toList.map (ev tm)) (b.toList.map (ev tm)))
 | .call c=>match c.callee with
   | .builtin .len=>match c.args with
     | ⟨[x]⟩=>match c.argTypes with
       | ⟨[t]⟩=>match P.underlying t with
         | some .string=>match ev tm x with
           | .str s=>K (.int .i64 s.length)
           | _=>none
         | some (.slice _)=>A3y (fun n=>K (.int .i64 n)) (ev tm x)
         | _=>none
       | _=>none
     | _=>none
   | .builtin .min=>match c.args with
     | ⟨[x,y]⟩=>match ev tm x with
       | .int k a=>match ev tm y with
         | .int k' b=>match decide (k=k') with
           | true=>K (.int k (if b < a then b else a))
           | false=>none
         | _=>none
       | _=>none
     | ⟨[x,y,z]⟩=>match ev tm x with
       | .int k a=>match ev tm y with
         | .int k' b=>match ev tm z with
           | .int k2 c=>match decide (k=k')&&decide (k=k2) with
             | true=>K (.int k (Aa5 a b c))
             | false=>none
           | _=>none
         | _=>none
       | _=>none
     | _=>none
   | .builtin .max=>match c.args with
     | ⟨[x,y]⟩=>match ev tm x with
       | .int k a=>match ev tm y with
         | .int k' b=>match decide (k=k') with
           | true=>K (.int k (if a < b then b else a))
           | false=>none
         | _=>none
       | _=>none
     | ⟨[x,y,z]⟩=>match ev tm x with
       | .int k a=>match ev tm y with
         | .int k' b=>match ev tm z with
           | .int k2 c=>match decide (k=k')&&decide (k=k2) with
             | true=>K (.int k (Aal a b c))
             | false=>none
           | _=>none
         | _=>none
       | _=>none
     | _=>none
   | _=>none
 | .lookup t m x ok=>Ok P hp t (ev tm m) (ev tm x) ok K
 | .makeInterface t x=>match Uw P t with
   | some false=>match Js hp (ev tm x) with
     | some a=>K (.ifc t a)
     | none=>none
   | _=>none
 | .typeAssert x _ a ok=>Sh P a ok (ev tm x) K
 | _=>none
abbrev Bp:=Bool→FuncId→List AV→Hp→Option (AV×Hp)
def Bn (l:List AV) (off:Nat) (xs:List AV):List AV:=l.take off++(xs++l.drop (off+xs.length))
def Hl (H:Bv) (f:FuncId) (d:Option Tmp):Bool:=match d with
 | some d=>H.obj f d
 | none=>false
def Iy (H:Bv) (f:FuncId) (d:Option Tmp):Bool:=match d with
 | some d=>H.arr f d
 | none=>false
def Iw (H:Bv) (f:FuncId) (d:Option Tmp):Bool:=match d with
 | some d=>H.stk f d
 | none=>false
def A5e (b:Bool) (hp:Hp) (K:AV→Hp→Option ρ) (v:AV):Option ρ:=match b with
 | false=>K v hp
 | true=>match v with
   | .stk id ver n=>match nth? hp id with
     | some (.stk v e size els)=>match decide (v=ver) with
       | true=>C8 (K (.stk id (ver+1) n)) (Bq hp id (.stk (ver+1) e size (els.take n)))
       | false=>none
     | _=>none
   | _=>none
def Nx (P:Program) (t:TypeId) (row arr:Bool) (hp:Hp) (K:AV→Hp→Option ρ) (v:AV):Option ρ:=match row with
 | true=>match Fr P t with
   | some e=>match v with
     | .sl size els=>match decide (size=P.cellsOf e)&&decide (0 < size) with
       | true=>match arr with
         | true=>C8 (fun hp'=>K (.stk hp.length 0 els.length) hp') (hp++[.stk 0 e size els])
         | false=>C8 (fun hp'=>K (.row hp.length els.length) hp') (hp++[.row e size els])
       | false=>none
     | _=>none
   | none=>none
 | false=>match arr with
   | true=>match v with
     | .sl size els=>C8 (fun hp'=>K (.own hp.length 0 els.length) hp') (hp++[.arr size els])
     | _=>none
   | false=>K v hp
def Lx (H:Bv) (f:FuncId) (d:Option Tmp):Bool:=match d with
 | some d=>H.ado f d
 | none=>false
def Tc (k:Nat):AV→AV
 | .ptr id off=>.ptr (k+id) off
 | .pte id i off=>.pte (k+id) i off
 | .vsl id off n c=>.vsl (k+id) off n c
 | .vel id off=>.vel (k+id) off
 | .row id n=>.row (k+id) n
 | .own id off n=>.own (k+id) off n
 | .stk id v n=>.stk (k+id) v n
 | .pts id v i off=>.pts (k+id) v i off
 | .mapp id=>.mapp (k+id)
 | .func f [] []=>.func f [] []
 | .func _ _ _=>.junk
 | .agg _=>.junk
 | .tup _=>.junk
 | .mfn _ _=>.junk
 | a=>a
def Sv (k:Nat):AV→AV
 | .agg cs=>.agg (cs.map (Tc k))
 | .func f a b=>.func f (a.map (Tc k)) (b.map (Tc k))
 | a=>Tc k a
def A2p (k:Nat):AV→AV
 | .tup cs=>.tup (cs.map (Sv k))
 | .mfn kd els=>.mfn kd (els.map (List.map (Sv k)))
 | a=>Sv k a
def J5 (k:Nat):Ob→Ob
 | .var t cs=>.var t (cs.map (Sv k))
 | .mpo kd els=>.mpo kd (els.map (List.map (Sv k)))
 | o=>o
def Ca (P:Program) (z:Nat→Bool):Nat→List TypeId→List AV→List AV×List Ob
 | n,t :: ts,.nils :: l=>match Fr P t with
   | some e=>match decide (0 < P.cellsOf e) with
     | true=>match z (P.cellsOf e) with
       | true=>(.sl (P.cellsOf e) [] :: (Ca P z n ts l).1,(Ca P z n ts l).2)
       | false=>(.row n 0 :: (Ca P z (n+1) ts l).1,.row e (P.cellsOf e) [] :: (Ca P z (n+1) ts l).2)
     | false=>(.nils :: (Ca P z n ts l).1,(Ca P z n ts l).2)
   | none=>(.nils :: (Ca P z n ts l).1,(Ca P z n ts l).2)
 | n,_ :: ts,a :: l=>(a :: (Ca P z n ts l).1,(Ca P z n ts l).2)
 | _,_,l=>(l,[])
def Dq (P:Program) (z:Nat→Bool):Nat→List Ob→List Ob×List Ob
 | n,.var t cs :: l =>
  (.var t (Ca P z n (Gk P 6 t) cs).1 :: (Dq P z (n+(Ca P z n (Gk P 6 t) cs).2.length) l).1,
   (Ca P z n (Gk P 6 t) cs).2++(Dq P z (n+(Ca P z n (Gk P 6 t) cs).2.length) l).2)
 | n,o :: l=>(o :: (Dq P z n l).1,(Dq P z n l).2)
 | _,[]=>([],[])
def Qb (P:Program) (z:Nat→Bool) (b:Bool) (hp:Hp):Hp:=match b with
 | true=>(Dq P z hp.length hp).1++(Dq P z hp.length hp).2
 | false=>hp
def Vf (P:Program) (call:Bp) (g:FuncId) (hp:Hp) (ids:List Nat) (as:List AV) (K:AV→Hp→Option ρ):Option ρ :=
 F4 Nb (fun as=>C8 (fun hpR=>match call false g as hpR with
  | some (v,hpn)=>match decide (hpn.length=ids.length) with
    | true=>C8 (K (Aad (nth? ids) v)) (T1 P ids ids hpn hp)
    | false=>none
  | none=>none) (Lu P (Iv ids 0) hp ids)) (as.map (T8 (Iv ids 0)))
def U8 (nr:Bool) (hp:Hp) (a:AV):AV:=match nr with
 | true=>a
 | false=>Wd hp a
def Mq (P:Program) (call:Bp) (g:FuncId) (nr:Bool) (raw:List AV) (hp:Hp) (K:AV→Hp→Option ρ):Option ρ:=match idB hp.length (Cd E9 raw) with
 | true=>F4 Nb (fun as=>match P8 hp 64 (Cd E9 as) [] with
   | some ids=>Sk (fun ids=>Vf P call g hp ids as K) ids
   | none=>none) (raw.map (U8 nr hp))
 | false=>none
def qA (ids:List Nat) (m k:Nat):Option Nat:=match nth? ids k with
 | some i=>some i
 | none=>some (m+(k - ids.length))
def Lw (P:Program) (q:Nat→Option Nat):List Nat→Hp→Hp→Hp
 | id :: l,o :: hpn,hp=>Lw P q l hpn (Bq hp id (Jb P q o))
 | [],hpn,hp=>hp++hpn.map (Jb P q)
 | _ :: _,[],hp=>hp
def A13 (P:Program) (call:Bp) (g:FuncId) (hp:Hp) (ids:List Nat) (as:List AV) (K:AV→Hp→Option ρ):Option ρ :=
 F4 Nb (fun as=>C8 (fun hpR=>match call true g as hpR with
  | some (v,hpn)=>match decide (ids.length≤hpn.length) with
    | true=>C8 (K (Aad (qA ids hp.length) v)) (Lw P (qA ids hp.length) ids hpn hp)
    | false=>none
  | none=>none) (Lu P (Iv ids 0) hp ids)) (as.map (T8 (Iv ids 0)))
def Tg (P:Program) (call:Bp) (g:FuncId) (raw:List AV) (hp:Hp) (K:AV→Hp→Option ρ):Option ρ:=match idB hp.length (Cd E9 raw) with
 | true=>F4 Nb (fun as=>match P8 hp 64 (Cd E9 as) [] with
   | some ids=>Sk (fun ids=>A13 P call g hp ids as K) ids
   | none=>none) (raw.map (Wd hp))
 | false=>none
def A29:Operand→Bool
 | .tmp _=>true
 | _=>false
def Vu (H:Bv) (f:FuncId) (fo:Operand) (g:FuncId):Bool:=H.inl f g || (A29 fo&&H.ind f)
def Tr (H:Bv) (f:FuncId) (fo:Operand) (g:FuncId):Bool:=H.upc f g&&!A29 fo
def Aa4 (hp:Hp):AV→Option (AV×Hp)
 | .mapp id=>match nth? hp id with
   | some (.mp kd _ els)=>some (.mcl kd els,Bq hp id (.mp kd true els))
   | _=>none
 | a=>match D9 hp a with
   | some v=>some (v,hp)
   | none=>none
def Ad6 (P:Program) (hp:Hp) (t:TypeId) (m k x:AV) (K:AV→Hp→Option ρ):Option ρ:=match Sa P t with
 | some (kt,_)=>match m with
   | .mapp id=>match nth? hp id with
     | some (.mp kd false _)=>match W8 P kt kd k with
       | true=>match Aa4 hp x with
         | some (v,hp')=>match nth? hp' id with
           | some (.mp kd' false els)=>match decide (kd'=kd) with
             | true=>C8 (K .junk) (Bq hp' id (.mp kd false (Mx els k v)))
             | false=>none
           | _=>none
         | none=>none
       | false=>none
     | some (.mpo kd els)=>match W8 P kt kd k&&x.one with
       | true=>C8 (K .junk) (Bq hp id (.mpo kd (Mx els k x)))
       | false=>none
     | _=>none
   | _=>none
 | none=>none
def A5q (P:Program) (hp:Hp) (t:TypeId) (m k x:AV) (K:AV→Hp→Option ρ):Option ρ:=Nj (fun k=>Ad6 P hp t m k x K) k
def Aeg (P:Program) (hp:Hp) (t:TypeId) (m k:AV) (K:AV→Hp→Option ρ):Option ρ:=match Sa P t with
 | some (kt,et)=>match zero P et with
   | some z=>match D9 [] z with
     | some z=>match m with
       | .mapp id=>match nth? hp id with
         | some (.mp kd false els)=>match W8 P kt kd k with
           | true=>bif decide (els.length≤140737488355328) then C8 (K (.tup [Gj z els k,.int .i64 (Fu els k:Nat)])) (Bq hp id (.mp kd false (Mt z els k))) else none
           | false=>none
         | _=>none
       | _=>none
     | none=>none
   | none=>none
 | none=>none
def Aa7 (P:Program) (hp:Hp) (t:TypeId) (m k:AV) (K:AV→Hp→Option ρ):Option ρ:=Nj (fun k=>Aeg P hp t m k K) k
def Ux (hp:Hp) (m s x:AV) (K:AV→Hp→Option ρ):Option ρ:=match m with
 | .mapp id=>match nth? hp id with
   | some (.mp kd false els)=>match s with
     | .int .i64 n=>match D9 hp x with
       | some v=>bif decide (0≤n)&&decide (n < (els.length:Int)) then C8 (K .junk) (Bq hp id (.mp kd false (Ru els n.toNat v))) else none
       | none=>none
     | _=>none
   | _=>none
 | _=>none
def kd1:AV→Nat
 | .int _ _=>1
 | .str _=>2
 | .bool _=>3
 | _=>0
def eqL:List Nat→List Nat→Bool
 | [],[]=>true
 | a :: l,b :: m=>match Nat.beq a b with
   | true=>eqL l m
   | false=>false
 | _,_=>false
def Asd (pat:List Nat) (el:List AV):Bool:=eqL (el.map kd1) pat
def Td (pat:List Nat) (els:List (List AV)):Bool:=els.all (Asd pat)
def noZ:List Nat→Bool
 | []=>true
 | k :: l=>match Nat.beq k 0 with
   | true=>false
   | false=>noZ l
def Asg (P:Program) (t:TypeId):Nat:=match P.underlying t with
 | some (.int _)=>1
 | some .string=>2
 | some .bool=>3
 | _=>0
def Qi (P:Program) (t:TypeId):List Nat:=match Fr P t with
 | some e=>(Gk P 9 e).map (Asg P)
 | none=>[]
def Ym (a:Nat):List Nat→Nat→List (Nat×Nat)
 | [],z=>[(a,z)]
 | b :: l,z=>(a,b) :: Ym b l z
def Ard:List Nat→List (Nat×Nat)
 | []=>[]
 | a :: l=>Ym a l a
def A7j (q:Nat×Nat):List (Nat×Nat)→Bool
 | []=>true
 | r :: l=>match Nat.beq q.1 r.1&&Nat.beq q.2 r.2 with
   | true=>false
   | false=>A7j q l
def Tz (l:List (Nat×Nat)):Nat→List Nat→Bool
 | _,[]=>false
 | a,b :: m=>match A7j (a,b) l with
   | true=>true
   | false=>Tz l b m
def Aip (p q:List Nat):Bool:=match p with
 | []=>false
 | a :: l=>Tz (Ard q) a l
def Ad1 (P:Program) (g:FuncId) (as:List AV) (r:Option (AV×Hp)):Option (AV×Hp):=match P.funcs[g]? with
 | some fn=>match r with
   | some (.tup (.sl size els :: rest),[])=>match as with
     | .sl sz els' :: more=>match (Aip (Qi P (nth 0 fn.resultTypes.toList 0)) (Qi P (nth 0 fn.params.toList 0))&&(noZ (Qi P (nth 0 fn.resultTypes.toList 0))&&noZ (Qi P (nth 0 fn.params.toList 0))))&&(decide (size=(Qi P (nth 0 fn.resultTypes.toList 0)).length)&&(decide (sz=(Qi P (nth 0 fn.params.toList 0)).length)&&(rest.all Tp&&more.all Tp))) with
       | true=>bif Td (Qi P (nth 0 fn.resultTypes.toList 0)) els&&Td (Qi P (nth 0 fn.params.toList 0)) els' then(bif decide (els.length=0) then some (.tup (.sl size els :: rest),[]) else some (.tup (.own 0 0 els.length :: rest),[.arr size els])) else none
       | false=>none
     | _=>none
   | _=>none
 | none=>none
def Acr (P:Program) (b:Bool) (call:Bp) (g:FuncId) (as:List AV):Option (AV×Hp):=match b with
 | true=>Ad1 P g as (call false g as [])
 | false=>call true g as []
def A7o (tm:Tm):Option Operand→Bool
 | none=>true
 | some x=>match ev tm x with
   | .int _ _=>true
   | _=>false
def Aet (P:Program) (b:Bool) (t:TypeId):AV:=match b with
 | true=>Tv P t .nils
 | false=>.nils
def By (P:Program) (H:Bv) (call:Bp) (f:FuncId) (o:Oper) (tm:Tm) (hp:Hp) (K:AV→Hp→Option ρ):Option ρ:=match o.op with
 | .assign x=>match ev tm x with
   | .nils=>match Hl H f o.dst with
    | true=>match Fr P o.type with
      | some e=>match decide (0 < P.cellsOf e) with
        | true=>C8 (fun hp'=>K (.row hp.length 0) hp') (hp++[.row e (P.cellsOf e) []])
        | false=>none
      | none=>none
    | false=>match Iw H f o.dst with
      | true=>match Fr P o.type with
        | some e=>match decide (0 < P.cellsOf e) with
          | true=>C8 (fun hp'=>K (.stk hp.length 0 0) hp') (hp++[.stk 0 e (P.cellsOf e) []])
          | false=>none
        | none=>none
      | false=>K (Aet P (Lx H f o.dst) o.type) hp
   | _=>K (ev tm x) hp
 | .buildSlice t n ps=>Bs P tm hp (.buildSlice t n ps) fun v=>Nx P t (Hl H f o.dst) (Iy H f o.dst) hp K v
 | .makeSlice t n c=>Bs P tm hp (.makeSlice t n c) fun v=>Nx P t (Hl H f o.dst) (Iy H f o.dst) hp K v
 | .alloc e=>match zero P e with
   | some z=>match decide (z.cells.length=P.cellsOf e)&&z.cells.all AV.one with
     | true=>C8 (fun hp'=>K (.ptr hp.length 0) hp') (hp++[.var e z.cells])
     | false=>none
   | none=>none
 | .box e x=>match (ev tm x).cells.all AV.one with
   | true=>C8 (fun hp'=>K (.ptr hp.length 0) hp') (hp++[.var e (ev tm x).cells])
   | false=>none
 | .store t a x=>match decide ((ev tm x).cells.length=P.cellsOf t)&&decide (0 < P.cellsOf t)&&(ev tm x).cells.all AV.one with
   | true=>match ev tm a with
     | .ptr id off=>match nth? hp id with
       | some (.var e cs)=>bif decide (off+P.cellsOf t≤cs.length) then C8 (K .junk) (Bq hp id (.var e (Bn cs off (ev tm x).cells))) else none
       | _=>none
     | .vel id off=>match nth? hp id with
       | some (.var e cs)=>bif decide (off+P.cellsOf t≤cs.length) then C8 (K .junk) (Bq hp id (.var e (Bn cs off (ev tm x).cells))) else none
       | _=>none
     | .pte id i off=>match nth? hp id with
       | some (.arr size els)=>match nth? els i with
         | some el=>match D0 hp (ev tm x).cells with
           | some c=>bif decide (off+P.cellsOf t≤el.length) then C8 (K .junk) (Bq hp id (.arr size (Bq els i (Bn el off c)))) else none
           | none=>none
         | none=>none
       | _=>none
     | .pts id ver i off=>match nth? hp id with
       | some (.stk v e size els)=>match decide (v=ver) with
         | true=>match nth? els i with
           | some el=>match D0 hp (ev tm x).cells with
             | some c=>bif decide (off+P.cellsOf t≤el.length) then C8 (K .junk) (Bq hp id (.stk v e size (Bq els i (Bn el off c)))) else none
             | none=>none
           | none=>none
         | false=>none
       | _=>none
     | _=>none
   | false=>none
 | .call c=>match c.callee with
   | .value fo=>match ev tm fo with
     | .func g a b=>match H.good.contains g with
       | true=>match Vu H f fo g with
         | true=>match Lx H f o.dst with
           | true=>C8 (fun hp=>Tg P call g (a++Df P c.argTypes.toList (c.args.toList.map (ev tm))++b) hp K) (Qb P (fun _=>false) (Tr H f fo g) hp)
           | false=>C8 (fun hp=>Mq P call g (H.raw g) (a++Df P c.argTypes.toList (c.args.toList.map (ev tm))++b) hp K) (Qb P (fun _=>false) (Tr H f fo g) hp)
         | false=>match Lx H f o.dst with
          | true=>match El hp (a++Df P c.argTypes.toList (c.args.toList.map (ev tm))++b) with
            | some as=>match Acr P (Iy H f o.dst) call g as with
              | some (v,hpn)=>C8 (fun hp'=>K (A2p hp.length v) hp') (hp++hpn.map (J5 hp.length))
              | none=>none
            | none=>none
          | false=>match A2m (a++Df P c.argTypes.toList (c.args.toList.map (ev tm))++b) with
           | false=>match El hp (a++Df P c.argTypes.toList (c.args.toList.map (ev tm))++b) with
             | some as=>match call false g as [] with
               | some (v,[])=>K v hp
               | _=>none
             | none=>none
           | true=>match E6 hp (a++Df P c.argTypes.toList (c.args.toList.map (ev tm))++b) with
             | some as=>match call false g as [] with
               | some (v,[])=>match A5p v with
                 | true=>K v hp
                 | false=>none
               | _=>none
             | none=>none
       | false=>none
     | _=>none
   | .builtin .copy=>match c.args with
     | ⟨[d,x]⟩=>match c.argTypes with
       | ⟨[t,_]⟩=>match Fr P t with
         | some e=>match ev tm d with
           | .own id off n=>match nth? hp id with
             | some (.arr size els)=>match decide (size=P.cellsOf e)&&decide (0 < size) with
               | true=>match E0 hp size (ev tm x) with
                 | some news=>bif decide (off+n≤els.length) then C8 (K (.int .i64 ((Nat.min news.length n:Nat):Int))) (Bq hp id (.arr size (els.take off++(news.take n++els.drop (off+Nat.min news.length n))))) else none
                 | none=>none
               | false=>none
             | _=>none
           | _=>none
         | none=>none
       | _=>none
     | _=>none
   | .builtin .append=>match c.args with
     | ⟨[s,x]⟩=>match c.argTypes with
       | ⟨[t,t']⟩=>match decide (t=t') with
         | true=>match Fr P t with
           | some e=>match zero P e with
             | some z=>match decide (z.cells.length=P.cellsOf e)&&z.cells.all AV.one&&decide (0 < P.cellsOf e) with
               | true=>match E0 hp (P.cellsOf e) (ev tm x) with
                 | some news=>match ev tm s with
                   | .nils=>bif decide (news.length*(P.bytesOf e+1)≤140737488355328) then match Iy H f o.dst with
                     | false=>match Hl H f o.dst with
                      | false=>K (.sl (P.cellsOf e) news) hp
                      | true=>C8 (fun hp'=>K (.row hp.length news.length) hp') (hp++[.row e (P.cellsOf e) news])
                     | true=>bif decide (news.length=0) then K .nils hp else C8 (fun hp'=>K (.own hp.length 0 news.length) hp') (hp++[.arr (P.cellsOf e) news]) else none
                   | .row id n=>match nth? hp id with
                     | some (.row e' size els)=>match decide (e'=e)&&decide (size=P.cellsOf e) with
                       | true=>bif decide (n=els.length)&&decide ((els.length+news.length)*(P.bytesOf e+1)≤140737488355328) then
                        C8 (K (.row id (els.length+news.length))) (Bq hp id (.row e (P.cellsOf e) (els++news))) else none
                       | false=>none
                     | _=>none
                   | .stk id ver n=>match nth? hp id with
                     | some (.stk v e' size els)=>match Iw H f o.dst&&(decide (v=ver)&&decide (e'=e)&&decide (size=P.cellsOf e)) with
                       | true=>bif decide (n=els.length)&&decide ((els.length+news.length)*(P.bytesOf e+1)≤140737488355328) then
                        C8 (K (.stk id (ver+1) (els.length+news.length))) (Bq hp id (.stk (ver+1) e (P.cellsOf e) (els++news))) else none
                       | false=>none
                     | _=>none
                   | _=>none
                 | none=>none
               | false=>none
             | none=>none
           | none=>none
         | false=>none
       | _=>none
     | _=>none
   | _=>Bs P tm hp o.op fun v=>K v hp
 | .slice t x lo hi mx=>Bs P tm hp (.slice t x lo hi mx) fun v=>A5e (Iw H f o.dst) hp K v
 | .makeMap t r=>match Sa P t with
   | some (kt,et)=>match A7o tm r with
     | true=>match Ae8 P kt with
       | some kd=>match Asp P et with
         | true=>C8 (fun hp'=>K (.mapp hp.length) hp') (hp++[.mpo kd []])
         | false=>C8 (fun hp'=>K (.mapp hp.length) hp') (hp++[.mp kd false []])
       | none=>none
     | false=>none
   | none=>none
 | .mapUpdate t m k x=>A5q P hp t (ev tm m) (ev tm k) (ev tm x) K
 | .insert t m k x=>A5q P hp t (ev tm m) (ev tm k) (ev tm x) K
 | .mapEntry t m k=>Aa7 P hp t (ev tm m) (ev tm k) K
 | .entryStore _ m s x=>Ux hp (ev tm m) (ev tm s) (ev tm x) K
 | op=>Bs P tm hp op fun v=>K v hp
def put (tm:Tm) (d:Option Tmp) (v:AV):Tm:=match d with
 | some d=>Bq tm d v
 | none=>tm
def T4 (P:Program) (H:Bv) (call:Bp) (f:FuncId) (ops:List Oper) (o:Oper) (rest:Tm→Hp→(Tm→Hp→Option ρ)→Option ρ) (tm:Tm) (hp:Hp) (K:Tm→Hp→Option ρ):Option ρ:=match o.guard with
    | none=>By P H call f o tm hp fun v hp=>It tm o.dst v fun tm=>rest tm hp K
    | some (j,want)=>match (nth? ops j).bind (·.dst) with
      | none=>none
      | some t=>match nth .junk tm t with
        | .bool b=>match want with
          | true=>bif b then By P H call f o tm hp (fun v hp=>It tm o.dst v fun tm=>rest tm hp K) else(It tm o.dst (.tup []) fun tm=>rest tm hp K)
          | false=>bif b then(It tm o.dst (.tup []) fun tm=>rest tm hp K) else By P H call f o tm hp (fun v hp=>It tm o.dst v fun tm=>rest tm hp K)
        | .tup []=>It tm o.dst (.tup []) fun tm=>rest tm hp K
        | _=>none
noncomputable def Ou (P:Program) (H:Bv) (call:Bp) (f:FuncId) (ops:List Oper) (l:List Oper):Tm→Hp→(Tm→Hp→Option ρ)→Option ρ :=
 @List.rec Oper (fun _=>Tm→Hp→(Tm→Hp→Option ρ)→Option ρ) (fun tm hp K=>K tm hp) (fun o _ ih=>T4 P H call f ops o ih) l
inductive Cls where
 | P | R | C | A | G | W | S
 deriving DecidableEq
def Y5:List Operand→Bool
 | .const (.slice none 0 0) :: _=>true
 | _=>false
def cls (H:Bv) (f:FuncId) (o:Oper):Cls:=match o.op with
 | .assign _=>match Hl H f o.dst with
   | true=>.A
   | false=>match Iw H f o.dst with
     | true=>.W
     | false=>.P
 | .alloc _ | .box _ _=>.A
 | .load _ _ | .indexAddr _ _ _=>.R
 | .store _ _ _=>.S
 | .convert _ _ _=>.C
 | .buildSlice _ _ _=>match Hl H f o.dst || Iy H f o.dst with
   | true=>.A
   | false=>.C
 | .makeSlice _ _ _=>match Hl H f o.dst || Iy H f o.dst with
   | true=>.A
   | false=>.P
 | .slice _ _ _ _ _=>match Iw H f o.dst with
   | true=>.W
   | false=>.C
 | .call c=>match c.callee with
   | .value (.func g)=>match H.inl f g with
     | true=>match H.upc f g || Lx H f o.dst with
       | true=>.W
       | false=>.S
     | false=>match Lx H f o.dst with
       | true=>.A
       | false=>.C
   | .value (.tmp _)=>match H.ind f&&!Lx H f o.dst with
     | true=>.S
     | false=>.W
   | .builtin .append=>match Iw H f o.dst with
     | true=>.W
     | false=>match Hl H f o.dst || Iy H f o.dst || !Y5 c.args.toList with
       | true=>.G
       | false=>.C
   | .builtin .copy=>.S
   | .builtin .len=>.P
   | .builtin .min=>.P
   | .builtin .max=>.P
   | _=>.W
 | .move _ | .pick _ _ _ | .binOp _ _ _ _ _ | .unOp _ _ _ | .nilCheck _ | .build _ _ | .fieldAddr _ _ _ | .field _ _ _ | .index _ _ _ | .extract _ _ | .makeFunc _ _ _ | .typeAssert _ _ _ _=>.P
 | .lookup _ _ _ _=>.R
 | .makeInterface _ _=>.C
 | .makeMap _ _=>.A
 | _=>.W
def Ez (o:Oper) (j:Nat):Bool:=o.after.any fun e=>e.on==j&&Region.binds .any e
def Cu (P:Program) (H:Bv) (f:FuncId) (o:Oper) (tm:Tm) (hp:Hp):List Nat:=match cls H f o with
 | .S=>match o.op with
   | .call c=>match c.callee with
     | .value fo=>match ev tm fo with
       | .func g a b=>match P8 hp 64 (Cd E9 ((a++Df P c.argTypes.toList (c.args.toList.map (ev tm))++b).map (U8 (H.raw g) hp))) [] with
         | some ids=>Cd E9 (a++Df P c.argTypes.toList (c.args.toList.map (ev tm))++b)++ids
         | none=>[]
       | _=>[]
     | _=>Cd Na (o.op.operands.toList.map (ev tm))
   | .store _ a x=>match ev tm a with
     | .ptr id _=>[id]
     | .vel id _=>[id]
     | _=>Cv (ev tm a)++Cd Cv (ev tm x).cells
   | _=>[]
 | .R=>Cd Na (o.op.operands.toList.map (ev tm))
 | .C=>Cd Na (o.op.operands.toList.map (ev tm))
 | _=>[]
def A25:List Nat→List Nat→Bool
 | [],_=>true
 | a :: l,m=>match Kd m a with
   | true=>false
   | false=>A25 l m
def anc (ops:List Oper):Nat→Oper→Nat→Bool
 | 0,o,j=>Ez o j
 | n+1,o,j=>Ez o j || o.after.toList.any fun e=>Region.binds .any e&&match nth? ops e.on with
   | some q=>anc ops n q j
   | none=>false
def G8 (ops:List Oper):List Nat→List (Nat×Oper)
 | []=>[]
 | i :: l=>match nth? ops i with
   | some o=>(i,o) :: G8 ops l
   | none=>G8 ops l
def Af1:Nat→List Oper→List (Nat×Oper)
 | _,[]=>[]
 | k,o :: l=>(k,o) :: Af1 (k+1) l
def A0t (ops:List Oper):List Nat→List (Nat×Oper)
 | []=>Af1 0 ops
 | i :: l=>G8 ops (i :: l)
abbrev Log:=List (Nat×Bool×List Nat)
def Aam {α:Type} (p:α→Bool):List α→Bool
 | []=>false
 | a :: l=>match p a with
   | true=>true
   | false=>Aam p l
def A1u (o:Oper) (j:Nat):Bool:=Aam (fun e=>match Nat.beq e.on j with
 | true=>Region.binds .any e
 | false=>false) o.after.toList
def Afj (ops:List Oper):Nat→Oper→Nat→Bool
 | 0,o,j=>A1u o j
 | n+1,o,j=>match A1u o j with
   | true=>true
   | false=>Aam (fun e=>match Region.binds .any e with
     | true=>match nth? ops e.on with
       | some q=>Afj ops n q j
       | none=>false
     | false=>false) o.after.toList
def Ta (ops:List Oper) (o:Oper) (s:Bool) (ft:List Nat):Log→Bool
 | []=>true
 | e :: l=>match e.2.1==s with
   | true=>Ta ops o s ft l
   | false=>match A25 ft e.2.2 with
     | true=>Ta ops o s ft l
     | false=>match Afj ops 9 o e.1 with
       | true=>Ta ops o s ft l
       | false=>false
def D6 (H:Bv) (f:FuncId) (o:Oper):Option Bool:=match cls H f o with
 | .S=>some true
 | .R=>some false
 | .C=>some false
 | _=>none
noncomputable def A16 (P:Program) (H:Bv) (call:Bp) (f:FuncId) (ops:List Oper) (l:List (Nat×Oper)):Log→Tm→Hp→(Tm→Hp→Option ρ)→Option ρ :=
 @List.rec (Nat×Oper) (fun _=>Log→Tm→Hp→(Tm→Hp→Option ρ)→Option ρ) (fun _ tm hp K=>K tm hp) (fun p _ ih log tm hp K=>match D6 H f p.2 with
  | none=>T4 P H call f ops p.2 (ih log) tm hp K
  | some s=>Sk (fun ft=>match Ta ops p.2 s ft log with
    | true=>T4 P H call f ops p.2 (ih ((p.1,s,ft) :: log)) tm hp K
    | false=>none) (Cu P H f p.2 tm hp)) l
def isS (H:Bv) (f:FuncId) (o:Oper):Bool:=match cls H f o with
 | .S=>true
 | _=>false
inductive Ex where
 | normal | exit (id:Nat) | ret
def A37:(List Oper→Option ρ)→List Oper→Option ρ
 | K,[]=>K []
 | K,o :: l=>A37 (fun l=>K (o :: l)) l
def Zc (ops:List Oper):List Nat→List Oper
 | []=>[]
 | i :: l=>match nth? ops i with
   | some o=>o :: Zc ops l
   | none=>Zc ops l
def Xm (ops:List Oper):List Nat→List Oper
 | []=>ops
 | i :: l=>Zc ops (i :: l)
def A1s:Ex→Nat
 | .normal=>0
 | .exit _=>1
 | .ret=>2
noncomputable def O3 (c:Code):Nat:=@Code.rec (fun _=>Nat) 0 (fun id _ _=>id+1) (fun _ _ ia _=>ia) (fun _ _ _ ia _=>ia) (fun _ _ ib=>ib) (fun _ ib=>ib+10000) (fun _ _ _ _ _ _=>0) (fun _=>0) (fun _ ib=>ib) (fun _=>0) (fun _=>0) 0 (fun _=>0) c
def rounds (body:Tm→Hp→(Ex→Tm→Hp→Option ρ)→Option ρ) (keep:Nat→List Nat) (h0:Nat):Nat→Tm→Hp→(Ex→Tm→Hp→Option ρ)→Option ρ
 | 0,_,_,_=>none
 | n+1,tm,hp,K=>body tm hp fun e tm hp=>F4 force (fun tm=>C8 (fun hp=>match e with
   | .normal=>rounds body keep h0 n tm hp K
   | .exit id=>K (.exit id) tm hp
   | .ret=>K .ret tm hp) (G4 h0 hp)) (Sy (keep (A1s e)) h0 hp 0 tm)
def A2z (keep:List Nat):Nat→Tm→Tm
 | _,[]=>[]
 | i,a :: l=>(match Kd keep i with
   | true=>a
   | false=>.junk) :: A2z keep (i+1) l
@[irreducible] def A7i (run:(Tm→Hp→Option ρ)→Option ρ) (K:Tm→Hp→Option ρ):Option ρ:=run K
noncomputable def A96 (P:Program) (H:Bv) (call:Bp) (f:FuncId) (id:Nat) (ops:Array Oper) (draw:Bool) (tm:Tm) (hp:Hp) (K:Tm→Hp→Option ρ):Option ρ :=
 A37 (fun ops=>match draw&&H.dyn f id with
  | false=>Ou P H call f ops (Xm ops (H.order f id)) tm hp K
  | true=>A16 P H call f ops (A0t ops (H.order f id)) [] tm hp K) ops.toList
def swp (k i x:Nat):Option Nat:=match Nat.beq x k with
 | true=>some i
 | false=>match Nat.beq x i with
   | true=>some k
   | false=>some x
def Xh (q:Nat→Option Nat):Ob→Ob
 | .var t cs=>.var t (cs.map (T8 q))
 | .mpo kd els=>.mpo kd (els.map (List.map (T8 q)))
 | o=>o
def swR (hb:Nat) (tm0:Tm) (K:Tm→Hp→Option ρ) (tm:Tm) (hp:Hp):List Nat→Option ρ
 | []=>K tm hp
 | s :: _=>match nth .junk tm0 s with
   | .ptr k _=>match nth .junk tm s with
     | .ptr i _=>match decide (hb≤k)&&decide (k < i) with
       | true=>match nth? hp k with
         | some a=>match nth? hp i with
           | some b=>F4 force (fun tm=>C8 (fun hp=>K tm hp) ((Bq (Bq hp k b) i a).map (Xh (swp k i)))) (tm.map (Aad (swp k i)))
           | none=>none
         | none=>none
       | false=>none
     | _=>none
   | _=>none
noncomputable def O0 (P:Program) (H:Bv) (call:Bp) (f:FuncId) (fuel hb:Nat) (c:Code):Tm→Hp→(Ex→Tm→Hp→Option ρ)→Option ρ :=
 @Code.rec (fun _=>Tm→Hp→(Ex→Tm→Hp→Option ρ)→Option ρ)
  (fun tm hp K=>K .normal tm hp)
  (fun id ops draw tm hp K=>match H.join f id with
   | []=>A96 P H call f id ops draw tm hp fun tm' hp'=>swR hb tm (K .normal) tm' hp' (H.cy f id)
   | k :: keep=>A7i (fun K'=>A96 P H call f id ops draw tm hp fun tm hp=>F4 force (fun tm=>K' tm hp) (A2z (k :: keep) 0 tm)) fun tm hp=>K .normal tm hp)
  (fun _ _ ia ib tm hp K=>ia tm hp fun e tm hp=>match e with
   | .normal=>ib tm hp K
   | .exit id=>K (.exit id) tm hp
   | .ret=>K .ret tm hp)
  (fun x _ _ ia ib tm hp K=>match ev tm x with
   | .bool t=>bif t then ia tm hp K else ib tm hp K
   | _=>none)
  (fun id _ ib tm hp K=>ib tm hp fun e tm hp=>match e with
   | .normal=>K .normal tm hp
   | .ret=>K .ret tm hp
   | .exit k=>match decide (k=id) with
     | true=>K .normal tm hp
     | false=>K (.exit k) tm hp)
  (fun b ib tm hp K=>C8 (fun hp1=>F4 force (fun tm=>C8 (fun hp2=>rounds ib (H.keep f (O3 b)) hp1.length fuel tm hp2 K) (G4 hp1.length hp1)) (Sy (H.keep f (O3 b) 0) hp1.length hp1 0 tm)) (Qb P (H.upz f) (H.ups f) hp))
  (fun _ _ _ _ _ _ _ _ _=>none)
  (fun id tm hp K=>K (.exit id) tm hp)
  (fun _ ib tm hp K=>ib tm hp K)
  (fun _ tm hp K=>K .normal tm hp)
  (fun _ _ _ _=>none)
  (fun tm hp K=>K .ret tm hp)
  (fun _ _ _ _=>none) c
def A3x (P:Program) (tm:Tm) (hp:Hp) (K:List AV→Option ρ):List ResultVar→Option ρ
 | []=>K []
 | .tmp t :: l=>A3x P tm hp (fun vs=>K (nth .junk tm t :: vs)) l
 | .cell t ty :: l=>load P hp ty (fun v=>A3x P tm hp (fun vs=>K (v :: vs)) l) (nth .junk tm t)
def Wb (P:Program) (fn:Func) (tm:Tm) (hp:Hp) (K:AV→Option ρ):Option ρ :=
 A3x P tm hp (fun vs=>match vs with
  | [v]=>K (A4n P (nth 0 fn.resultTypes.toList 0) v)
  | vs=>K (.tup (Df P fn.resultTypes.toList vs))) fn.results.toList
end
def Nl (P:Program):Ob→Ob
 | .var t cs=>.var t (Jx P (Gk P 6 t) cs)
 | o=>o
def A7q (P:Program) (stay:Bool) (h0:Nat) (v:AV) (hp:Hp):Option (AV×Hp):=match stay with
 | true=>some (v,hp)
 | false=>some (wane h0 hp v,(G4 h0 hp).map (Nl P))
noncomputable def Zo (P:Program) (H:Bv) (call:Bp) (fuel:Nat) (stay:Bool) (f:FuncId) (args:List AV) (hp:Hp):Option (AV×Hp):=match P.funcs[f]? with
 | some fn=>match fn.body with
   | some c=>match H.plain.contains f&&decide (args.length≤fn.ntmps) with
     | true=>O0 P H call f fuel hp.length c (args++List.replicate (fn.ntmps - args.length) .junk) hp fun e tm hp'=>match e with
       | .exit _=>none
       | _=>Wb P fn tm hp' fun v=>A7q P stay hp.length v hp'
     | false=>none
   | none=>none
 | none=>none
abbrev Ext:=FuncId→Option (List AV→Option AV)
noncomputable def Qk (P:Program) (H:Bv) (X:Ext):Nat→Bp
 | 0=>fun _ _ _ _=>none
 | n+1=>fun st f args hp=>match X f with
   | some g=>match hp with
     | []=>match g args with
       | some v=>some (v,[])
       | none=>none
     | _=>none
   | none=>Zo P H (Qk P H X n) n st f args hp
noncomputable abbrev Al (P:Program) (H:Bv) (X:Ext) (n:Nat):FuncId→List AV→Hp→Option (AV×Hp):=Qk P H X n false
theorem B0 {α:Type} {c:Bool} {a b r:α} (h:c=true) (h2:a=r):(bif c then a else b)=r:=by rw[h];exact h2
theorem Cl {α:Type} {c:Bool} {a b r:α} (h:c=false) (h2:b=r):(bif c then a else b)=r:=by rw[h];exact h2
end Go.Proofs.YtfabdppicogkmaaGreat
end
