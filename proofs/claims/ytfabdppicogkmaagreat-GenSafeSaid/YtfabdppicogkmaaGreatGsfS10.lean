/- Parts of the proofs: what they lean on. Conditions: none. -/
import Derived.WalkKit
import Derived.Lib.Hide
import Derived.Handy
import Derived.PlainAid
import Derived.Test.YtfabdppicogkmaaGreatGsfS9
section
namespace Go.Proofs.YtfabdppicogkmaaGreat
def Kn (c:Int):Bool:=decide ((97≤c∧c≤122)∨(65≤c∧c≤90)∨c=95)
def Mk (c:Int):Bool:=decide (48≤c∧c≤57)
theorem Rx (s:ByteArray):s.data.toList.length=s.size:=Array.length_toList
theorem Xv {c:Int} (h:128≤c):Kn c=false:=by simp[Kn];omega
theorem A0a {c:Int} (h:128≤c):Mk c=false:=by simp[Mk];omega
def kws:List (List UInt8):=[[109,111,100],[108,111,99],[116,104,114,101,97,100],[114,101,103],[115,107,105,112],[115,101,116],[108,111,97,100],[115,116,111,114,101],[99,97,115],[102,97,100,100],[120,99,104,103],[102,101,110,99,101],[97,119,97,105,116],[105,102],[101,108,115,101],[119,104,105,108,101],[108,111,111,112],[98,114,101,97,107],[102,111,114,97,108,108],[101,120,105,115,116,115],[97,108,119,97,121,115]]
def kwB (l:List UInt8):Bool:=kws.contains l
def Qm (l:List UInt8) (k:Nat):Bool:=match l[k]? with | some c=>Kn c.toNat || (decide (0 < k)&&Mk c.toNat) | none=>true
def Yz (l:List UInt8):Bool:=!l.isEmpty&&decide (l.length≤16)&&(List.range l.length).all (Qm l)&&!kwB l
theorem Ajz {l:List UInt8} {k:Nat} (hk:k < l.length) (h:Qm l k=false):Yz l=false:=by
 have:(List.range l.length).all (Qm l)=false:=by
  rw[Bool.eq_false_iff]
  intro e
  rw[List.all_eq_true] at e
  have:=e k (by simpa using hk)
  rw[h] at this
  simp at this
 simp[Yz,this]
theorem Afs {l:List UInt8} (h:∀ k,k < l.length→Qm l k=true):Yz l=(!l.isEmpty&&decide (l.length≤16)&&!kwB l):=by
 have:(List.range l.length).all (Qm l)=true:=by
  rw[List.all_eq_true]
  intro k hk
  exact h k (by simpa using hk)
 simp[Yz,this]
theorem A6d (s:ByteArray) (k:Nat) (hk:k < s.size):Qm s.data.toList k=(Kn s[k].toNat || (decide (0 < k)&&Mk s[k].toNat)):=by
 have:s.data.toList[k]?=some s[k]:=by rw[A6 (by rw[Rx];exact hk)];rfl
 simp only[Qm,this]
end Go.Proofs.YtfabdppicogkmaaGreat
end
