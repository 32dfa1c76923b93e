/- Parts of the proofs: what they lean on. Conditions: none. -/
import Derived.WalkKit
import Derived.Lib.Hide
import Derived.Handy
import Derived.PlainAid
import Derived.Test.YtfabdppicogkmaaGreatGsfS9
section
namespace Go.Proofs.YtfabdppicogkmaaGreat
def Ko (c:Int):Bool:=decide ((97≤c∧c≤122)∨(65≤c∧c≤90)∨c=95)
def Mg (c:Int):Bool:=decide (48≤c∧c≤57)
theorem Rq (s:ByteArray):s.data.toList.length=s.size:=Array.length_toList
theorem Yn {c:Int} (h:128≤c):Ko c=false:=by simp[Ko];omega
theorem A0g {c:Int} (h:128≤c):Mg c=false:=by simp[Mg];omega
def kws:List (List UInt8):=[[109,111,100],[108,111,99],[116,104,114,101,97,100],[114,101,103],[115,107,105,112],[115,101,116],[108,111,97,100],[115,116,111,114,101],[99,97,115],[102,97,100,100],[120,99,104,103],[102,101,110,99,101],[97,119,97,105,116],[105,102],[101,108,115,101],[119,104,105,108,101],[108,111,111,112],[98,114,101,97,107],[102,111,114,97,108,108],[101,120,105,115,116,115],[97,108,119,97,121,115]]
def kwB (l:List UInt8):Bool:=kws.contains l
def Qp (l:List UInt8) (k:Nat):Bool:=match l[k]? with | some c=>Ko c.toNat || (decide (0 < k)&&Mg c.toNat) | none=>true
def Z2 (l:List UInt8):Bool:=!l.isEmpty&&decide (l.length≤16)&&(List.range l.length).all (Qp l)&&!kwB l
theorem Ajf {l:List UInt8} {k:Nat} (hk:k < l.length) (h:Qp l k=false):Z2 l=false:=by
 have:(List.range l.length).all (Qp l)=false:=by
  rw[Bool.eq_false_iff]
  intro e
  rw[List.all_eq_true] at e
  have:=e k (by simpa using hk)
  rw[h] at this
  simp at this
 simp[Z2,this]
theorem Acz {l:List UInt8} (h:∀ k,k < l.length→Qp l k=true):Z2 l=(!l.isEmpty&&decide (l.length≤16)&&!kwB l):=by
 have:(List.range l.length).all (Qp l)=true:=by
  rw[List.all_eq_true]
  intro k hk
  exact h k (by simpa using hk)
 simp[Z2,this]
theorem A5x (s:ByteArray) (k:Nat) (hk:k < s.size):Qp s.data.toList k=(Ko s[k].toNat || (decide (0 < k)&&Mg s[k].toNat)):=by
 have:s.data.toList[k]?=some s[k]:=by rw[A6 (by rw[Rq];exact hk)];rfl
 simp only[Qp,this]
end Go.Proofs.YtfabdppicogkmaaGreat
end
