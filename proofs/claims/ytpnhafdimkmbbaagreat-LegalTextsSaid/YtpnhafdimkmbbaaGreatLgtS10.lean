/- Parts of the proofs: what they lean on. Conditions: none. -/
import Derived.WalkKit
import Derived.Lib.Hide
import Derived.Handy
import Derived.PlainAid
import Derived.Test.YtpnhafdimkmbbaaGreatLgtS9
section
namespace Go.Proofs.YtpnhafdimkmbbaaGreat
def El (c:Int):Bool:=decide ((97≤c∧c≤122)∨(65≤c∧c≤90)∨c=95)
def Dr (c:Int):Bool:=decide (48≤c∧c≤57)
def Jg (c:Int):Bool:=El c || Dr c
def Mz (c:Int):Bool:=decide (c≠10)
theorem U5 (s:ByteArray):s.data.toList.length=s.size:=Array.length_toList
def Di (p:Int→Bool) (l:List UInt8):Nat:=(l.takeWhile fun c=>p c.toNat).length
theorem Yr {c:Int} (h:128≤c):El c=false:=by simp[El];omega
theorem A0g {c:Int} (h:128≤c):Dr c=false:=by simp[Dr];omega
def kws:List (List UInt8):=[[109,111,100],[108,111,99],[116,104,114,101,97,100],[114,101,103],[115,107,105,112],[115,101,116],[108,111,97,100],[115,116,111,114,101],[99,97,115],[102,97,100,100],[120,99,104,103],[102,101,110,99,101],[97,119,97,105,116],[105,102],[101,108,115,101],[119,104,105,108,101],[108,111,111,112],[98,114,101,97,107],[102,111,114,97,108,108],[101,120,105,115,116,115],[97,108,119,97,121,115]]
def kwB (l:List UInt8):Bool:=kws.contains l
def K0:List (List UInt8):=[[61,61],[33,61],[60,61],[38,38],[124,124]]
def A1t:List UInt8:=[59,44,123,125,40,41,46,61,43,45,42,33,60]
def Li (l:List UInt8):Nat:=if K0.contains (l.take 2) then 2 else if l.head?.any A1t.contains then 1 else 0
def Wg (l:List UInt8):Nat:=l.foldl (fun n c=>min (10*n+(c.toNat - 48)) 10000) 0
end Go.Proofs.YtpnhafdimkmbbaaGreat
end
section
namespace Go.Proofs.YtpnhafdimkmbbaaGreat
def Ko (l:List UInt8) (k:Nat):Bool:=match l[k]? with | some c=>El c.toNat || (decide (0 < k)&&Dr c.toNat) | none=>true
def Ca (l:List UInt8):Bool:=!l.isEmpty&&decide (l.length≤16)&&(List.range l.length).all (Ko l)&&!kwB l
theorem A5k {l:List UInt8} {k:Nat} (hk:k < l.length) (h:Ko l k=false):Ca l=false:=by
 have:(List.range l.length).all (Ko l)=false:=by
  rw[Bool.eq_false_iff]
  intro e
  rw[List.all_eq_true] at e
  have:=e k (by simpa using hk)
  rw[h] at this
  simp at this
 simp[Ca,this]
theorem Adk {l:List UInt8} (h:∀ k,k < l.length→Ko l k=true):Ca l=(!l.isEmpty&&decide (l.length≤16)&&!kwB l):=by
 have:(List.range l.length).all (Ko l)=true:=by
  rw[List.all_eq_true]
  intro k hk
  exact h k (by simpa using hk)
 simp[Ca,this]
theorem A5c (s:ByteArray) (k:Nat) (hk:k < s.size):Ko s.data.toList k=(El s[k].toNat || (decide (0 < k)&&Dr s[k].toNat)):=by
 have:s.data.toList[k]?=some s[k]:=by rw[List.getElem?_eq_getElem (by rw[U5];exact hk)];rfl
 simp only[Ko,this]
end Go.Proofs.YtpnhafdimkmbbaaGreat
end
