/- Parts of the proofs: what they lean on. Conditions: none. -/
import Derived.WalkKit
import Derived.Lib.Hide
import Derived.Handy
import Derived.PlainAid
import Derived.Test.YteindmlljlboeaaGreatPshS9
section
namespace Go.Proofs.YteindmlljlboeaaGreat
def Fo (c:Int):Bool:=decide ((97≤c∧c≤122)∨(65≤c∧c≤90)∨c=95)
def Ff (c:Int):Bool:=decide (48≤c∧c≤57)
def Wh (c:Int):Bool:=Fo c || Ff c
def A3w (c:Int):Bool:=decide (c≠10)
theorem Mw (s:ByteArray):s.data.toList.length=s.size:=Array.length_toList
def Mz (p:Int→Bool) (l:List UInt8):Nat:=(l.takeWhile fun c=>p c.toNat).length
theorem Xc {c:Int} (h:128≤c):Fo c=false:=by simp[Fo];omega
theorem Rz {c:Int} (h:128≤c):Ff c=false:=by simp[Ff];omega
theorem A75 {c:Int} (h:128≤c):Wh c=false:=by simp[Wh,Xc h,Rz h]
theorem A6z {c:Int} (h:128≤c):A3w c=true:=by simp[A3w];omega
theorem A43 {α:Type} (p:α→Bool) (l:List α) (n:Nat) (h:∀ k (hk:k < l.length),k < n→p l[k]=true) (hn:n≤l.length):n≤(l.takeWhile p).length:=by
 induction l generalizing n with
 | nil=>simpa using hn
 | cons a t ih =>
  cases n with
  | zero=>omega
  | succ n =>
   have h0:=h 0 (by simp) (by omega)
   simp only[List.getElem_cons_zero] at h0
   rw[List.takeWhile_cons,if_pos h0]
   simp only[List.length_cons] at hn ⊢
   have:=ih n (fun k hk hkn=>by have:=h (k+1) (by simp;omega) (by omega);simpa using this) (by omega)
   omega
theorem Aff {p:Int→Bool} {l:List UInt8} {n:Nat} (h:∀ k (hk:k < l.length),k < n→p l[k].toNat=true) (hn:n < l.length) (hs:p l[n].toNat=false):Mz p l=n:=by
 unfold Mz
 have h1:=A43 (fun c:UInt8=>p c.toNat) l n h (by omega)
 rcases Nat.lt_or_ge n ((l.takeWhile fun c=>p c.toNat).length) with h2 | h2
 ·have h3:(l.takeWhile fun c=>p c.toNat)[n]=l[n]:=by
   have:=(List.takeWhile_prefix (fun c:UInt8=>p c.toNat) (l:=l)).getElem h2
   exact this
  have h4:∀ (q:UInt8→Bool) (l:List UInt8) (x:UInt8),x ∈ l.takeWhile q→q x=true:=fun q l=>by
   induction l with
   | nil=>simp
   | cons a t ih =>
    intro x hx
    rw[List.takeWhile_cons] at hx
    split at hx
    ·rcases List.mem_cons.1 hx with rfl | hx
     ·assumption
     ·exact ih x hx
    ·simp at hx
  have h5:=h4 _ _ _ (List.getElem_mem h2)
  rw[h3,hs] at h5
  simp at h5
 ·omega
theorem Ahy {p:Int→Bool} {l:List UInt8} (h:∀ k (hk:k < l.length),p l[k].toNat=true):Mz p l=l.length:=by
 unfold Mz
 have h1:=A43 (fun c:UInt8=>p c.toNat) l l.length (fun k hk _=>h k hk) (Nat.le_refl _)
 have h2:=(List.takeWhile_prefix (fun c:UInt8=>p c.toNat) (l:=l)).length_le
 omega
theorem Acn (s:ByteArray) (pos:Nat) (h:pos < s.size) (ha:128≤s[pos].toNat) :
 pos+(Utf8.decode s pos).2≤s.size∧∀ k (hk:k < s.size),pos≤k→k < pos+(Utf8.decode s pos).2→128≤s[k].toNat:=by
 have hn:¬ (s[pos]'h).toNat < 128:=by omega
 have at_:∀ k (hk:pos+k < s.size),s.get! (pos+k)=s[pos+k]:=fun k hk=>by
  show s.get! (pos+k)=_
  simp[ByteArray.get!,getElem!_pos,hk];rfl
 have hi:∀ k (hk:pos+k < s.size),((s.get! (pos+k)).toNat / 64==2)=true→128≤(s[pos+k]'hk).toNat:=fun k hk h2=>by
  rw[at_ k hk] at h2
  have:=beq_iff_eq.1 h2
  omega
 have one:∀ k (hk:k < s.size),pos≤k→k < pos+1→128≤s[k].toNat:=fun k hk h1 h2=>by
  obtain rfl:k=pos:=by omega
  exact ha
 simp only[Utf8.decode,get_at s pos h,hn,if_false]
 repeat' split
 all_goals first
  | exact⟨by omega,one⟩
  | skip
 all_goals
  rename_i hc _
  simp only[Ap,Bb] at hc
 ·obtain⟨_,h1,h2⟩:=hc
  refine⟨by omega,fun k hk hk1 hk2=>?_⟩
  rcases(by omega:k=pos∨k=pos+1) with rfl | rfl
  ·exact ha
  ·exact hi 1 hk h2
 ·obtain⟨⟨_,h1,h2⟩,h3,h4⟩:=hc
  refine⟨by omega,fun k hk hk1 hk2=>?_⟩
  rcases(by omega:k=pos∨k=pos+1∨k=pos+2) with rfl | rfl | rfl
  ·exact ha
  ·exact hi 1 hk h2
  ·exact hi 2 hk h4
 ·obtain⟨⟨⟨_,h1,h2⟩,h3,h4⟩,h5,h6⟩:=hc
  refine⟨by omega,fun k hk hk1 hk2=>?_⟩
  rcases(by omega:k=pos∨k=pos+1∨k=pos+2∨k=pos+3) with rfl | rfl | rfl | rfl
  ·exact ha
  ·exact hi 1 hk h2
  ·exact hi 2 hk h4
  ·exact hi 3 hk h6
def kws:List (List UInt8):=[[109,111,100],[108,111,99],[116,104,114,101,97,100],[114,101,103],[115,107,105,112],[115,101,116],[108,111,97,100],[115,116,111,114,101],[99,97,115],[102,97,100,100],[120,99,104,103],[102,101,110,99,101],[97,119,97,105,116],[105,102],[101,108,115,101],[119,104,105,108,101],[108,111,111,112],[98,114,101,97,107],[102,111,114,97,108,108],[101,120,105,115,116,115],[97,108,119,97,121,115]]
def kwB (l:List UInt8):Bool:=kws.contains l
def V9 (l:List UInt8):Nat:=l.foldl (fun n c=>min (10*n+(c.toNat - 48)) 10000) 0
def Lx (l:List UInt8) (k:Nat):Bool:=match l[k]? with | some c=>Fo c.toNat || (decide (0 < k)&&Ff c.toNat) | none=>true
def Cb (l:List UInt8):Bool:=!l.isEmpty&&decide (l.length≤16)&&(List.range l.length).all (Lx l)&&!kwB l
theorem A94 {l:List UInt8} {k:Nat} (hk:k < l.length) (h:Lx l k=false):Cb l=false:=by
 have:(List.range l.length).all (Lx l)=false:=by
  rw[Bool.eq_false_iff]
  intro e
  rw[List.all_eq_true] at e
  have:=e k (by simpa using hk)
  rw[h] at this
  simp at this
 simp[Cb,this]
theorem Agn {l:List UInt8} (h:∀ k,k < l.length→Lx l k=true):Cb l=(!l.isEmpty&&decide (l.length≤16)&&!kwB l):=by
 have:(List.range l.length).all (Lx l)=true:=by
  rw[List.all_eq_true]
  intro k hk
  exact h k (by simpa using hk)
 simp[Cb,this]
theorem A99 (s:ByteArray) (k:Nat) (hk:k < s.size):Lx s.data.toList k=(Fo s[k].toNat || (decide (0 < k)&&Ff s[k].toNat)):=by
 have:s.data.toList[k]?=some s[k]:=by rw[B7 (by rw[Mw];exact hk)];rfl
 simp only[Lx,this]
end Go.Proofs.YteindmlljlboeaaGreat
end
