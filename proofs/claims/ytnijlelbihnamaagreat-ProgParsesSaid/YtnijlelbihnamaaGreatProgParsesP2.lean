/- Parts of the proofs: what they lean on. Conditions: none. -/
import Derived.Test.YtnijlelbihnamaaGreatProgParsesP1
section
namespace Go.Proofs.YtnijlelbihnamaaGreat
set_option linter.unusedVariables false
set_option linter.unusedSimpArgs false
set_option maxRecDepth 10000
theorem Ac3 (n:Nat) (c:Int):Me (n+1) c=some (Et c):=by
 rw[Me]
 by_cases h1:97≤c<;>by_cases h2:c≤122<;>by_cases h3:65≤c<;>by_cases h4:c≤90<;>simp[Et,h1,h2,h3,h4]<;>(by_cases h5:c=95<;>simp[h5])
theorem Afv (n:Nat) (c:Int):Nt (n+1) c=some (Cv c):=by
 rw[Nt]
 by_cases h1:48≤c<;>simp[Cv,h1]
theorem Ad1 (c:UInt8):IntKind.i32.wrap (c.toNat:Int)=(c.toNat:Int):=by
 have:=c.toNat_lt
 simp only[IntKind.wrap,IntKind.bits,IntKind.signed,Bool.true_and]
 split<;>simp at* <;>omega
theorem Lo (c:UInt8) (k:Int) (d:Nat) (hk:k=(d:Int)) (hd:d < 256):(((c.toNat:Nat):Int)==k)=(c==UInt8.ofNat d):=by
 subst hk
 rw[Bool.eq_iff_iff,beq_iff_eq,beq_iff_eq]
 constructor
 ·intro h
  have:c.toNat=d:=by omega
  rw[← this];simp
 ·intro h
  rw[h];simp;omega
def hdS (c:UInt8):Option Int:=(bif ((c.toNat:Int)==59) then(some 1) else(bif ((c.toNat:Int)==44) then(some 1) else(bif ((c.toNat:Int)==123) then(some 1) else(bif ((c.toNat:Int)==125) then(some 1) else(bif ((c.toNat:Int)==40) then(some 1) else(bif ((c.toNat:Int)==41) then(some 1) else(bif ((c.toNat:Int)==46) then(some 1) else(bif ((c.toNat:Int)==61) then(some 1) else(bif ((c.toNat:Int)==43) then(some 1) else(bif ((c.toNat:Int)==45) then(some 1) else(bif ((c.toNat:Int)==42) then(some 1) else(bif ((c.toNat:Int)==33) then(some 1) else(bif ((c.toNat:Int)==60) then(some 1) else(some 0))))))))))))))
theorem orS (b r:Bool) (x:Option Int) (h:x=some (if r=true then 1 else 0)):(bif b then some 1 else x)=some (if(b || r)=true then 1 else 0):=by
 cases b
 ·exact h
 ·rfl
theorem orT (k:Nat) (b r:Bool) (x:Option Int) (h:x=some ((if r=true then 2 else k:Nat):Int)):(bif b then some 2 else x)=some ((if(b || r)=true then 2 else k:Nat):Int):=by
 cases b
 ·exact h
 ·rfl
theorem Ano (c:UInt8):hdS c=some (if Uw.contains c then 1 else 0):=by
 unfold hdS
 rw[Lo c 59 59 rfl (by decide),Lo c 44 44 rfl (by decide),Lo c 123 123 rfl (by decide),Lo c 125 125 rfl (by decide),Lo c 40 40 rfl (by decide),Lo c 41 41 rfl (by decide),Lo c 46 46 rfl (by decide),Lo c 61 61 rfl (by decide),Lo c 43 43 rfl (by decide),Lo c 45 45 rfl (by decide),Lo c 42 42 rfl (by decide),Lo c 33 33 rfl (by decide),Lo c 60 60 rfl (by decide)]
 have:Uw.contains c=(c==UInt8.ofNat 59 || (c==UInt8.ofNat 44 || (c==UInt8.ofNat 123 || (c==UInt8.ofNat 125 || (c==UInt8.ofNat 40 || (c==UInt8.ofNat 41 || (c==UInt8.ofNat 46 || (c==UInt8.ofNat 61 || (c==UInt8.ofNat 43 || (c==UInt8.ofNat 45 || (c==UInt8.ofNat 42 || (c==UInt8.ofNat 33 || (c==UInt8.ofNat 60 || false))))))))))))):=rfl
 rw[this]
 exact orS _ _ _ (orS _ _ _ (orS _ _ _ (orS _ _ _ (orS _ _ _ (orS _ _ _ (orS _ _ _ (orS _ _ _ (orS _ _ _ (orS _ _ _ (orS _ _ _ (orS _ _ _ (orS _ _ _ rfl))))))))))))
theorem Ajm (n:Nat) (c:UInt8) (t:List UInt8):Pq (n+1) (c :: t)=some ((I8 (c :: t):Nat):Int):=by
 have hc:idx (c :: t) 0=some c:=rfl
 have hd:=Ano c
 unfold hdS at hd
 have h2:(I8 (c :: t):Nat)=if Ls.contains ((c :: t).take 2) then 2 else if Uw.contains c then 1 else 0:=rfl
 rw[Pq,hc]
 simp only[A1]
 rw[hd]
 have hl:((if Uw.contains c then 1 else 0:Nat):Int)=if Uw.contains c then 1 else 0:=by split<;>rfl
 by_cases h:2≤(((c :: t).length:Nat):Int)
 ·have hg:(decide (0≤2)&&decide ((2:Int)≤(((c :: t).length:Nat):Int)))=true:=by rw[decide_eq_true h];rfl
  rw[A6 h,hg,Af,h2,List.drop_zero,show((2:Int).toNat)=2 from rfl]
  have:Ls.contains ((c :: t).take 2)=((c :: t).take 2==[61,61] || ((c :: t).take 2==[33,61] || ((c :: t).take 2==[60,61] || ((c :: t).take 2==[38,38] || ((c :: t).take 2==[124,124] || false))))):=rfl
  rw[this]
  exact orT _ _ _ _ (orT _ _ _ _ (orT _ _ _ _ (orT _ _ _ _ (orT _ _ _ _ (congrArg some hl.symm)))))
 ·have:t=[]:=by
   cases t with
   | nil=>rfl
   | cons d t=>simp at h;omega
  subst this
  have h3:Ls.contains (([c]:List UInt8).take 2)=false:=by simp[Ls]
  rw[Aq h,h2,h3,← hl];rfl
theorem Ajj (n:Nat) (s:List UInt8) (hs:s.length≤20000):∀ (m k p:Nat) (acc:List Tok),s.length - p≤m→m < k→p≤s.length→acc.length≤p →
 (D1 (n+2) s k (p:Int) (acc.map tkS)).map A32=some (Rc (N3 s p acc)):=by
 intro m
 induction m with
 | zero =>
  intro k p acc hm hk hp ha
  obtain⟨k,rfl⟩:∃ j,k=j+1:=⟨k - 1,by omega⟩
  rw[A4h s p acc (by omega),D1,Aq (by omega)];rfl
 | succ m ih =>
  intro k p acc hm hk hp ha
  obtain⟨k,rfl⟩:∃ j,k=j+1:=⟨k - 1,by omega⟩
  by_cases c:p < s.length
  ·obtain⟨ch,t,hcons⟩:∃ ch t,s.drop p=ch :: t:=⟨_,_,List.drop_eq_getElem_cons c⟩
   have htd:t=s.drop (p+1):=by rw[← List.drop_drop,hcons];rfl
   have hlen:(s.drop p).length=s.length - p:=List.length_drop
   have hg:(decide (0≤(p:Int))&&decide ((p:Int)≤((s.length:Nat):Int)))=true:=by simp;omega
   have hx:idx (ch :: t) 0=some ch:=rfl
   have step:∀ (g:Nat),0 < g→p+g≤s.length→D7 false (s.drop p)=g+D7 false (s.drop (p+g))→(D1 (n+2) s k (IntKind.i64.wrap ((p:Int)+(g:Int))) (acc.map tkS)).map A32=some (Rc (N3 s p acc)):=by
    intro g h0 h1 h2
    rw[Cx (by omega),show(p:Int)+(g:Int)=((p+g:Nat):Int) by omega,ih k (p+g) acc (by omega) (by omega) h1 (by omega),Ad5 s p acc g hp h2]
   have tokk:∀ (kd:Int) (ln v:Nat),D7 false (s.drop p)=0→Jo (s.drop p)=.tok kd ln v →
    (bif (decide (0≤((ln:Nat):Int))&&decide (((ln:Nat):Int)≤(((s.drop p).length:Nat):Int))) then(bif decide ((List.length (acc.map tkS)+1)*41≤140737488355328) then D1 (n+2) s k (IntKind.i64.wrap ((p:Int)+(((List.drop 0 (List.take (((ln:Nat):Int).toNat) (s.drop p))).length:Nat):Int))) (acc.map tkS++([(⟨kd,List.drop 0 (List.take (((ln:Nat):Int).toNat) (s.drop p)),(v:Int),(p:Int)⟩:A5)]:List A5)) else none) else none).map A32=some (Rc (N3 s p acc)):=by
    intro kd ln v h0 h1
    obtain⟨l1,l2⟩:=Sn h1
    rw[hlen] at l2
    have g2:(decide (0≤((ln:Nat):Int))&&decide (((ln:Nat):Int)≤(((s.drop p).length:Nat):Int)))=true:=by rw[hlen];simp;omega
    rw[g2,Af,A6 (by rw[Au];omega),List.drop_zero,Int.toNat_natCast,List.length_take,hlen,show min ln (s.length - p)=ln by omega,Cx (by omega),show(p:Int)+(ln:Int)=((p+ln:Nat):Int) by omega]
    have hh:=ih k (p+ln) (acc++[⟨kd,(s.drop p).take ln,v,(p:Nat)⟩]) (by omega) (by omega) (by omega) (by simp;omega)
    rw[List.map_append] at hh
    rw[Ach s p acc kd ln v h0 c h1]
    exact hh
   have errk:∀ (e:Int),D7 false (s.drop p)=0→Jo (s.drop p)=.err e→(some (LR.ret (([]:List A5),e,(p:Int))):Option (LR (List A5) (List A5×Int×Int))).map A32=some (Rc (N3 s p acc)):=by
    intro e h0 h1
    rw[Abx s p acc e h0 c h1];rfl
   rw[D1,A6 (by omega),hg,Af,Int.toNat_natCast,List.take_length]
   rw[hcons] at step tokk errk hlen ⊢
   rw[hx,A1,Ad1]
   have hle:(ch :: t).length≤20000:=by rw[hlen];omega
   by_cases hb:Ji (ch.toNat:Int)=true
   ·have e1:=step 1 (by omega) (by omega) (by rw[Zd hb,htd])
    unfold Ji at hb
    rw[C1] at hb
    rcases hb with h | h | h | h<;>rw[h]<;>exact e1
   ·have hb':Ji (ch.toNat:Int)=false:=by simpa using hb
    have hnb:=hb'
    unfold Ji at hnb
    rw[decide_eq_false_iff_not] at hnb
    rw[Ca.2 (show((ch.toNat:Nat):Int)≠32 by omega),Ca.2 (show((ch.toNat:Nat):Int)≠9 by omega),Ca.2 (show((ch.toNat:Nat):Int)≠10 by omega),Ca.2 (show((ch.toNat:Nat):Int)≠13 by omega)]
    simp only[An]
    by_cases h35:ch.toNat=35
    ·have hl1:1≤Cj Kz (ch :: t):=by rw[Kj,if_pos (by rw[h35];decide)];omega
     have hl2:=S7 Kz (ch :: t)
     rw[hlen] at hl2
     have e1:=step (Cj Kz (ch :: t)) (by omega) (by omega) (by rw[A3m h35,← hcons,List.drop_drop])
     rw[h35,show(((35:Nat):Int)==35)=true from rfl,Af,Pr,A1]
     exact e1
    ·have h0:=A3u (t:=t) hb' h35
     have tk:=fun kd ln v=>tokk kd ln v h0
     have ek:=fun e=>errk e h0
     rw[Ca.2 (show((ch.toNat:Nat):Int)≠35 by omega),An,Ac3,A1]
     simp only[Jo] at tk ek
     cases hL:Et (ch.toNat:Int) with
     | true =>
      rw[hL] at tk ek
      simp only[if_true] at tk ek
      rw[Af,Pk,A1]
      by_cases hr:16 < Cj H8 (ch :: t)
      ·rw[A6 (by omega)]
       exact ek 2 (by rw[if_pos hr])
      ·rw[Aq (by omega)]
       exact tk 1 _ 0 (by rw[if_neg hr])
     | false =>
      rw[hL] at tk ek
      simp only[Bool.false_eq_true,if_false] at tk ek
      rw[An,Afv,A1]
      cases hD:Cv (ch.toNat:Int) with
      | true =>
       rw[hD] at tk ek
       simp only[if_true] at tk ek
       have hrl:=S7 Cv (ch :: t)
       have g3:(decide (0≤((Cj Cv (ch :: t):Nat):Int))&&decide (((Cj Cv (ch :: t):Nat):Int)≤(((ch :: t).length:Nat):Int)))=true:=by rw[decide_eq_true (by omega),decide_eq_true (by omega)];rfl
       have hall:((ch :: t).take (Cj Cv (ch :: t))).all (fun c=>Cv c.toNat)=true:=by
        unfold Cj
        rw[List.all_eq_true]
        have:(ch :: t).take ((ch :: t).takeWhile fun c=>Cv c.toNat).length=(ch :: t).takeWhile fun c=>Cv c.toNat:=List.prefix_iff_eq_take.1 (List.takeWhile_prefix _) |>.symm
        rw[this]
        intro x hx
        have h4:∀ (q:UInt8→Bool) (l:List UInt8) (x:UInt8),x ∈ l.takeWhile q→q x=true:=fun q l=>by
         induction l with
         | nil=>simp
         | cons a t ih =>
          intro x hx
          rw[List.takeWhile_cons] at hx
          split at hx
          ·rcases List.mem_cons.1 hx with rfl | hx
           ·assumption
           ·exact ih x hx
          ·simp at hx
        exact h4 _ _ x hx
       have tk2:=tk 2 (Cj Cv (ch :: t)) (Ku ((ch :: t).take (Cj Cv (ch :: t))))
       rw[g3,Af] at tk2
       rw[Af,Qk,A1,g3,Af,Af,List.drop_zero,Int.toNat_natCast,Vo,hall,Af,A1]
       rw[List.drop_zero,Int.toNat_natCast] at tk2
       by_cases hr:9999 < Ku ((ch :: t).take (Cj Cv (ch :: t)))
       ·rw[A6 (by omega)]
        exact ek 4 (by rw[if_pos hr])
       ·rw[Aq (by omega)]
        exact tk2 (by rw[if_neg hr])
      | false =>
       rw[hD] at tk ek
       simp only[Bool.false_eq_true,if_false] at tk ek
       rw[An,Ajm,A1]
       by_cases hz:I8 (ch :: t)=0
       ·rw[hz,show((((0:Nat):Int))==0)=true from rfl,Af]
        exact ek 3 (by rw[if_pos hz])
       ·rw[Ca.2 (show((I8 (ch :: t):Nat):Int)≠0 by omega),An]
        exact tk 3 _ 0 (by rw[if_neg hz])
  ·rw[A4h s p acc (by omega),D1,Aq (by omega)];rfl
theorem Ae0 (n:Nat) (s:List UInt8) (hn:s.length+50 < n∨20000 < s.length∧0 < n):Pf n s=some (Rc (Hr s)):=by
 obtain⟨n,rfl⟩:∃ j,n=j+1:=⟨n - 1,by omega⟩
 rw[Pf,Hr]
 by_cases c:20000 < (s.length:Int)
 ·rw[A6 c,if_pos (by omega)];rfl
 ·rw[Aq c,if_neg (by omega)]
  obtain⟨n,rfl⟩:∃ j,n=j+2:=⟨n - 2,by omega⟩
  obtain⟨r,h1,h2⟩:=Option.map_eq_some_iff.1 (Ajj n s (by omega) s.length (n+2) 0 [] (by omega) (by omega) (by omega) (by simp))
  have h1:D1 (n+2) s (n+2) 0 []=some r:=h1
  rw[h1,A1]
  have h2:A32 r=Rc (Ed (s.length+1) s 0 []):=h2
  rw[← h2]
  cases r<;>rfl
def Ez (op:Int):List UInt8:=if op=5 then [33] else if op=6 then [43] else if op=7 then [45] else if op=8 then [42] else if op=9 then [61,61] else if op=10 then [33,61] else if op=11 then [60] else if op=12 then [60,61] else if op=13 then [38,38] else [124,124]
theorem A6q (n:Nat) {op:Int} (h:5≤op∧op≤14):Hc (n+1) op=some (Ez op)∧(Ez op).length≤2:=by
 rcases Wk op with h | h | h | h | h | h | h | h | h | h | h | h | h | h | h | h
 all_goals try omega
 all_goals subst h;exact⟨rfl,by decide⟩
def P0 (l:List Nd):Prop:=∀ x ∈ l,E2 x=true∧x.Ao.length≤100∧x.Cq.length≤100
def Gb (x:Nd):Bool:=x.B3==2 || (x.B3==3 || x.B3==4)
theorem A3n {α τ:Type} (l:List α) (p:α→Bool) (L:Nat→Nat→List α→Option (LR (List α) τ)) (h0:∀ k s,L (k+1) l.length s=some (.out s))
 (h1:∀ k i x s,i < l.length→l[i]?=some x→s.length≤i→L (k+1) i s=L k (i+1) (bif p x then s++[x] else s)) {k:Nat} (hk:l.length < k):L k 0 []=some (.out (l.filter p)):=by
 have:=Qy l L (fun l s=>some (.out (s++l.filter p))) (fun i s=>s.length≤i) (s:=[]) hk (Nat.le_refl _) (fun k s _=>by rw[h0 k];simp) ?_
 ·rw[this];rfl
 ·intro k i s x hi hx hs ih
  rw[h1 k i x s hi hx hs]
  cases hp:p x with
  | true=>rw[Af,ih _ (by simp;omega)];simp[hp]
  | false=>rw[An,ih _ (by omega)];simp[hp]
theorem A97 (n:Nat) (l:List Nd) (hl:l.length < 100000) (hn:l.length+1 < n):Lq n l=some (l.filter Gb):=by
 obtain⟨n,rfl⟩:∃ j,n=j+1:=⟨n - 1,by omega⟩
 have:Ek n l n 0 []=some (.out (l.filter Gb)):=by
  refine A3n l Gb (fun k i s=>Ek n l k (i:Int) s) (fun k s=>?_) (fun k i x s hi hx hs=>?_) (by omega)
  ·rw[Ek,Aq (by omega)]
  ·rw[Ek,A6 (by omega),Cn hx,A1,Ay i (by omega),A6 (show(s.length+1)*57≤140737488355328 by omega)]
   unfold Gb
   cases (x.B3==2)<;>cases (x.B3==3)<;>cases (x.B3==4)<;>rfl
 rw[Lq,this];rfl
theorem Azt (n:Nat) (l:List Nd) (hl:l.length < 100000) (hn:l.length+1 < n):Wz n l=some (l.filter Gb):=by
 obtain⟨n,rfl⟩:∃ j,n=j+1:=⟨n - 1,by omega⟩
 have:Kr n l n 0 []=some (.out (l.filter Gb)):=by
  refine A3n l Gb (fun k i s=>Kr n l k (i:Int) s) (fun k s=>?_) (fun k i x s hi hx hs=>?_) (by omega)
  ·rw[Kr,Aq (by omega)]
  ·rw[Kr,A6 (by omega),Cn hx]
   simp only[A1]
   rw[Ay i (by omega),A6 (show(s.length+1)*57≤140737488355328 by omega)]
   unfold Gb
   cases (x.B3==2)<;>cases (x.B3==3)<;>cases (x.B3==4)<;>rfl
 rw[Wz,this];rfl
theorem A8k {l:List UInt8} {k:Nat} (hk:k < l.length) (h:Rk l k=true):H8 l[k].toNat=true:=by
 simp only[Rk,Ax hk,Bool.or_eq_true,Ah,C1] at h
 simp only[H8,Bool.or_eq_true]
 rcases h with h | h
 ·exact .inl h
 ·exact .inr h.2
def Auk (l:List UInt8):Prop:=∃ c t,l=c :: t∧Et c.toNat=true∧(∀ k (hk:k < l.length),H8 l[k].toNat=true)∧l.length≤16
theorem S5 {l:List UInt8} (h:Cp l=true):Auk l:=by
 simp only[Cp,Ah,Bool.not_eq_true',C1,List.all_eq_true,List.mem_range] at h
 obtain⟨⟨⟨h1,h2⟩,h3⟩,_⟩:=h
 rcases l with _ | ⟨c,t⟩
 ·simp at h1
 ·refine⟨c,t,rfl,?_,fun k hk=>A8k hk (h3 k hk),h2⟩
  have:=h3 0 (by simp)
  simpa [Rk] using this
theorem Ak7:@E9=@Bv:=by
 funext n ops l a b c d k;induction k with
 | zero=>funext x y;rfl
 | succ k ih=>funext x y;rw[E9,Bv,ih]
theorem Aiz:@E7=@Bv:=by
 funext n ops l a b c d k;induction k with
 | zero=>funext x y;rfl
 | succ k ih=>funext x y;rw[E7,Bv,ih]
theorem Ajt:@E6=@Bv:=by
 funext n ops l a b c d k;induction k with
 | zero=>funext x y;rfl
 | succ k ih=>funext x y;rw[E6,Bv,ih]
theorem Ake:@Eb=@Bv:=by
 funext n ops l a b c d k;induction k with
 | zero=>funext x y;rfl
 | succ k ih=>funext x y;rw[Eb,Bv,ih]
theorem Akh:@Eu=@Bc:=by
 funext n r ops l k;induction k with
 | zero=>funext a b c d e f;rfl
 | succ k ih=>funext a b c d e f;rw[Eu,Bc,ih,Ak7]
theorem Ajf:@Ey=@Bc:=by
 funext n r ops l k;induction k with
 | zero=>funext a b c d e f;rfl
 | succ k ih=>funext a b c d e f;rw[Ey,Bc,ih,Aiz]
theorem Ak9:@Ev=@Bc:=by
 funext n r ops l k;induction k with
 | zero=>funext a b c d e f;rfl
 | succ k ih=>funext a b c d e f;rw[Ev,Bc,ih,Ajt]
theorem Akb:@F0=@Bc:=by
 funext n r ops l k;induction k with
 | zero=>funext a b c d e f;rfl
 | succ k ih=>funext a b c d e f;rw[F0,Bc,ih,Ake]
abbrev A36:=List Nd×Int×Int×Int×Int
def Rr (n:Nat) (next:List A5→Int→Int→Int→Int→Option A36) (once:Bool) (ops:List Int) (l:List A5) (i inn e at':Int):Option A36 :=
 (next l i inn e at').bind fun y1=>(Bc n next ops l n once y1.1 y1.2.1 y1.2.2.1 y1.2.2.2.1 y1.2.2.2.2).bind fun o16=>match o16 with | .out x=>some x | .ret v=>some v
theorem Atu (n:Nat) (l:List A5) (i inn e at':Int):D8 (n+2) l i inn e at'=Rr n (D6 n) false [14] l i inn e at':=by
 rw[D8,Lk]
 unfold Rr
 cases D6 n l i inn e at' with
 | none=>rfl
 | some y1 =>
  simp only[A1]
  cases Bc n (D6 n) [14] l n false y1.1 y1.2.1 y1.2.2.1 y1.2.2.2.1 y1.2.2.2.2 with
  | none=>rfl
  | some o=>cases o<;>rfl
theorem Anl (n:Nat) (l:List A5) (i inn e at':Int):D6 (n+2) l i inn e at'=Rr n (Cm n) false [13] l i inn e at':=by
 rw[D6,Kc,Akh]
 unfold Rr
 cases Cm n l i inn e at' with
 | none=>rfl
 | some y1 =>
  simp only[A1]
  cases Bc n (Cm n) [13] l n false y1.1 y1.2.1 y1.2.2.1 y1.2.2.2.1 y1.2.2.2.2 with
  | none=>rfl
  | some o=>cases o<;>rfl
theorem Aaj (n:Nat) (l:List A5) (i inn e at':Int):Cm (n+2) l i inn e at'=Rr n (De n) true [9,10,11,12] l i inn e at':=by
 rw[Cm,Kf,Ajf]
 unfold Rr
 cases De n l i inn e at' with
 | none=>rfl
 | some y1 =>
  simp only[A1]
  cases Bc n (De n) [9,10,11,12] l n true y1.1 y1.2.1 y1.2.2.1 y1.2.2.2.1 y1.2.2.2.2 with
  | none=>rfl
  | some o=>cases o<;>rfl
theorem At9 (n:Nat) (l:List A5) (i inn e at':Int):De (n+2) l i inn e at'=Rr n (Cr n) false [6,7] l i inn e at':=by
 rw[De,Ke,Ak9]
 unfold Rr
 cases Cr n l i inn e at' with
 | none=>rfl
 | some y1 =>
  simp only[A1]
  cases Bc n (Cr n) [6,7] l n false y1.1 y1.2.1 y1.2.2.1 y1.2.2.2.1 y1.2.2.2.2 with
  | none=>rfl
  | some o=>cases o<;>rfl
theorem Abi (n:Nat) (l:List A5) (i inn e at':Int):Cr (n+2) l i inn e at'=Rr n (Bq n) false [8] l i inn e at':=by
 rw[Cr,Kd,Akb]
 unfold Rr
 cases Bq n l i inn e at' with
 | none=>rfl
 | some y1 =>
  simp only[A1]
  cases Bc n (Bq n) [8] l n false y1.1 y1.2.1 y1.2.2.1 y1.2.2.2.1 y1.2.2.2.2 with
  | none=>rfl
  | some o=>cases o<;>rfl
def Bj (l:List A5) (i:Nat) (s:List UInt8):Bool:=match l[i]? with
 | some t=>t.A7==3&&t.Ac==s
 | none=>false
theorem Rm (n:Nat) (s:List UInt8) (l:List A5) (i:Nat) (a b c:Int):Cs (n+1) s l (i:Int) a b c=some (Bj l i s):=by
 rw[Cs,Bj]
 by_cases h:i < l.length
 ·rw[A6 (by omega),C8 h,Ax h]
  simp only[A1]
  cases (l[i].A7==3)<;>rfl
 ·rw[Aq (by omega),List.getElem?_eq_none (by omega)]
def Fr (l:List A5) (i:Nat) (ops:List Int):Int:=ops.foldl (fun acc op=>bif Bj l i (Ez op) then op else acc) 0
theorem Z4 (n:Nat) (ops:List Int) (l:List A5) (i:Nat) (a b c:Int) (ho:∀ op ∈ ops,6≤op∧op≤14) (hl:ops.length≤4) {k:Nat} (hk:5 < k):Bv (n+1) ops l (i:Int) a b c k 0 0=some (.out (Fr l i ops)):=by
 refine Qy ops (fun k j acc=>Bv (n+1) ops l (i:Int) a b c k acc (j:Int)) (fun r acc=>some (.out (r.foldl (fun acc op=>bif Bj l i (Ez op) then op else acc) acc))) (fun _ _=>True) (s:=0) (by omega) trivial (fun k s _=>?_) (fun k j s x hj hx _ ih=>?_)
 ·rw[Bv,Aq (by omega)];rfl
 ·have hx6:=ho x (List.mem_of_getElem? hx)
  rw[Bv,A6 (by omega),Cn hx,A1,(A6q n (by omega)).1,A1,Rm,A1,Ay j (by omega),List.foldl_cons]
  cases Bj l i (Ez x) with
  | true=>exact ih _ trivial
  | false=>exact ih _ trivial
theorem A26 (n:Nat) (x:Nd) (X Y:List Nd) (h:X.length+Y.length < 1000000) (hn:5 < n):Cw n x [X,Y]=some (x :: (X++Y)):=by
 obtain⟨n,rfl⟩:∃ j,n=j+5:=⟨n - 5,by omega⟩
 have e0:idx [X,Y] 0=some X:=rfl
 have e1:idx [X,Y] 1=some Y:=rfl
 have w1:IntKind.i64.wrap (0+1)=1:=by decide
 have w2:IntKind.i64.wrap (1+1)=2:=by decide
 rw[Cw,Fq,A6 (by simp),e0,A1,A6 (by simp;omega),w1,Fq,A6 (by simp),e1,A1,A6 (by simp;omega),w2,Fq,Aq (by simp)]
 simp
theorem A2c (n:Nat) (x:Nd) (X:List Nd) (h:X.length < 1000000) (hn:5 < n):Cw n x [X]=some (x :: X):=by
 obtain⟨n,rfl⟩:∃ j,n=j+5:=⟨n - 5,by omega⟩
 have e0:idx [X] 0=some X:=rfl
 have w1:IntKind.i64.wrap (0+1)=1:=by decide
 rw[Cw,Fq,A6 (by simp),e0,A1,A6 (by simp;omega),w1,Fq,Aq (by simp)]
 simp
theorem A2g (n:Nat) (x:Nd) (hn:5 < n):Cw n x []=some [x]:=by
 obtain⟨n,rfl⟩:∃ j,n=j+5:=⟨n - 5,by omega⟩
 rw[Cw,Fq,Aq (by simp)];rfl
abbrev Tk:=A5
inductive PR where
 | ok (x:List Nd) (tu:Nat)
 | bad (e:Int) (a:Int)
def Fg:Nat→List Int
 | 0=>[14]
 | 1=>[13]
 | 2=>[9,10,11,12]
 | 3=>[6,7]
 | _=>[8]
def Bg (l:List Tk) (i:Nat):Int:=match l[i]? with
 | some t=>t.Ab
 | none=>match l[l.length - 1]? with
   | some t=>IntKind.i64.wrap (t.Ab+((t.Ac.length:Nat):Int))
   | none=>0
def Fj (l:List Tk) (i:Nat):Int:=if i < l.length then 5 else 6
def Acl (l:List Tk) (i:Nat):PR:=.bad (Fj l i) (Bg l i)
def isN (l:List Tk) (i:Nat):Bool:=match l[i]? with
 | some t=>t.A7==1&&Cp t.Ac
 | none=>false
def isK (l:List Tk) (i:Nat):Bool:=match l[i]? with
 | some t=>t.A7==2
 | none=>false
inductive Md where
 | fl (f:Nat)
 | lp (f:Nat) (x:List Nd)
inductive PE (l:List Tk):Md→Nat→Nat→PR→Prop
 | deep {inn i:Nat} {t:Tk}:(Bj l i [33]=true∨Bj l i [40]=true)→30≤inn→l[i]?=some t→PE l (.fl 5) inn i (.bad 7 t.Ab)
 | not_ok {inn i tu:Nat} {t:Tk} {x:List Nd}:Bj l i [33]=true→inn < 30→l[i]?=some t→PE l (.fl 5) (inn+1) (i+1) (.ok x tu)→PE l (.fl 5) inn i (.ok (⟨5,0,[],[],t.Ab⟩ :: x) tu)
 | not_bad {inn i:Nat} {e a:Int}:Bj l i [33]=true→inn < 30→PE l (.fl 5) (inn+1) (i+1) (.bad e a)→PE l (.fl 5) inn i (.bad e a)
 | par_ok {inn i tu:Nat} {x:List Nd}:Bj l i [40]=true→inn < 30→PE l (.fl 0) (inn+1) (i+1) (.ok x tu)→Bj l tu [41]=true→PE l (.fl 5) inn i (.ok x (tu+1))
 | par_bad {inn i:Nat} {e a:Int}:Bj l i [40]=true→inn < 30→PE l (.fl 0) (inn+1) (i+1) (.bad e a)→PE l (.fl 5) inn i (.bad e a)
 | par_open {inn i tu:Nat} {x:List Nd}:Bj l i [40]=true→inn < 30→PE l (.fl 0) (inn+1) (i+1) (.ok x tu)→Bj l tu [41]=false→PE l (.fl 5) inn i (Acl l tu)
 | num {inn i:Nat} {t:Tk}:isK l i=true→l[i]?=some t→PE l (.fl 5) inn i (.ok [⟨1,t.Bs,[],[],t.Ab⟩] (i+1))
 | reg {inn i:Nat} {t:Tk}:isN l i=true→Bj l (i+1) [46]=false→l[i]?=some t→PE l (.fl 5) inn i (.ok [⟨2,0,t.Ac,[],t.Ab⟩] (i+1))
 | of {inn i:Nat} {t u:Tk}:isN l i=true→Bj l (i+1) [46]=true→isN l (i+2)=true→l[i]?=some t→l[i+2]?=some u→PE l (.fl 5) inn i (.ok [⟨4,0,u.Ac,t.Ac,t.Ab⟩] (i+3))
 | of_bad {inn i:Nat}:isN l i=true→Bj l (i+1) [46]=true→isN l (i+2)=false→PE l (.fl 5) inn i (Acl l (i+2))
 | no {inn i:Nat}:Bj l i [33]=false→Bj l i [40]=false→isK l i=false→isN l i=false→PE l (.fl 5) inn i (Acl l i)
 | fl_bad {f inn i:Nat} {e a:Int}:f < 5→PE l (.fl (f+1)) inn i (.bad e a)→PE l (.fl f) inn i (.bad e a)
 | fl_ok {f inn i tu:Nat} {x:List Nd} {r:PR}:f < 5→PE l (.fl (f+1)) inn i (.ok x tu)→PE l (.lp f x) inn tu r→PE l (.fl f) inn i r
 | lp_stop {f inn i:Nat} {x:List Nd}:Fr l i (Fg f)=0→PE l (.lp f x) inn i (.ok x i)
 | lp_bad {f inn i:Nat} {x:List Nd} {e a:Int}:f < 5→Fr l i (Fg f)≠0→PE l (.fl (f+1)) inn (i+1) (.bad e a)→PE l (.lp f x) inn i (.bad e a)
 | lp_once {inn i tu:Nat} {x y:List Nd} {t:Tk}:Fr l i (Fg 2)≠0→l[i]?=some t→PE l (.fl 3) inn (i+1) (.ok y tu)→PE l (.lp 2 x) inn i (.ok (⟨Fr l i (Fg 2),0,[],[],t.Ab⟩ :: (x++y)) tu)
 | lp_go {f inn i tu:Nat} {x y:List Nd} {t:Tk} {r:PR}:f < 5→f≠2→Fr l i (Fg f)≠0→l[i]?=some t→PE l (.fl (f+1)) inn (i+1) (.ok y tu)→PE l (.lp f (⟨Fr l i (Fg f),0,[],[],t.Ab⟩ :: (x++y))) inn tu r→PE l (.lp f x) inn i r
theorem D0 {l:List Tk} {i:Nat} {s:List UInt8} (h:Bj l i s=true):i < l.length:=by
 unfold Bj at h
 cases hg:l[i]? with
 | none=>rw[hg] at h;cases h
 | some t=>exact(List.getElem?_eq_some_iff.1 hg).1
theorem Ph {l:List Tk} {i:Nat} (h:isN l i=true):i < l.length:=by
 unfold isN at h
 cases hg:l[i]? with
 | none=>rw[hg] at h;cases h
 | some t=>exact(List.getElem?_eq_some_iff.1 hg).1
theorem H9 {l:List Tk} {i:Nat} {t:Tk} (h:l[i]?=some t):i < l.length:=(List.getElem?_eq_some_iff.1 h).1
theorem A9v {l:List Tk} {i:Nat}:∀ {ops:List Int} {a:Int},ops.foldl (fun acc op=>bif Bj l i (Ez op) then op else acc) a≠a→∃ op ∈ ops,Bj l i (Ez op)=true:=by
 intro ops
 induction ops with
 | nil=>intro a h;exact absurd rfl h
 | cons op ops ih =>
  intro a h
  cases hs:Bj l i (Ez op) with
  | true=>exact⟨op,List.mem_cons_self ..,hs⟩
  | false =>
   rw[List.foldl_cons,hs] at h
   obtain⟨o,ho,hh⟩:=ih h
   exact⟨o,List.mem_cons_of_mem _ ho,hh⟩
theorem Nb {l:List Tk} {i:Nat} {ops:List Int} (h:Fr l i ops≠0):i < l.length:=by
 obtain⟨op,_,hh⟩:=A9v h
 exact D0 hh
theorem Afx {l:List Tk} {i:Nat}:∀ {ops:List Int} {a:Int},ops.foldl (fun acc op=>bif Bj l i (Ez op) then op else acc) a=a∨ops.foldl (fun acc op=>bif Bj l i (Ez op) then op else acc) a ∈ ops:=by
 intro ops
 induction ops with
 | nil=>intro a;exact .inl rfl
 | cons op ops ih =>
  intro a
  rw[List.foldl_cons]
  cases Bj l i (Ez op) with
  | true =>
   rcases ih (a:=op) with h | h
   ·right;rw[Af,h];exact List.mem_cons_self ..
   ·right;exact List.mem_cons_of_mem _ h
  | false =>
   rcases ih (a:=a) with h | h
   ·left;exact h
   ·right;exact List.mem_cons_of_mem _ h
theorem H4 {l:List Tk} {md:Md} {inn i:Nat} {r:PR} (h:PE l md inn i r):i≤l.length→match md,r with
 | .fl _,.ok x tu=>i < tu∧tu≤l.length∧x.length≤tu - i∧1≤x.length
 | .lp _ x0,.ok x tu=>i≤tu∧tu≤l.length∧x.length≤x0.length+(tu - i)∧x0.length≤x.length
 | _,.bad e _=>e≠0:=by
 induction h with
 | deep h1 h2 h3=>intro _;show(7:Int)≠0;decide
 | not_ok h1 h2 h3 h4 ih=>intro _;have:=ih (by have:=D0 h1;omega);have:=D0 h1;dsimp only at *;simp only[List.length_cons];omega
 | not_bad h1 h2 h4 ih=>intro _;exact ih (by have:=D0 h1;omega)
 | par_ok h1 h2 h3 h4 ih=>intro _;have:=ih (by have:=D0 h1;omega);have:=D0 h1;have:=D0 h4;dsimp only at *;omega
 | par_bad h1 h2 h4 ih=>intro _;exact ih (by have:=D0 h1;omega)
 | par_open h1 h2 h3 h4 ih=>intro _;show Fj _ _≠0;unfold Fj;split<;>decide
 | num h1 h2=>intro _;have:=H9 h2;dsimp only;simp;omega
 | reg h1 h2 h3=>intro _;have:=H9 h3;dsimp only;simp;omega
 | of h1 h2 h3 h4 h5=>intro _;have:=H9 h5;dsimp only;simp;omega
 | of_bad h1 h2 h3=>intro _;show Fj _ _≠0;unfold Fj;split<;>decide
 | no h1 h2 h3 h4=>intro _;show Fj _ _≠0;unfold Fj;split<;>decide
 | fl_bad h1 h2 ih=>intro hi;exact ih hi
 | @fl_ok f inn i tu x r h1 h2 h3 ih1 ih2 =>
  intro hi;have:=ih1 hi;dsimp only at this;have h:=ih2 (by omega)
  cases r with
  | ok y to2=>dsimp only at h ⊢;omega
  | bad e a=>exact h
 | lp_stop h1=>intro hi;dsimp only;omega
 | lp_bad h1 h2 h3 ih=>intro hi;exact ih (by have:=Nb h2;omega)
 | lp_once h1 h2 h3 ih=>intro hi;have:=ih (by have:=Nb h1;omega);have:=Nb h1;dsimp only at *;simp only[List.length_cons,List.length_append];omega
 | @lp_go f inn i tu x y t r h1 h2 h3 h4 h5 h6 ih1 ih2 =>
  intro hi;have:=ih1 (by have:=Nb h3;omega);dsimp only at this;have h:=ih2 (by omega)
  cases r with
  | ok y to2=>dsimp only at h ⊢;simp only[List.length_cons,List.length_append] at h;omega
  | bad e a=>exact h
def flM:Nat→Nat→List Tk→Int→Int→Int→Int→Option A36
 | 0,n=>D8 n
 | 1,n=>D6 n
 | 2,n=>Cm n
 | 3,n=>De n
 | 4,n=>Cr n
 | _,n=>Bq n
theorem A90 {f n:Nat} (hf:f < 5) (l:List Tk) (i inn e a:Int):flM f (n+2) l i inn e a=Rr n (flM (f+1) n) (f==2) (Fg f) l i inn e a:=by
 match f,hf with
 | 0,_=>exact Atu n l i inn e a
 | 1,_=>exact Anl n l i inn e a
 | 2,_=>exact Aaj n l i inn e a
 | 3,_=>exact At9 n l i inn e a
 | 4,_=>exact Abi n l i inn e a
theorem Pn (f:Nat):(∀ op ∈ Fg f,6≤op∧op≤14)∧(Fg f).length≤4:=by
 match f with
 | 0=>exact⟨by decide,by decide⟩
 | 1=>exact⟨by decide,by decide⟩
 | 2=>exact⟨by decide,by decide⟩
 | 3=>exact⟨by decide,by decide⟩
 | _+4=>exact⟨by simp[Fg],by simp[Fg]⟩
theorem A2b (n:Nat) (l:List Tk) (i:Nat) (inn:Int) (hl:l.length < 1000000):Ce (n+1) 5 l (i:Int) inn 0 0=some ([],Fj l i,Bg l i):=by
 rw[Ce,Fj,Bg]
 by_cases h:i < l.length
 ·rw[if_pos h,A6 (by omega),C8 h,Ax h];rfl
 ·rw[if_neg h,Aq (by omega),List.getElem?_eq_none (by omega)]
  by_cases h0:0 < l.length
  ·have hx:l[l.length - 1]?=some l[l.length - 1]:=Ax (by omega)
   rw[A6 (by omega),Cx (by omega),show(l.length:Int) - 1=((l.length - 1:Nat):Int) by omega,Cn hx,hx];rfl
  ·rw[Aq (by omega),List.getElem?_eq_none (by omega)];rfl
theorem A8z (n:Nat) (l:List Tk) (i:Nat) (inn:Int) {t:Tk} (h:l[i]?=some t):Ce (n+1) 7 l (i:Int) inn 0 0=some ([],7,t.Ab):=by
 have:=H9 h
 rw[Ce,A6 (show(i:Int) < (l.length:Int) by omega),Cn h];rfl
theorem Acm (n:Nat) (l:List Tk) (i:Nat) (inn:Int) (hl:l.length < 1000000):D5 (n+2) l (i:Int) inn 0 0=match isN l i,l[i]? with
 | true,some t=>some (t.Ac,t.Ab,true,((i+1:Nat):Int))
 | _,_=>some ([],0,false,(i:Int)):=by
 rw[D5,isN]
 by_cases h:i < l.length
 ·rw[Aq (by omega),C8 h,Ax h]
  simp only[A1,Dp,Ay i (show i < 4611686018427387904 by omega)]
  cases hk:(l[i].A7==1) with
  | false =>
   rw[show(l[i].A7 != 1)=true by simp only[bne,hk];rfl];rfl
  | true =>
   rw[show(l[i].A7 != 1)=false by simp only[bne,hk];rfl]
   cases Cp l[i].Ac<;>rfl
 ·rw[A6 (by omega),List.getElem?_eq_none (by omega)]
theorem A2p {l:List Tk} {i:Nat} (h:isN l i=true):∃ t,l[i]?=some t:=⟨_,Ax (Ph h)⟩
theorem Ur {n:Nat} {l:List Tk} {i:Nat} {inn:Int} {t:Tk} (hl:l.length < 1000000) (h:isN l i=true) (ht:l[i]?=some t):D5 (n+2) l (i:Int) inn 0 0=some (t.Ac,t.Ab,true,((i+1:Nat):Int)):=by
 rw[Acm n l i inn hl,h,ht]
theorem A65 {n:Nat} {l:List Tk} {i:Nat} {inn:Int} (hl:l.length < 1000000) (h:isN l i=false):D5 (n+2) l (i:Int) inn 0 0=some ([],0,false,(i:Int)):=by
 rw[Acm n l i inn hl,h]
theorem Ac2 {l:List Tk} {i:Nat} {s:List UInt8} (h:Bj l i s=true):∃ t,l[i]?=some t∧t.A7=3∧t.Ac=s:=by
 unfold Bj at h
 cases hg:l[i]? with
 | none=>rw[hg] at h;cases h
 | some t=>rw[hg] at h;simp only[Ah,beq_iff_eq] at h;exact⟨t,rfl,h⟩
theorem Uz {l:List Tk} {i:Nat} {s s':List UInt8} (h:Bj l i s=true) (hs:s≠s'):Bj l i s'=false:=by
 obtain⟨t,ht,_,h2⟩:=Ac2 h
 simp only[Bj,ht,h2];simp[hs]
def Axx (l:List Tk) (inn i:Nat) (r:PR) (o:Option A36):Prop:=match r with
 | .ok x tu=>o=some (x,(tu:Int),(inn:Int),0,0)
 | .bad e a=>∃ (X:List Nd) (i':Nat) (j:Int),o=some (X,(i':Int),j,e,a)∧X.length+i≤i'+1∧i'+inn≤l.length+31
def Azc (l:List Tk) (inn i:Nat) (x:List Nd) (r:PR) (o:Option (LR A36 A36)):Prop:=match r with
 | .ok y tu=>o=some (.out (y,(tu:Int),(inn:Int),0,0))
 | .bad e a=>∃ (X:List Nd) (i':Nat) (j:Int),o=some (.out (X,(i':Int),j,e,a))∧X.length+i≤x.length+i'+1∧i'+inn≤l.length+31
def Imp (l:List Tk) (inn i:Nat) (r:PR):Md→Prop
 | .fl f=>∀ n,12*(l.length - i)+2*(5 - f)+40≤n→Axx l inn i r (flM f n l (i:Int) (inn:Int) 0 0)
 | .lp f x=>∀ n k,f < 5→x.length≤i→12*(l.length - i)+2*(5 - (f+1))+40≤n→l.length - i < k→Azc l inn i x r (Bc n (flM (f+1) n) (Fg f) l k (f==2) x (i:Int) (inn:Int) 0 0)
theorem Wh {n:Nat} {l:List Tk} {i:Nat} {inn:Int} {t:Tk} (h:Bj l i [33]=true) (ht:l[i]?=some t) :
 Bq (n+2) l (i:Int) inn 0 0=(Eg (n+1) l (i:Int) inn 0 0).bind fun y=>(Cw (n+1) ⟨5,0,[],[],t.Ab⟩ [y.1]).bind fun z=>some (z,y.2.1,y.2.2.1,y.2.2.2.1,y.2.2.2.2):=by
 rw[Bq,Rm,h]
 simp only[bne_self_eq_false,An,A1,Af,Cn ht]
theorem T1 {n:Nat} {l:List Tk} {i:Nat} {inn:Int} (h:Bj l i [40]=true) :
 Bq (n+2) l (i:Int) inn 0 0=(Du (n+1) l (i:Int) inn 0 0).bind fun y=>bif y.2.2.2.1==0 then(Cs (n+1) [41] l y.2.1 y.2.2.1 y.2.2.2.1 y.2.2.2.2).bind fun z=>bif z then some (y.1,IntKind.i64.wrap (y.2.1+1),y.2.2.1,y.2.2.2.1,y.2.2.2.2) else(Ce (n+1) 5 l y.2.1 y.2.2.1 y.2.2.2.1 y.2.2.2.2).bind fun w=>some (w.1,y.2.1,y.2.2.1,w.2.1,w.2.2) else some (y.1,IntKind.i64.wrap (y.2.1+1),y.2.2.1,y.2.2.2.1,y.2.2.2.2):=by
 have h0:Bj l i [33]=false:=Uz h (by decide)
 rw[Bq,Rm,h0,Rm,h]
 simp only[bne_self_eq_false,An,A1,Af]
theorem A13 {n:Nat} {l:List Tk} {i:Nat} {inn:Nat} {t:Tk} (h:30≤inn) (ht:l[i]?=some t):Eg (n+2) l (i:Int) (inn:Int) 0 0=some ([],(i:Int),(inn:Int),7,t.Ab)∧Du (n+2) l (i:Int) (inn:Int) 0 0=some ([],(i:Int),(inn:Int),7,t.Ab):=by
 constructor
 ·rw[Eg,A6 (by omega),A8z n l i inn ht];rfl
 ·rw[Du,A6 (by omega),A8z n l i inn ht];rfl
theorem Ti {n:Nat} {l:List Tk} {i:Nat} {inn:Nat} (h:inn < 30) (hi:i < l.length) (hl:l.length < 1000000):Eg (n+1) l (i:Int) (inn:Int) 0 0=((Bq n l ((i+1:Nat):Int) ((inn+1:Nat):Int) 0 0).bind fun y=>some (y.1,y.2.1,IntKind.i64.wrap (y.2.2.1 - 1),y.2.2.2.1,y.2.2.2.2))∧Du (n+1) l (i:Int) (inn:Int) 0 0=((D8 n l ((i+1:Nat):Int) ((inn+1:Nat):Int) 0 0).bind fun y=>some (y.1,y.2.1,IntKind.i64.wrap (y.2.2.1 - 1),y.2.2.2.1,y.2.2.2.2)):=by
 constructor
 ·rw[Eg,Aq (by omega),Ay i (by omega),Ay inn (by omega)]
 ·rw[Du,Aq (by omega),Ay i (by omega),Ay inn (by omega)]
theorem A4d (j:Nat) (h:j < 1000):IntKind.i64.wrap (((j+1:Nat):Int) - 1)=(j:Int):=by
 rw[Cx (by omega)];omega
theorem Ry {n:Nat} {l:List Tk} {i:Nat} {inn:Int} (h1:Bj l i [33]=false) (h2:Bj l i [40]=false) (h3:isK l i=false) (hl:l.length < 1000000) :
 Bq (n+3) l (i:Int) inn 0 0=(D5 (n+2) l (i:Int) inn 0 0).bind fun y=>bif y.2.2.1 then(Cs (n+2) [46] l y.2.2.2 inn 0 0).bind fun z=>bif z then(D5 (n+2) l (IntKind.i64.wrap (y.2.2.2+1)) inn 0 0).bind fun w=>bif w.2.2.1 then(Cw (n+2) ⟨4,0,w.1,y.1,y.2.1⟩ []).bind fun v=>some (v,w.2.2.2,inn,0,0) else(Ce (n+2) 5 l w.2.2.2 inn 0 0).bind fun v=>some (v.1,w.2.2.2,inn,v.2.1,v.2.2) else(Cw (n+2) ⟨2,0,y.1,[],y.2.1⟩ []).bind fun v=>some (v,y.2.2.2,inn,0,0) else(Ce (n+2) 5 l y.2.2.2 inn 0 0).bind fun v=>some (v.1,y.2.2.2,inn,v.2.1,v.2.2):=by
 rw[Bq,Rm,h1,Rm,h2]
 simp only[bne_self_eq_false,An,A1]
 by_cases h:i < l.length
 ·have hk:(l[i].A7==2)=false:=by rw[isK,Ax h] at h3;exact h3
  rw[A6 (by omega),C8 h,A1,hk,An]
 ·rw[Aq (by omega)]
theorem Aaa {n:Nat} {l:List Tk} {i:Nat} {inn:Int} {t:Tk} (h3:isK l i=true) (ht:l[i]?=some t) (hl:l.length < 1000000):Bq (n+10) l (i:Int) inn 0 0=some ([⟨1,t.Bs,[],[],t.Ab⟩],((i+1:Nat):Int),inn,0,0):=by
 have hk:t.A7=2:=by simpa [isK,ht] using h3
 have h1:Bj l i [33]=false:=by simp[Bj,ht,hk]
 have h2:Bj l i [40]=false:=by simp[Bj,ht,hk]
 have h:=H9 ht
 rw[Bq,Rm,h1,Rm,h2]
 simp only[bne_self_eq_false,An,A1,Cn ht,hk,beq_self_eq_true,Af,A2g (n+9) _ (by omega),Ay i (show i < 4611686018427387904 by omega)]
 rw[A6 (by omega)]
theorem To (n:Nat):flM 5 n=Bq n:=rfl
theorem Aa1 (n:Nat):flM 0 n=D8 n:=rfl
theorem Qf {l:List Tk} {i:Nat} (h:isN l i=true) (s:List UInt8):Bj l i s=false:=by
 obtain⟨t,ht⟩:=A2p h
 simp only[isN,ht,Ah,beq_iff_eq] at h
 simp[Bj,ht,h.1]
theorem A0a {l:List Tk} {i:Nat} (h:isN l i=true):isK l i=false:=by
 obtain⟨t,ht⟩:=A2p h
 simp only[isN,ht,Ah,beq_iff_eq] at h
 simp[isK,ht,h.1]
theorem Ail {l:List Tk} (hl:l.length < 100000) {md:Md} {inn i:Nat} {r:PR} (h:PE l md inn i r):i≤l.length→inn≤30→Imp l inn i r md:=by
 induction h with
 | @deep inn i t h1 h2 h3 =>
  intro hi hn n hf
  have hlt:=H9 h3
  obtain⟨n,rfl⟩:∃ j,n=j+10:=⟨n - 10,by omega⟩
  rw[To]
  rcases h1 with h1 | h1
  ·rw[Wh h1 h3,(A13 (n:=n+7) h2 h3).1,A1,A2c (n+9) _ _ (by simp) (by omega),A1]
   exact⟨_,_,_,rfl,by simp;omega,by omega⟩
  ·rw[T1 h1,(A13 (n:=n+7) h2 h3).2,A1,show((7:Int)==0)=false from rfl,An,Ay i (by omega)]
   exact⟨_,_,_,rfl,by simp;omega,by omega⟩
 | @not_ok inn i tu t x h1 h2 h3 h4 ih =>
  intro hi hn n hf
  have hlt:=H9 h3
  have hx:=H4 h4 (by omega);dsimp only at hx
  obtain⟨n,rfl⟩:∃ j,n=j+10:=⟨n - 10,by omega⟩
  have e:flM 5 (n+8) l ((i+1:Nat):Int) ((inn+1:Nat):Int) 0 0=_:=ih (by omega) (by omega) (n+8) (by omega)
  rw[To] at e ⊢
  rw[Wh h1 h3,(Ti (n:=n+8) h2 hlt (by omega)).1,e,Option.bind_some,Option.bind_some,A2c (n+9) _ _ (by dsimp only;omega) (by omega),Option.bind_some]
  dsimp only
  rw[A4d _ (by omega)];rfl
 | @not_bad inn i e a h1 h2 h4 ih =>
  intro hi hn n hf
  have hlt:=D0 h1
  obtain⟨n,rfl⟩:∃ j,n=j+10:=⟨n - 10,by omega⟩
  obtain⟨X,i',j,e,e1,e2⟩:=ih (by omega) (by omega) (n+8) (by omega)
  rw[To] at e ⊢
  rw[Wh h1 (List.getElem?_eq_getElem hlt),(Ti (n:=n+8) h2 hlt (by omega)).1,e,Option.bind_some,Option.bind_some,A2c (n+9) _ _ (by dsimp only;omega) (by omega),Option.bind_some]
  exact⟨_,i',_,rfl,by simp;omega,by omega⟩
 | @par_ok inn i tu x h1 h2 h3 h4 ih =>
  intro hi hn n hf
  have hlt:=D0 h1
  have hx:=H4 h3 (by omega);dsimp only at hx
  obtain⟨n,rfl⟩:∃ j,n=j+10:=⟨n - 10,by omega⟩
  have e:flM 0 (n+8) l ((i+1:Nat):Int) ((inn+1:Nat):Int) 0 0=_:=ih (by omega) (by omega) (n+8) (by omega)
  rw[Aa1] at e
  rw[To,T1 h1,(Ti (n:=n+8) h2 hlt (by omega)).2,e,A1,A1]
  dsimp only
  rw[beq_self_eq_true,Af,Rm,h4,A1,Af,Ay tu (by omega),A4d _ (by omega)];rfl
 | @par_bad inn i e a h1 h2 h3 ih =>
  intro hi hn n hf
  have hlt:=D0 h1
  have hx:=H4 h3 (by omega);dsimp only at hx
  obtain⟨n,rfl⟩:∃ j,n=j+10:=⟨n - 10,by omega⟩
  obtain⟨X,i',j,e,e1,e2⟩:=ih (by omega) (by omega) (n+8) (by omega)
  rw[Aa1] at e
  rw[To,T1 h1,(Ti (n:=n+8) h2 hlt (by omega)).2,e,A1,A1]
  dsimp only
  rw[Ca.2 hx,An,Ay i' (by omega)]
  exact⟨_,_,_,rfl,by omega,by omega⟩
 | @par_open inn i tu x h1 h2 h3 h4 ih =>
  intro hi hn n hf
  have hlt:=D0 h1
  have hx:=H4 h3 (by omega);dsimp only at hx
  obtain⟨n,rfl⟩:∃ j,n=j+10:=⟨n - 10,by omega⟩
  have e:flM 0 (n+8) l ((i+1:Nat):Int) ((inn+1:Nat):Int) 0 0=_:=ih (by omega) (by omega) (n+8) (by omega)
  rw[Aa1] at e
  rw[To,T1 h1,(Ti (n:=n+8) h2 hlt (by omega)).2,e,A1,A1]
  dsimp only
  rw[beq_self_eq_true,Af,Rm,h4,A1,An,A2b _ _ _ _ (by omega),A1]
  exact⟨_,_,_,rfl,by simp;omega,by omega⟩
 | @num inn i t h1 h2 =>
  intro hi hn n hf
  obtain⟨n,rfl⟩:∃ j,n=j+10:=⟨n - 10,by omega⟩
  rw[To,Aaa h1 h2 (by omega)];rfl
 | @reg inn i t h1 h2 h3 =>
  intro hi hn n hf
  have hlt:=H9 h3
  obtain⟨n,rfl⟩:∃ j,n=j+10:=⟨n - 10,by omega⟩
  rw[To,Ry (n:=n+7) (Qf h1 _) (Qf h1 _) (A0a h1) (by omega),Ur (n:=n+7) (by omega) h1 h3,A1]
  dsimp only
  rw[Af,Rm,h2,A1,An,A2g _ _ (by omega),A1];rfl
 | @of inn i t u h1 h2 h3 h4 h5 =>
  intro hi hn n hf
  have hlt:=H9 h5
  obtain⟨n,rfl⟩:∃ j,n=j+10:=⟨n - 10,by omega⟩
  rw[To,Ry (n:=n+7) (Qf h1 _) (Qf h1 _) (A0a h1) (by omega),Ur (n:=n+7) (by omega) h1 h4,A1]
  dsimp only
  rw[Af,Rm,h2,A1,Af,Ay (i+1) (by omega),Ur (n:=n+7) (by omega) h3 h5,A1]
  dsimp only
  rw[Af,A2g _ _ (by omega),A1];rfl
 | @of_bad inn i h1 h2 h3 =>
  intro hi hn n hf
  have hlt:=D0 h2
  obtain⟨n,rfl⟩:∃ j,n=j+10:=⟨n - 10,by omega⟩
  obtain⟨t,h4⟩:=A2p h1
  rw[To,Ry (n:=n+7) (Qf h1 _) (Qf h1 _) (A0a h1) (by omega),Ur (n:=n+7) (by omega) h1 h4,A1]
  dsimp only
  rw[Af,Rm,h2,A1,Af,Ay (i+1) (by omega),A65 (n:=n+7) (by omega) h3,A1]
  dsimp only
  rw[An,A2b _ _ _ _ (by omega),A1]
  exact⟨_,_,_,rfl,by simp;omega,by omega⟩
 | @no inn i h1 h2 h3 h4 =>
  intro hi hn n hf
  obtain⟨n,rfl⟩:∃ j,n=j+10:=⟨n - 10,by omega⟩
  rw[To,Ry (n:=n+7) h1 h2 h3 (by omega),A65 (n:=n+7) (by omega) h4,A1]
  dsimp only
  rw[An,A2b _ _ _ _ (by omega),A1]
  exact⟨_,_,_,rfl,by simp,by omega⟩
 | @fl_bad f inn i ee a h1 h2 ih =>
  intro hi hn n hf
  have he:=H4 h2 hi;dsimp only at he
  obtain⟨n,rfl⟩:∃ j,n=j+2:=⟨n - 2,by omega⟩
  obtain⟨X,i',j,e,e1,e2⟩:=ih hi hn n (by omega)
  obtain⟨k,hk⟩:∃ k,n=k+1:=⟨n - 1,by omega⟩
  rw[A90 h1,Rr,e,A1]
  dsimp only
  have:Bc n (flM (f+1) n) (Fg f) l n (f==2) X (i':Int) j ee a=some (.out (X,(i':Int),j,ee,a)):=by
   rw[show Bc n (flM (f+1) n) (Fg f) l n=Bc n (flM (f+1) n) (Fg f) l (k+1) by rw[← hk],Bc,Ca.2 he,An]
  rw[this]
  exact⟨_,_,_,rfl,e1,e2⟩
 | @fl_ok f inn i tu x r h1 h2 h3 ih1 ih2 =>
  intro hi hn n hf
  have hx:=H4 h2 hi;dsimp only at hx
  obtain⟨n,rfl⟩:∃ j,n=j+2:=⟨n - 2,by omega⟩
  have e:flM (f+1) n l (i:Int) (inn:Int) 0 0=_:=ih1 hi hn n (by omega)
  have e2:=ih2 (by omega) hn n n h1 (by omega) (by omega) (by omega)
  rw[A90 h1,Rr,e,A1]
  dsimp only
  cases r with
  | ok y to2=>rw[show Bc n (flM (f+1) n) (Fg f) l n (f==2) x (tu:Int) (inn:Int) 0 0=_ from e2];rfl
  | bad e' a =>
   obtain⟨X,i',j,e2,e3,e4⟩:=e2
   rw[e2]
   exact⟨_,_,_,rfl,by omega,e4⟩
 | @lp_stop f inn i x h1 =>
  intro hi hn n k h5 hx hf hk
  obtain⟨k,rfl⟩:∃ j,k=j+1:=⟨k - 1,by omega⟩
  obtain⟨m,hm⟩:∃ j,n=j+1:=⟨n - 1,by omega⟩
  rw[Bc,beq_self_eq_true,Af]
  have hL:Bv n (Fg f) l (i:Int) (inn:Int) 0 0 n 0 0=some (.out (Fr l i (Fg f))):=by
   rw[hm];exact Z4 m _ l i _ _ _ (Pn f).1 (Pn f).2 (by omega)
  rw[hL,A1]
  dsimp only
  rw[h1,beq_self_eq_true,Af];rfl
 | @lp_bad f inn i x e a h1 h2 h3 ih =>
  intro hi hn n k h5 hx hf hk
  have hlt:=Nb h2
  have he:=H4 h3 (by omega);dsimp only at he
  obtain⟨k,rfl⟩:∃ j,k=j+2:=⟨k - 2,by omega⟩
  obtain⟨m,hm⟩:∃ j,n=j+1:=⟨n - 1,by omega⟩
  obtain⟨X,i',j,e0,e1,e2⟩:=ih (by omega) hn n (by omega)
  have hL:Bv n (Fg f) l (i:Int) (inn:Int) 0 0 n 0 0=some (.out (Fr l i (Fg f))):=by
   rw[hm];exact Z4 m _ l i _ _ _ (Pn f).1 (Pn f).2 (by omega)
  rw[Bc,beq_self_eq_true,Af,hL,A1]
  dsimp only
  rw[beq_eq_false_iff_ne.2 h2,cond_false,C8 hlt,Option.bind_some,Ay i (by omega),e0,Option.bind_some,A26 n _ _ _ (by dsimp only;omega) (by omega),Option.bind_some]
  dsimp only
  cases f==2 with
  | true=>exact⟨_,_,_,rfl,by simp;omega,e2⟩
  | false =>
   rw[An,Bc,Ca.2 he,An]
   exact⟨_,_,_,rfl,by simp;omega,e2⟩
 | @lp_once inn i tu x y t h1 h2 h3 ih =>
  intro hi hn n k h5 hx hf hk
  have hlt:=Nb h1
  have he:=H4 h3 (by omega);dsimp only at he
  obtain⟨k,rfl⟩:∃ j,k=j+2:=⟨k - 2,by omega⟩
  obtain⟨m,hm⟩:∃ j,n=j+1:=⟨n - 1,by omega⟩
  have e0:flM 3 n l ((i+1:Nat):Int) (inn:Int) 0 0=_:=ih (by omega) hn n (by omega)
  have hL:Bv n (Fg 2) l (i:Int) (inn:Int) 0 0 n 0 0=some (.out (Fr l i (Fg 2))):=by
   rw[hm];exact Z4 m _ l i _ _ _ (Pn 2).1 (Pn 2).2 (by omega)
  rw[Bc,beq_self_eq_true,Af,hL,A1]
  dsimp only
  rw[beq_eq_false_iff_ne.2 h1,cond_false,Cn h2,Option.bind_some,Ay i (by omega),e0,Option.bind_some,A26 n _ _ _ (by dsimp only;omega) (by omega),Option.bind_some]
  rfl
 | @lp_go f inn i tu x y t r h1 h2 h3 h4 h5 h6 ih1 ih2 =>
  intro hi hn n k h7 hx hf hk
  have hlt:=Nb h3
  have he:=H4 h5 (by omega);dsimp only at he
  obtain⟨k,rfl⟩:∃ j,k=j+1:=⟨k - 1,by omega⟩
  obtain⟨m,hm⟩:∃ j,n=j+1:=⟨n - 1,by omega⟩
  have e0:flM (f+1) n l ((i+1:Nat):Int) (inn:Int) 0 0=_:=ih1 (by omega) hn n (by omega)
  have e1:=ih2 (by omega) hn n k h7 (by simp;omega) (by omega) (by omega)
  have hL:Bv n (Fg f) l (i:Int) (inn:Int) 0 0 n 0 0=some (.out (Fr l i (Fg f))):=by
   rw[hm];exact Z4 m _ l i _ _ _ (Pn f).1 (Pn f).2 (by omega)
  have hf2:(f==2)=false:=Ca.2 h2
  rw[hf2] at e1 ⊢
  rw[Bc,beq_self_eq_true,Af,hL,A1]
  dsimp only
  rw[beq_eq_false_iff_ne.2 h3,cond_false,Cn h4,Option.bind_some,Ay i (by omega),e0,Option.bind_some,A26 n _ _ _ (by dsimp only;omega) (by omega),Option.bind_some]
  dsimp only
  rw[An]
  cases r with
  | ok y to2=>exact e1
  | bad e' a =>
   obtain⟨X,i',j,e2,e3,e4⟩:=e1
   simp only[List.length_cons,List.length_append] at e3
   exact⟨_,_,_,e2,by omega,e4⟩
theorem Aey {l:List Tk} {f inn:Nat} (hf:f < 5) (j:Nat) (h:∀ i,j < i→i≤l.length→∃ r,PE l (.fl (f+1)) inn i r):∀ (m i:Nat) (x:List Nd),l.length - i≤m→j≤i→i≤l.length→∃ r,PE l (.lp f x) inn i r:=by
 intro m
 induction m with
 | zero =>
  intro i x hm hj hi
  refine⟨_,.lp_stop ?_⟩
  cases Decidable.em (Fr l i (Fg f)=0) with
  | inl h=>exact h
  | inr h=>have:=Nb h;omega
 | succ m ih =>
  intro i x hm hj hi
  by_cases c:Fr l i (Fg f)=0
  ·exact⟨_,.lp_stop c⟩
  ·have hlt:=Nb c
   obtain⟨r,hr⟩:=h (i+1) (by omega) (by omega)
   cases r with
   | bad e a=>exact⟨_,.lp_bad hf c hr⟩
   | ok y tu =>
    have hto:=H4 hr (by omega);dsimp only at hto
    by_cases c2:f=2
    ·subst c2;exact⟨_,.lp_once c (Ax hlt) hr⟩
    ·obtain⟨r,h2⟩:=ih tu (⟨Fr l i (Fg f),0,[],[],l[i].Ab⟩ :: (x++y)) (by omega) (by omega) (by omega)
     exact⟨_,.lp_go hf c2 c (Ax hlt) hr h2⟩
theorem A11 {l:List Tk} {inn i:Nat} (hi:i≤l.length) (hn:inn≤30) (h:∀ f inn',f≤5→inn'≤30→i < l.length→∃ r,PE l (.fl f) inn' (i+1) r):∃ r,PE l (.fl 5) inn i r:=by
 cases h1:Bj l i [33] with
 | true =>
  have hlt:=D0 h1
  by_cases c:30≤inn
  ·exact⟨_,.deep (.inl h1) c (Ax hlt)⟩
  ·obtain⟨r,hr⟩:=h 5 (inn+1) (by omega) (by omega) hlt
   cases r with
   | bad e a=>exact⟨_,.not_bad h1 (by omega) hr⟩
   | ok y tu=>exact⟨_,.not_ok h1 (by omega) (Ax hlt) hr⟩
 | false =>
 cases h2:Bj l i [40] with
 | true =>
  have hlt:=D0 h2
  by_cases c:30≤inn
  ·exact⟨_,.deep (.inr h2) c (Ax hlt)⟩
  ·obtain⟨r,hr⟩:=h 0 (inn+1) (by omega) (by omega) hlt
   cases r with
   | bad e a=>exact⟨_,.par_bad h2 (by omega) hr⟩
   | ok y tu =>
    cases h3:Bj l tu [41] with
    | true=>exact⟨_,.par_ok h2 (by omega) hr h3⟩
    | false=>exact⟨_,.par_open h2 (by omega) hr h3⟩
 | false =>
 cases h3:isK l i with
 | true =>
  have:i < l.length:=by
   unfold isK at h3
   cases hg:l[i]? with
   | none=>rw[hg] at h3;cases h3
   | some t=>exact H9 hg
  exact⟨_,.num h3 (Ax this)⟩
 | false =>
 cases h4:isN l i with
 | false=>exact⟨_,.no h1 h2 h3 h4⟩
 | true =>
 have hlt:=Ph h4
 cases h5:Bj l (i+1) [46] with
 | false=>exact⟨_,.reg h4 h5 (Ax hlt)⟩
 | true =>
 cases h6:isN l (i+2) with
 | false=>exact⟨_,.of_bad h4 h5 h6⟩
 | true=>exact⟨_,.of h4 h5 h6 (Ax hlt) (Ax (Ph h6))⟩
theorem A76 {l:List Tk}:∀ (m i f inn:Nat),l.length - i≤m→i≤l.length→f≤5→inn≤30→∃ r,PE l (.fl f) inn i r:=by
 intro m
 induction m with
 | zero =>
  intro i f inn hm hi hf hn
  obtain⟨d,hd⟩:∃ d,d+f=5:=⟨5 - f,by omega⟩
  induction d generalizing f with
  | zero=>obtain rfl:f=5:=by omega
          exact A11 hi hn (fun _ _ _ _ h=>by omega)
  | succ d ih =>
   obtain⟨r,hr⟩:=ih (f+1) (by omega) (by omega)
   cases r with
   | bad e a=>exact⟨_,.fl_bad (by omega) hr⟩
   | ok y tu=>have:=H4 hr hi;dsimp only at this;omega
 | succ m ihm =>
  intro i f inn hm hi hf hn
  obtain⟨d,hd⟩:∃ d,d+f=5:=⟨5 - f,by omega⟩
  induction d generalizing f with
  | zero=>obtain rfl:f=5:=by omega
          exact A11 hi hn (fun f' inn' h1 h2 h3=>ihm (i+1) f' inn' (by omega) (by omega) h1 h2)
  | succ d ih =>
   obtain⟨r,hr⟩:=ih (f+1) (by omega) (by omega)
   cases r with
   | bad e a=>exact⟨_,.fl_bad (by omega) hr⟩
   | ok y tu =>
    have hto:=H4 hr hi;dsimp only at hto
    obtain⟨r,h2⟩:=Aey (f:=f) (inn:=inn) (by omega) tu (fun i' h1 h2=>ihm i' (f+1) inn (by omega) h2 (by omega) hn) l.length tu y (by omega) (by omega) (by omega)
    exact⟨_,.fl_ok (by omega) hr h2⟩
def Ly (l:List Tk) (i:Nat):PR→List Nd×Int×Int×Int
 | .bad e a=>([],0,e,a)
 | .ok x tu=>if 30 < (Ff x (0,[])).1 then([],0,7,Bg l i) else if 200 < x.length then([],0,2,Bg l i) else(x,tu,0,0)
theorem Ak4 {l:List Tk} (hl:l.length < 100000) {n i:Nat} {r:PR} (hr:PE l (.fl 0) 0 i r) (hi:i≤l.length) (hn:12*l.length+100≤n):I9 n l (i:Int)=some (Ly l i r):=by
 obtain⟨n,rfl⟩:∃ j,n=j+1:=⟨n - 1,by omega⟩
 have h:=Ail hl hr hi (by omega) n (by omega)
 rw[I9,Aq (by omega)]
 rw[Aa1] at h
 cases r with
 | bad e a =>
  have he:=H4 hr hi;dsimp only at he
  obtain⟨X,i',j,e1,_,_⟩:=h
  have e1:D8 n l (i:Int) 0 0 0=_:=e1
  rw[e1,A1]
  dsimp only
  rw[show(e != 0)=true by simpa using he];rfl
 | ok x tu =>
  have hx:=H4 hr hi;dsimp only at hx
  have h:D8 n l (i:Int) 0 0 0=_:=h
  have ht:l[i]?=some (l[i]'(by omega)):=Ax (by omega)
  have hp:Bg l i=(l[i]'(by omega)).Ab:=by unfold Bg;rw[ht]
  rw[h,A1,A6r n x (by omega) (by omega),Cn ht]
  simp only[bne_self_eq_false,An,A1,Ly,hp]
  by_cases c:30 < (Ff x (0,[])).1
  ·rw[A6 c,if_pos c]
  ·rw[Aq c,if_neg c]
   by_cases c2:200 < x.length
   ·rw[A6 (by omega),if_pos c2]
   ·rw[Aq (by omega),if_neg c2]
def Sb (t:Tk):Prop:=0≤t.Ab∧0≤t.Bs∧t.Bs≤9999
def Or (x:List Nd):Prop:=(∃ t:Tr,t.wf∧t.flat=x)∧∀ y ∈ x,E2 y=true∧y.B3≠3
theorem A46 {op a:Int} (h:5≤op∧op≤14) (ha:0≤a):E2 ⟨op,0,[],[],a⟩=true:=by
 simp only[E2]
 rw[decide_eq_false (by omega),if_neg (by omega),if_neg (by omega),if_neg (by omega)];rfl
theorem Au6 {op:Int} (h:6≤op∧op≤14):Dl op=2:=by unfold Dl;rw[if_neg (by omega),if_neg (by omega),if_pos h]
theorem A61 {l:List Tk} {i f:Nat} (h:Fr l i (Fg f)≠0):6≤Fr l i (Fg f)∧Fr l i (Fg f)≤14:=by
 rcases Afx (l:=l) (i:=i) (ops:=Fg f) (a:=0) with h1 | h1
 ·exact absurd h1 h
 ·exact(Pn f).1 _ h1
theorem A7b {op a:Int} {x y:List Nd} (h:6≤op∧op≤14) (ha:0≤a) (hx:Or x) (hy:Or y):Or (⟨op,0,[],[],a⟩ :: (x++y)):=by
 obtain⟨⟨t,t1,t2⟩,hx⟩:=hx
 obtain⟨⟨u,u1,u2⟩,hy⟩:=hy
 refine⟨⟨.bin ⟨op,0,[],[],a⟩ t u,⟨Au6 h,t1,u1⟩,by rw[Tr.flat,t2,u2]⟩,fun z hz=>?_⟩
 rcases List.mem_cons.1 hz with rfl | hz
 ·exact⟨A46 (by omega) ha,by dsimp only;omega⟩
 ·rcases List.mem_append.1 hz with hz | hz
  ·exact hx z hz
  ·exact hy z hz
theorem Xn {l:List Tk} (hl:∀ t ∈ l,Sb t) {md:Md} {inn i:Nat} {r:PR} (h:PE l md inn i r):match md,r with
 | .fl _,.ok x _=>Or x
 | .lp _ x0,.ok x _=>Or x0→Or x
 | _,_=>True:=by
 have ok:∀ {i:Nat} {t:Tk},l[i]?=some t→Sb t:=fun h=>hl _ (List.mem_of_getElem? h)
 have nm:∀ {i:Nat} {t:Tk},isN l i=true→l[i]?=some t→Cp t.Ac=true:=fun h1 h2=>by
  simp only[isN,h2,Ah] at h1;exact h1.2
 induction h with
 | deep h1 h2 h3=>trivial
 | @not_ok inn i tu t x h1 h2 h3 h4 ih =>
  obtain⟨⟨u,u1,u2⟩,hx⟩:=ih
  refine⟨⟨.un ⟨5,0,[],[],t.Ab⟩ u,⟨(by decide:Dl 5=1),u1⟩,by rw[Tr.flat,u2]⟩,fun z hz=>?_⟩
  rcases List.mem_cons.1 hz with rfl | hz
  ·exact⟨A46 (by omega) (ok h3).1,by dsimp only;omega⟩
  ·exact hx z hz
 | not_bad h1 h2 h4 ih=>trivial
 | par_ok h1 h2 h3 h4 ih=>exact ih
 | par_bad h1 h2 h4 ih=>trivial
 | par_open h1 h2 h3 h4 ih=>trivial
 | @num inn i t h1 h2 =>
  have:=ok h2
  refine⟨⟨.leaf ⟨1,t.Bs,[],[],t.Ab⟩,(by decide:Dl 1=0),rfl⟩,fun z hz=>?_⟩
  obtain rfl:=List.mem_singleton.1 hz
  refine⟨?_,(by decide:(1:Int)≠3)⟩
  simp only[E2]
  rw[decide_eq_false (by have:=this.1;omega),if_pos trivial,decide_eq_true ⟨this.2.1,this.2.2⟩];rfl
 | @reg inn i t h1 h2 h3 =>
  have:=ok h3
  refine⟨⟨.leaf ⟨2,0,t.Ac,[],t.Ab⟩,(by decide:Dl 2=0),rfl⟩,fun z hz=>?_⟩
  obtain rfl:=List.mem_singleton.1 hz
  refine⟨?_,(by decide:(2:Int)≠3)⟩
  simp only[E2]
  rw[decide_eq_false (by have:=this.1;omega),if_neg (by omega),if_pos (.inl trivial),nm h1 h3];rfl
 | @of inn i t u h1 h2 h3 h4 h5 =>
  have:=ok h4
  refine⟨⟨.leaf ⟨4,0,u.Ac,t.Ac,t.Ab⟩,(by decide:Dl 4=0),rfl⟩,fun z hz=>?_⟩
  obtain rfl:=List.mem_singleton.1 hz
  refine⟨?_,(by decide:(4:Int)≠3)⟩
  simp only[E2]
  rw[decide_eq_false (by have:=this.1;omega),if_neg (by omega),if_neg (by omega),if_pos trivial,nm h1 h4,nm h3 h5];rfl
 | of_bad h1 h2 h3=>trivial
 | no h1 h2 h3 h4=>trivial
 | fl_bad h1 h2 ih=>trivial
 | @fl_ok f inn i tu x r h1 h2 h3 ih1 ih2 =>
  cases r with
  | ok y to2=>exact ih2 ih1
  | bad e a=>trivial
 | lp_stop h1=>exact id
 | lp_bad h1 h2 h3 ih=>trivial
 | lp_once h1 h2 h3 ih=>exact fun hx=>A7b (A61 h1) (ok h2).1 hx ih
 | @lp_go f inn i tu x y t r h1 h2 h3 h4 h5 h6 ih1 ih2 =>
  cases r with
  | ok y to2=>exact fun hx=>ih2 (A7b (A61 h3) (ok h4).1 hx ih1)
  | bad e a=>trivial
def Cy (x:Nd):Nd:=⟨if x.B3=3 then 2 else x.B3,x.Bs,x.Ao,x.Cq,0⟩
theorem A8t (f:Nat) (l:List UInt8) (p:Nat) (acc:List Tok):(Ed f l p acc).toks.length≤acc.length+l.length:=by
 induction f generalizing l p acc with
 | zero=>simp[Ed]
 | succ f ih =>
  have hg:=A0i false l
  simp only[Ed]
  rcases hd:l.drop (D7 false l) with _ | ⟨c,u⟩
  ·simp
  ·have hlen:=congrArg List.length hd
   rw[List.length_drop] at hlen
   simp only
   cases ho:Jo (c :: u) with
   | err e=>simp
   | tok k n v =>
    simp only
    have hn:=Sn ho
    have:=ih ((c :: u).drop n) (p+D7 false l+n) (acc++[⟨k,(c :: u).take n,v,(p+D7 false l:Nat)⟩])
    simp only[List.length_append,List.length_singleton,List.length_drop] at this
    omega
theorem Ag6 (l:List UInt8):(Hr l).toks.length≤l.length:=by
 unfold Hr
 split
 ·simp
 ·have:=A8t (l.length+1) l 0 []
  simpa using this
theorem Ag9 {l:List UInt8} {k:Int} {n v:Nat} (h:Jo l=.tok k n v):v≤9999:=by
 rcases l with _ | ⟨c,t⟩
 ·simp[Jo] at h
 ·simp only[Jo] at h
  repeat' split at h
  all_goals first
   | (simp at h;done)
   | (simp only[Lx.tok.injEq] at h;omega)
def Aal (B:Nat) (t:Tok):Prop:=0≤t.at'∧t.at'+t.text.length≤B∧0≤t.n∧t.n≤9999
theorem Aaq (f:Nat) (l:List UInt8) (p B:Nat) (acc:List Tok) (hB:p+l.length≤B) (ha:∀ t ∈ acc,Aal B t):∀ t ∈ (Ed f l p acc).toks,Aal B t:=by
 induction f generalizing l p acc with
 | zero=>exact ha
 | succ f ih =>
  have hg:=A0i false l
  simp only[Ed]
  rcases hd:l.drop (D7 false l) with _ | ⟨c,u⟩
  ·exact ha
  ·have hlen:=congrArg List.length hd
   rw[List.length_drop] at hlen
   simp only
   cases ho:Jo (c :: u) with
   | err e=>simp
   | tok k n v =>
    simp only
    have hn:=Sn ho
    refine ih ((c :: u).drop n) (p+D7 false l+n) _ (by rw[List.length_drop];omega) (fun t ht=>?_)
    rcases List.mem_append.1 ht with ht | ht
    ·exact ha t ht
    ·obtain rfl:=List.mem_singleton.1 ht
     have:=Ag9 ho
     refine⟨by dsimp only;omega,?_,by dsimp only;omega,by dsimp only;omega⟩
     dsimp only
     rw[List.length_take];omega
theorem Aki (l:List UInt8):∀ t ∈ (Hr l).toks,Aal l.length t:=by
 unfold Hr
 split
 ·simp
 ·exact Aaq _ _ _ _ _ (by omega) (by simp)
def Qx (s:List UInt8):List Tk:=(Hr s).toks.map tkS
theorem Wb (s:List UInt8):(∀ t ∈ Qx s,Sb t∧t.Ab+t.Ac.length≤s.length)∧(Qx s).length≤s.length:=by
 refine⟨fun t ht=>?_,by rw[Qx,Au];exact Ag6 s⟩
 obtain⟨u,hu,rfl⟩:=List.mem_map.1 ht
 have:=Aki s u hu
 exact⟨⟨this.1,this.2.2.1,this.2.2.2⟩,this.2.1⟩
def Atm (l:List Tk):PR→Prop
 | .bad _ a=>(∃ t ∈ l,a=t.Ab)∨(∃ i,a=Bg l i)
 | _=>True
theorem Ao1 {l:List Tk} {md:Md} {inn i:Nat} {r:PR} (h:PE l md inn i r):Atm l r:=by
 induction h with
 | deep h1 h2 h3=>exact .inl ⟨_,List.mem_of_getElem? h3,rfl⟩
 | not_bad h1 h2 h4 ih=>exact ih
 | par_bad h1 h2 h4 ih=>exact ih
 | par_open h1 h2 h3 h4 ih=>exact .inr ⟨_,rfl⟩
 | of_bad h1 h2 h3=>exact .inr ⟨_,rfl⟩
 | no h1 h2 h3 h4=>exact .inr ⟨_,rfl⟩
 | fl_bad h1 h2 ih=>exact ih
 | fl_ok h1 h2 h3 ih1 ih2=>exact ih2
 | lp_bad h1 h2 h3 ih=>exact ih
 | lp_go h1 h2 h3 h4 h5 h6 ih1 ih2=>exact ih2
 | _=>trivial
theorem Jj {l:List Tk} {B:Nat} (hB:B < 1000000) (h:∀ t ∈ l,Sb t∧t.Ab+t.Ac.length≤B) (i:Nat):0≤Bg l i∧Bg l i≤B:=by
 unfold Bg
 cases h1:l[i]? with
 | some t=>have:=h t (List.mem_of_getElem? h1);have:=this.1.1;dsimp only;omega
 | none =>
  cases h2:l[l.length - 1]? with
  | some t=>have:=h t (List.mem_of_getElem? h2);have:=this.1.1;dsimp only;rw[Cx (by omega)];omega
  | none=>dsimp only;omega
theorem A41 {l:List Tk} {B:Nat} (hB:B < 1000000) (h:∀ t ∈ l,Sb t∧t.Ab+t.Ac.length≤B) {md:Md} {inn i:Nat} {e a:Int} (hp:PE l md inn i (.bad e a)):0≤a∧a≤B:=by
 rcases Ao1 hp with ⟨t,ht,rfl⟩ | ⟨i,rfl⟩
 ·have:=h t ht;have:=this.1.1;omega
 ·exact Jj hB h i
theorem Afm {l:List Nd} (h6:l.all E2=true) (hl:Hn l=true):P0 l:=by
 simp only[Hn,Ah,C1,List.all_eq_true] at hl
 exact fun x hx=>⟨List.all_eq_true.1 h6 x hx,(hl.2 x hx).1,(hl.2 x hx).2⟩
theorem A57 {x:List Nd} (h:Or x) (hl:x.length≤200):Hn x=true:=by
 simp only[Hn,Ah,C1,List.all_eq_true]
 refine⟨by omega,fun y hy=>?_⟩
 have hy:=(h.2 y hy).1
 have nl:∀ {w:List UInt8},Cp w=true→w.length≤16:=fun h=>by
  obtain⟨_,_,_,_,_,h⟩:=S5 h;exact h
 simp only[E2,Ah] at hy
 have hy:=hy.2
 by_cases c1:y.B3=1
 ·rw[if_pos c1] at hy
  simp only[Ah,beq_iff_eq] at hy
  rw[hy.2.1,hy.2.2];simp
 ·rw[if_neg c1] at hy
  by_cases c2:y.B3=2∨y.B3=3
  ·rw[if_pos c2] at hy
   simp only[Ah,beq_iff_eq] at hy
   have:=nl hy.2.1
   rw[hy.2.2];simp;omega
  ·rw[if_neg c2] at hy
   by_cases c4:y.B3=4
   ·rw[if_pos c4] at hy
    simp only[Ah,beq_iff_eq] at hy
    have:=nl hy.2.1;have:=nl hy.2.2
    omega
   ·rw[if_neg c4] at hy
    simp only[Ah,beq_iff_eq] at hy
    rw[hy.2.1,hy.2.2];simp
theorem W6 {x:List Nd} (h:Or x) (hl:x.length≤200) (hd:(Ff x (0,[])).1≤30):∃ t:Tr,t.wf∧t.flat=x∧t.dep≤30∧P0 t.flat∧Ep x=true:=by
 obtain⟨⟨t,t1,rfl⟩,hg⟩:=h
 have hd2:=A38 t [] 0 [] t1 (by omega)
 rw[List.append_nil] at hd2
 have e:(Ff t.flat (0,[])).1=(t.dep:Int):=by rw[hd2];simp[Ff]
 have hp:=t.flat_pos
 have h6:t.flat.all E2=true:=List.all_eq_true.2 fun y hy=>(hg y hy).1
 have he:H6 t.flat 1=some t.flat.length:=by
  have:=Ado t 1 [] t1 (by omega)
  rw[List.append_nil,if_pos rfl] at this;exact this
 refine⟨t,t1,rfl,by omega,Afm h6 (A57 ⟨⟨t,t1,rfl⟩,hg⟩ hl),?_⟩
 simp only[Ep,Ah,C1]
 exact⟨⟨hp,hl⟩,he,h6,hd⟩
theorem A4a {l:List Tk} {i:Nat} {r:PR} (hr:PE l (.fl 0) 0 i r) (hi:i≤l.length):(∃ e a,Ly l i r=([],0,e,a)∧e≠0∧(r=.bad e a∨a=Bg l i))∨(∃ x tu,r=.ok x tu∧Ly l i r=(x,(tu:Int),0,0)∧x.length≤200∧(Ff x (0,[])).1≤30):=by
 cases r with
 | bad e a=>exact .inl ⟨e,a,rfl,H4 hr hi,.inl rfl⟩
 | ok x tu =>
  simp only[Ly]
  by_cases c:30 < (Ff x (0,[])).1
  ·rw[if_pos c];exact .inl ⟨7,_,rfl,by decide,.inr rfl⟩
  ·rw[if_neg c]
   by_cases c2:200 < x.length
   ·rw[if_pos c2];exact .inl ⟨2,_,rfl,by decide,.inr rfl⟩
   ·rw[if_neg c2];exact .inr ⟨x,tu,rfl,rfl,by omega,by omega⟩
theorem Lj (n:Nat) (s:List UInt8) (l:List Tk) (i:Nat):Fp (n+1) l (i:Int) s=some (Bj l i s):=by
 rw[Fp]
 by_cases h:i < l.length
 ·rw[A6 (by omega),C8 h,A1,A1]
  unfold Bj
  rw[Ax h]
  dsimp only
  cases hk:(l[i].A7==3)<;>simp
 ·rw[Aq (by omega)]
  unfold Bj
  rw[List.getElem?_eq_none (by omega)]
theorem Ain (n:Nat) (l:List Tk) (i:Nat) (hl:l.length < 1000000):Py (n+1) l (i:Int)=some (Bg l i):=by
 rw[Py]
 by_cases h:i < l.length
 ·rw[A6 (by omega),C8 h,A1]
  unfold Bg
  rw[Ax h]
 ·rw[Aq (by omega)]
  unfold Bg
  rw[List.getElem?_eq_none (by omega)]
  by_cases h0:l.length=0
  ·have:l=[]:=List.length_eq_zero_iff.1 h0
   subst this
   rfl
  ·have e:IntKind.i64.wrap ((l.length:Int) - 1)=((l.length - 1:Nat):Int):=by rw[Cx (by omega)];omega
   rw[e,show(((l.length:Nat):Int)==0)=false by rw[beq_eq_false_iff_ne];omega,An,C8 (show l.length - 1 < l.length by omega),A1,A1,Ax (show l.length - 1 < l.length by omega)]
theorem B2g (n:Nat) (l:List Tk) (i:Nat) (hl:l.length < 1000000):Fi (n+2) l (i:Int)=some ⟨[],0,Fj l i,Bg l i⟩:=by
 rw[Fi,Ain n l i hl]
 unfold Fj
 by_cases h:i < l.length
 ·rw[Aq (by omega),if_pos h];rfl
 ·rw[A6 (by omega),if_neg h];rfl
theorem Aw2 {a b:Int} (ha:6≤a∧a≤14) (hb:6≤b∧b≤14) (h:Ez a=Ez b):a=b:=by
 have ca:a=6∨a=7∨a=8∨a=9∨a=10∨a=11∨a=12∨a=13∨a=14:=by omega
 have cb:b=6∨b=7∨b=8∨b=9∨b=10∨b=11∨b=12∨b=13∨b=14:=by omega
 rcases ca with rfl | rfl | rfl | rfl | rfl | rfl | rfl | rfl | rfl<;>rcases cb with rfl | rfl | rfl | rfl | rfl | rfl | rfl | rfl | rfl<;>first | rfl | (revert h;decide)
theorem Aus {l:List Tk} {i:Nat} {a:Int}:∀ {ops:List Int},(∀ op ∈ ops,Bj l i (Ez op)=true→op=a)→ops.foldl (fun acc op=>bif Bj l i (Ez op) then op else acc) a=a:=by
 intro ops
 induction ops with
 | nil=>intro _;rfl
 | cons op ops ih =>
  intro h
  rw[List.foldl_cons]
  cases hs:Bj l i (Ez op) with
  | true=>rw[Af,h op (List.mem_cons_self ..) hs];exact ih fun o ho=>h o (List.mem_cons_of_mem _ ho)
  | false=>rw[An];exact ih fun o ho=>h o (List.mem_cons_of_mem _ ho)
theorem B1l (n:Nat) {op:Int} (h:5≤op∧op≤14):A1w (n+1) op=some (Ez op):=by
 rcases Wk op with h | h | h | h | h | h | h | h | h | h | h | h | h | h | h | h
 all_goals try omega
 all_goals subst h;rfl
theorem Axo (n:Nat) (l:List Tk) (i:Nat):∀ (ops pre:List Int) (k:Nat),(∀ op ∈ ops,6≤op∧op≤14)→ops.length < k→(pre++ops).length < 1000 →
 (Qd (n+1) l (i:Int) (pre++ops) k (pre.length:Int)).bind (fun o=>match o with | .out _=>some (0:Int) | .ret v=>some v)=some (ops.foldl (fun acc op=>bif Bj l i (Ez op) then op else acc) 0):=by
 intro ops
 induction ops with
 | nil =>
  intro pre k _ hk _
  obtain⟨k,rfl⟩:∃ j,k=j+1:=⟨k - 1,by omega⟩
  rw[Qd,Aq (by simp)];rfl
 | cons op ops ih =>
  intro pre k ho hk hlen
  obtain⟨k,rfl⟩:∃ j,k=j+1:=⟨k - 1,by omega⟩
  have hop:=ho op (List.mem_cons_self ..)
  have hget:idx (pre++op :: ops) (pre.length:Int)=some op:=by rw[Qg];simp
  rw[Qd,A6 (by simp;omega),hget,A1,B1l n ⟨by omega,hop.2⟩,A1,Lj,A1,List.foldl_cons]
  cases hs:Bj l i (Ez op) with
  | true =>
   rw[Af,Af,A1]
   rw[Aus fun o h1 h2=>?_]
   ·rfl
   ·by_cases he:Ez o=Ez op
    ·exact Aw2 (ho o (List.mem_cons_of_mem _ h1)) hop he
    ·have:=Uz hs (fun e=>he e.symm);rw[this] at h2;cases h2
  | false =>
   rw[An,An]
   have:=ih (pre++[op]) k (fun o h=>ho o (List.mem_cons_of_mem _ h)) (by simp at hk;omega) (by simpa using hlen)
   simp only[List.append_assoc,List.singleton_append,List.length_append,List.length_singleton] at this
   rw[Ay pre.length (by simp at hlen;omega)]
   exact this
theorem Ady (n:Nat) (l:List Tk) (i f:Nat) (hn:8 < n):Xb n l (i:Int) (Fg f)=some (Fr l i (Fg f)):=by
 obtain⟨n,rfl⟩:∃ j,n=j+2:=⟨n - 2,by omega⟩
 obtain⟨h1,h2⟩:=Pn f
 rw[Xb]
 exact Axo n l i (Fg f) [] (n+1) h1 (by omega) (by simp;omega)
theorem Aas {n f:Nat} (hf:f < 5):(Ov (n+1)).bind (fun y=>idx y (f:Int))=some (Fg f):=by
 rw[Ov,A1,Qg]
 match f,hf with
 | 0,_=>rfl
 | 1,_=>rfl
 | 2,_=>rfl
 | 3,_=>rfl
 | 4,_=>rfl
abbrev Got:=Do
def Ao2 (r:PR) (o:Option Got):Prop:=match r with
 | .ok x tu=>o=some ⟨x,(tu:Int),0,0⟩
 | .bad e a=>e≠0∧∃ X t,o=some ⟨X,t,e,a⟩
def B3k:LR ((List Nd)×Int×Int×Int) Got→Option Got
 | .out (a,b,c,d)=>some ⟨a,b,c,d⟩
 | .ret v=>some v
def B3r (T:Nat) (l:List Tk) (inn i:Nat) (r:PR):Md→Prop
 | .fl f=>f≤5→∀ n,8*(l.length - i)+(6 - f)+T+60≤n→Ao2 r (F5 n l (i:Int) (inn:Int) (f:Int))
 | .lp f x=>f < 5→x.length≤i→∀ n k,8*(l.length - i)+(6 - (f+1))+T+60≤n→l.length - i < k→Ao2 r ((Lw n (F5 n) l (inn:Int) (f:Int) k x (i:Int) 0 0).bind B3k)
theorem Sv (l:List Tk) (i:Nat):Fj l i≠0:=by unfold Fj;split<;>decide
theorem Abl (n:Nat) (l:List Tk) (i:Nat) (hl:l.length < 1000000):Ao2 (Acl l i) (Fi (n+2) l (i:Int)):=⟨Sv l i,_,_,B2g n l i hl⟩
theorem Vv (n:Nat) (l:List Tk) (i inn:Int):F5 (n+1) l i inn 5=Hz n l i inn:=by
 rw[F5]
 simp
theorem Acr (r:PR) (o:Option Got) (h:Ao2 r o):Ao2 r (o.bind fun y=>some y):=by
 cases o<;>exact h
theorem Awx (n:Nat) (h:n < 4611686018427387904):IntKind.i64.wrap ((n:Int)+2)=((n+2:Nat):Int):=by rw[Cx (by omega)];omega
theorem Avt (n:Nat) (h:n < 4611686018427387904):IntKind.i64.wrap ((n:Int)+3)=((n+3:Nat):Int):=by rw[Cx (by omega)];omega
theorem B2z {T:Nat} {l:List Tk} (hl:l.length < 100000) (hT:∀ t ∈ l,t.Ac.length≤T) (hT2:T < 100000) {md:Md} {inn i:Nat} {r:PR} (h:PE l md inn i r):i≤l.length→inn≤30→B3r T l inn i r md:=by
 have nm:∀ (n i:Nat) (t:Tk),l[i]?=some t→T+45≤n→J3 n t.Ac=some (Cp t.Ac):=fun n i t ht hn=>Adh n _ (by have:=hT t (List.mem_of_getElem? ht);omega) (by have:=hT t (List.mem_of_getElem? ht);omega)
 induction h with
 | @deep inn i t h1 h2 h3 =>
  intro hi hn _ n hf
  have hlt:=H9 h3
  obtain⟨n,rfl⟩:∃ j,n=j+10:=⟨n - 10,by omega⟩
  rw[show((5:Nat):Int)=5 from rfl,Vv,Hz,Aq (by omega),Cn h3,A1,Lj,Lj,A1]
  refine⟨by decide,[],0,?_⟩
  rcases h1 with h1 | h1
  ·have h0:Bj l i [40]=false:=Uz h1 (by decide)
   rw[h0,h1]
   simp only[An,A1,Af,A6 (show(30:Int)≤(inn:Int) by omega)]
  ·rw[h1]
   simp only[Af,A6 (show(30:Int)≤(inn:Int) by omega)]
 | @not_ok inn i tu t x h1 h2 h3 h4 ih =>
  intro hi hn _ n hf
  have hlt:=H9 h3
  have hx:=H4 h4 (by omega);dsimp only at hx
  obtain⟨n,rfl⟩:∃ j,n=j+10:=⟨n - 10,by omega⟩
  have e:F5 (n+9) l ((i+1:Nat):Int) ((inn+1:Nat):Int) 5=some ⟨x,(tu:Int),0,0⟩:=ih (by omega) (by omega) (by omega) (n+9) (by omega)
  rw[Vv] at e
  have h0:Bj l i [40]=false:=Uz h1 (by decide)
  rw[show((5:Nat):Int)=5 from rfl,Vv,Hz,Aq (by omega),Cn h3,A1,Lj,Lj,A1,h0,h1,Ay i (by omega),Ay inn (by omega),e]
  simp only[An,A1,Af,Aq (show ¬ (30:Int)≤(inn:Int) by omega),beq_self_eq_true,List.length_singleton,A6 (show(1+x.length)*57≤140737488355328 by omega)]
  rfl
 | @not_bad inn i e a h1 h2 h4 ih =>
  intro hi hn _ n hf
  have hlt:=D0 h1
  obtain⟨n,rfl⟩:∃ j,n=j+10:=⟨n - 10,by omega⟩
  obtain⟨hne,X,tt,e1⟩:=ih (by omega) (by omega) (by omega) (n+9) (by omega)
  rw[show((5:Nat):Int)=5 from rfl,Vv] at e1
  have h0:Bj l i [40]=false:=Uz h1 (by decide)
  have hb:(e==0)=false:=by rw[beq_eq_false_iff_ne];exact hne
  rw[show((5:Nat):Int)=5 from rfl,Vv,Hz,Aq (by omega),C8 hlt,A1,Lj,Lj,A1,h0,h1,Ay i (by omega),Ay inn (by omega),e1]
  simp only[An,A1,Af,Aq (show ¬ (30:Int)≤(inn:Int) by omega),hb]
  exact⟨hne,_,_,rfl⟩
 | @par_ok inn i tu x h1 h2 h3 h4 ih =>
  intro hi hn _ n hf
  have hlt:=D0 h1
  have hx:=H4 h3 (by omega);dsimp only at hx
  obtain⟨n,rfl⟩:∃ j,n=j+10:=⟨n - 10,by omega⟩
  have e:F5 (n+8) l ((i+1:Nat):Int) ((inn+1:Nat):Int) 0=some ⟨x,(tu:Int),0,0⟩:=ih (by omega) (by omega) (by omega) (n+8) (by omega)
  have h0:Bj l i [33]=false:=Uz h1 (by decide)
  rw[show((5:Nat):Int)=5 from rfl,Vv,Hz,Aq (by omega),C8 hlt,A1,Lj,Lj,A1,h0,h1,Ay i (by omega),Ay inn (by omega),e]
  simp only[An,A1,Af,Aq (show ¬ (30:Int)≤(inn:Int) by omega),beq_self_eq_true,Lj,h4,Ay tu (show tu < 4611686018427387904 by omega)]
  rfl
 | @par_bad inn i e a h1 h2 h3 ih =>
  intro hi hn _ n hf
  have hlt:=D0 h1
  obtain⟨n,rfl⟩:∃ j,n=j+10:=⟨n - 10,by omega⟩
  obtain⟨hne,X,tt,e1⟩:=ih (by omega) (by omega) (by omega) (n+8) (by omega)
  rw[show((0:Nat):Int)=0 from rfl] at e1
  have h0:Bj l i [33]=false:=Uz h1 (by decide)
  have hb:(e==0)=false:=by rw[beq_eq_false_iff_ne];exact hne
  rw[show((5:Nat):Int)=5 from rfl,Vv,Hz,Aq (by omega),C8 hlt,A1,Lj,Lj,A1,h0,h1,Ay i (by omega),Ay inn (by omega),e1]
  simp only[An,A1,Af,Aq (show ¬ (30:Int)≤(inn:Int) by omega),hb]
  exact⟨hne,_,_,rfl⟩
 | @par_open inn i tu x h1 h2 h3 h4 ih =>
  intro hi hn _ n hf
  have hlt:=D0 h1
  have hx:=H4 h3 (by omega);dsimp only at hx
  obtain⟨n,rfl⟩:∃ j,n=j+10:=⟨n - 10,by omega⟩
  have e:F5 (n+8) l ((i+1:Nat):Int) ((inn+1:Nat):Int) 0=some ⟨x,(tu:Int),0,0⟩:=ih (by omega) (by omega) (by omega) (n+8) (by omega)
  have h0:Bj l i [33]=false:=Uz h1 (by decide)
  rw[show((5:Nat):Int)=5 from rfl,Vv,Hz,Aq (by omega),C8 hlt,A1,Lj,Lj,A1,h0,h1,Ay i (by omega),Ay inn (by omega),e]
  simp only[An,A1,Af,Aq (show ¬ (30:Int)≤(inn:Int) by omega),beq_self_eq_true,Lj,h4]
  exact Acr _ _ (Abl (n+6) l tu (by omega))
 | @num inn i t h1 h2 =>
  intro hi hn _ n hf
  have hlt:=H9 h2
  obtain⟨n,rfl⟩:∃ j,n=j+10:=⟨n - 10,by omega⟩
  have hk:t.A7=2:=by simpa [isK,h2] using h1
  have h3:Bj l i [33]=false:=by simp[Bj,h2,hk]
  have h4:Bj l i [40]=false:=by simp[Bj,h2,hk]
  rw[show((5:Nat):Int)=5 from rfl,Vv,Hz,Aq (by omega),Cn h2,A1,Lj,Lj,A1,h3,h4,Ay i (by omega)]
  simp only[An,A1,Af,hk,beq_self_eq_true]
  rfl
 | @reg inn i t h1 h2 h3 =>
  intro hi hn _ n hf
  have hlt:=H9 h3
  obtain⟨n,rfl⟩:∃ j,n=j+10:=⟨n - 10,by omega⟩
  have hk:t.A7=1∧Cp t.Ac=true:=by simpa [isN,h3] using h1
  have h4:Bj l i [33]=false:=by simp[Bj,h3,hk.1]
  have h5:Bj l i [40]=false:=by simp[Bj,h3,hk.1]
  rw[show((5:Nat):Int)=5 from rfl,Vv,Hz,Aq (by omega),Cn h3,A1,Lj,Lj,A1,h4,h5,Ay i (by omega),nm _ i t h3 (by omega),hk.2,Lj,h2]
  simp only[An,A1,Af,hk.1]
  rfl
 | @of inn i t u h1 h2 h3 h4 h5 =>
  intro hi hn _ n hf
  have hlt:=H9 h4
  have hlt2:=H9 h5
  obtain⟨n,rfl⟩:∃ j,n=j+10:=⟨n - 10,by omega⟩
  have hk:t.A7=1∧Cp t.Ac=true:=by simpa [isN,h4] using h1
  have hu:u.A7=1∧Cp u.Ac=true:=by simpa [isN,h5] using h3
  have h6:Bj l i [33]=false:=by simp[Bj,h4,hk.1]
  have h7:Bj l i [40]=false:=by simp[Bj,h4,hk.1]
  rw[show((5:Nat):Int)=5 from rfl,Vv,Hz,Aq (by omega),Cn h4,A1,Lj,Lj,A1,h6,h7,Ay i (by omega),Awx i (by omega),Avt i (by omega),nm _ i t h4 (by omega),hk.2,Lj,h2,Cn h5]
  simp only[An,A1,Af,hk.1,hu.1,nm (n+8) (i+2) u h5 (by omega),hu.2,Aq (show ¬ ((l.length:Nat):Int)≤((i+2:Nat):Int) by omega)]
  rfl
 | @of_bad inn i h1 h2 h3 =>
  intro hi hn _ n hf
  have hlt:=Ph h1
  obtain⟨t,h4⟩:∃ t,l[i]?=some t:=⟨_,Ax hlt⟩
  obtain⟨n,rfl⟩:∃ j,n=j+10:=⟨n - 10,by omega⟩
  have hk:t.A7=1∧Cp t.Ac=true:=by simpa [isN,h4] using h1
  have h6:Bj l i [33]=false:=by simp[Bj,h4,hk.1]
  have h7:Bj l i [40]=false:=by simp[Bj,h4,hk.1]
  rw[show((5:Nat):Int)=5 from rfl,Vv,Hz,Aq (by omega),Cn h4,A1,Lj,Lj,A1,h6,h7,Ay i (by omega),Awx i (by omega),Avt i (by omega),nm _ i t h4 (by omega),hk.2,Lj,h2]
  simp only[An,A1,Af,hk.1]
  have hfail:=Acr _ _ (Abl (n+6) l (i+2) (by omega))
  by_cases hi2:i+2 < l.length
  ·obtain⟨u,h5⟩:∃ u,l[i+2]?=some u:=⟨_,Ax hi2⟩
   have hu:((u.A7==1)&&Cp u.Ac)=false:=by simpa [isN,h5] using h3
   simp only[Aq (show ¬ ((l.length:Nat):Int)≤((i+2:Nat):Int) by omega),Cn h5,A1,nm (n+8) (i+2) u h5 (by omega)]
   by_cases hk1:u.A7=1
   ·rw[hk1] at hu ⊢
    have hb:Cp u.Ac=false:=by simpa using hu
    simp only[hb,An,bne_self_eq_false]
    exact hfail
   ·have:(u.A7 != 1)=true:=by rw[bne_iff_ne];exact hk1
    simp only[this,Af]
    exact hfail
  ·simp only[A6 (show((l.length:Nat):Int)≤((i+2:Nat):Int) by omega)]
   exact hfail
 | @no inn i h1 h2 h3 h4 =>
  intro hi hn _ n hf
  obtain⟨n,rfl⟩:∃ j,n=j+10:=⟨n - 10,by omega⟩
  have hfail:=Acr _ _ (Abl (n+6) l i (by omega))
  rw[show((5:Nat):Int)=5 from rfl,Vv,Hz]
  by_cases hi1:i < l.length
  ·obtain⟨t,h5⟩:∃ t,l[i]?=some t:=⟨_,Ax hi1⟩
   have hk2:(t.A7==2)=false:=by simpa [isK,h5] using h3
   have hu:((t.A7==1)&&Cp t.Ac)=false:=by simpa [isN,h5] using h4
   rw[Aq (by omega),Cn h5,A1,Lj,Lj,A1,h1,h2]
   simp only[An,A1,hk2,nm (n+8) i t h5 (by omega)]
   by_cases hk1:t.A7=1
   ·rw[hk1] at hu ⊢
    have hb:Cp t.Ac=false:=by simpa using hu
    simp only[hb,An,bne_self_eq_false]
    exact hfail
   ·have:(t.A7 != 1)=true:=by rw[bne_iff_ne];exact hk1
    simp only[this,Af]
    exact hfail
  ·rw[A6 (by omega)]
   exact hfail
 | @fl_bad f inn i e a h1 h2 ih =>
  intro hi hn hf5 n hf
  obtain⟨n,rfl⟩:∃ j,n=j+1:=⟨n - 1,by omega⟩
  obtain⟨hne,X,tt,e1⟩:=ih hi hn (by omega) n (by omega)
  have hb:(e==0)=false:=by rw[beq_eq_false_iff_ne];exact hne
  rw[F5,show(((f:Nat):Int)==5)=false by rw[beq_eq_false_iff_ne];omega,An,Ay f (by omega),e1,A1]
  obtain⟨n,rfl⟩:∃ j,n=j+1:=⟨n - 1,by omega⟩
  simp only[Lw,hb,An,A1]
  exact⟨hne,_,_,rfl⟩
 | @fl_ok f inn i tu x r h1 h2 h3 ih1 ih2 =>
  intro hi hn hf5 n hf
  have hx:=H4 h2 hi;dsimp only at hx
  obtain⟨n,rfl⟩:∃ j,n=j+1:=⟨n - 1,by omega⟩
  have e:F5 n l (i:Int) (inn:Int) ((f+1:Nat):Int)=some ⟨x,(tu:Int),0,0⟩:=ih1 hi hn (by omega) n (by omega)
  rw[F5,show(((f:Nat):Int)==5)=false by rw[beq_eq_false_iff_ne];omega,An,Ay f (by omega),e,A1]
  exact ih2 (by omega) hn (by omega) (by omega) n n (by omega) (by omega)
 | @lp_stop f inn i x h1 =>
  intro hi hn hf5 hxl n k hf hk
  obtain⟨k,rfl⟩:∃ j,k=j+1:=⟨k - 1,by omega⟩
  obtain⟨n,rfl⟩:∃ j,n=j+1:=⟨n - 1,by omega⟩
  rw[Lw,beq_self_eq_true,Af]
  have hfl:=Aas (n:=n) hf5
  cases hm:Ov (n+1) with
  | none=>rw[hm] at hfl;cases hfl
  | some y =>
   rw[hm] at hfl
   simp only[A1] at hfl ⊢
   rw[hfl,A1,Ady _ _ _ _ (by omega),h1,A1,beq_self_eq_true,Af]
   rfl
 | @lp_bad f inn i x e a h1 h2 h3 ih =>
  intro hi hn hf5 hxl n k hf hk
  have hlt:=Nb h2
  obtain⟨k,rfl⟩:∃ j,k=j+1:=⟨k - 1,by omega⟩
  obtain⟨hne,X,tt,e1⟩:=ih (by omega) hn (by omega) n (by omega)
  obtain⟨n,rfl⟩:∃ j,n=j+1:=⟨n - 1,by omega⟩
  have hb:(e != 0)=true:=by rw[bne_iff_ne];exact hne
  rw[Lw,beq_self_eq_true,Af]
  have hfl:=Aas (n:=n) hf5
  cases hm:Ov (n+1) with
  | none=>rw[hm] at hfl;cases hfl
  | some y =>
   rw[hm] at hfl
   simp only[A1] at hfl ⊢
   rw[hfl,A1,Ady _ _ _ _ (by omega),A1,show(Fr l i (Fg f)==0)=false by rw[beq_eq_false_iff_ne];exact h2,An,Ay i (by omega),Ay f (by omega),e1,A1]
   simp only[hb,Af]
   exact⟨hne,_,_,rfl⟩
 | @lp_once inn i tu x y t h1 h2 h3 ih =>
  intro hi hn hf5 hxl n k hf hk
  have hlt:=H9 h2
  have hx:=H4 h3 (by omega);dsimp only at hx
  obtain⟨k,rfl⟩:∃ j,k=j+1:=⟨k - 1,by omega⟩
  have e:F5 n l ((i+1:Nat):Int) (inn:Int) ((3:Nat):Int)=some ⟨y,(tu:Int),0,0⟩:=ih (by omega) hn (by omega) n (by omega)
  obtain⟨n,rfl⟩:∃ j,n=j+1:=⟨n - 1,by omega⟩
  rw[Lw,beq_self_eq_true,Af]
  have hfl:=Aas (n:=n) hf5
  cases hm:Ov (n+1) with
  | none=>rw[hm] at hfl;cases hfl
  | some yy =>
   rw[hm] at hfl
   simp only[A1] at hfl ⊢
   rw[hfl,A1,Ady _ _ _ _ (by omega),A1,show(Fr l i (Fg 2)==0)=false by rw[beq_eq_false_iff_ne];exact h1,An,Ay i (by omega),Ay 2 (by omega),e,A1,Cn h2]
   simp only[bne_self_eq_false,An,A1,List.length_singleton,List.length_append]
   rw[A6 (by omega),A6 (by omega),show(((2:Nat):Int)==2)=true from rfl,Af]
   show some _=some _
   simp
 | @lp_go f inn i tu x y t r h1 h2 h3 h4 h5 h6 ih1 ih2 =>
  intro hi hn hf5 hxl n k hf hk
  have hlt:=H9 h4
  have hx:=H4 h5 (by omega);dsimp only at hx
  obtain⟨k,rfl⟩:∃ j,k=j+1:=⟨k - 1,by omega⟩
  have e:F5 n l ((i+1:Nat):Int) (inn:Int) ((f+1:Nat):Int)=some ⟨y,(tu:Int),0,0⟩:=ih1 (by omega) hn (by omega) n (by omega)
  have h7:=ih2 (by omega) hn hf5 (by simp;omega) n k (by omega) (by omega)
  obtain⟨n,rfl⟩:∃ j,n=j+1:=⟨n - 1,by omega⟩
  rw[Lw,beq_self_eq_true,Af]
  have hfl:=Aas (n:=n) hf5
  cases hm:Ov (n+1) with
  | none=>rw[hm] at hfl;cases hfl
  | some yy =>
   rw[hm] at hfl
   simp only[A1] at hfl ⊢
   rw[hfl,A1,Ady _ _ _ _ (by omega),A1,show(Fr l i (Fg f)==0)=false by rw[beq_eq_false_iff_ne];exact h3,An,Ay i (by omega),Ay f (by omega),e,A1,Cn h4]
   simp only[bne_self_eq_false,An,A1,List.length_singleton,List.length_append]
   rw[A6 (by omega),A6 (by omega),show(((f:Nat):Int)==2)=false by rw[beq_eq_false_iff_ne];omega,An]
   simpa using h7
theorem Aa0:∀ t:Tr,t.dep≤t.flat.length
 | .leaf x=>by simp[Tr.dep,Tr.flat]
 | .un x t=>by have:=Aa0 t;simp[Tr.dep,Tr.flat];omega
 | .bin x t u=>by have:=Aa0 t;have:=Aa0 u;simp[Tr.dep,Tr.flat];omega
theorem Akv {T:Nat} {l:List Tk} (hl:l.length < 100000) (hk:∀ t ∈ l,Sb t) (hT:∀ t ∈ l,t.Ac.length≤T) (hT2:T < 100000) {n i:Nat} {r:PR} (hr:PE l (.fl 0) 0 i r) (hi:i≤l.length) (hn:12*l.length+T+200≤n) :
 Sj n l (i:Int)=some (Ly l i r):=by
 obtain⟨n,rfl⟩:∃ j,n=j+1:=⟨n - 1,by omega⟩
 have h:=B2z hl hT hT2 hr hi (by omega) (by omega) n (by omega)
 rw[Sj,Aq (by omega)]
 cases r with
 | bad e a =>
  obtain⟨hne,X,t,e1⟩:=h
  rw[show((0:Nat):Int)=0 from rfl] at e1
  rw[e1,A1]
  dsimp only
  rw[show(e != 0)=true by simpa using hne];rfl
 | ok x tu =>
  have hx:=H4 hr hi;dsimp only at hx
  obtain⟨⟨t,t1,t2⟩,_⟩:=(Xn hk hr:Or x)
  have h:F5 n l (i:Int) 0 0=some ⟨x,(tu:Int),0,0⟩:=h
  have ht:l[i]?=some (l[i]'(by omega)):=Ax (by omega)
  have hp:Bg l i=(l[i]'(by omega)).Ab:=by unfold Bg;rw[ht]
  subst t2
  have hdl:=Aa0 t
  have hd:Ln n t.flat 0=some (t.dep:Int):=by
   have:=Ar6 t n [] [] t1 (by simp;omega) (by simp;omega)
   simpa using this
  have hd2:(Ff t.flat (0,[])).1=(t.dep:Int):=by
   have:=A38 t [] 0 [] t1 (by omega)
   rw[List.append_nil] at this
   rw[this];simp[Ff]
  rw[h,A1,hd,Cn ht]
  simp only[bne_self_eq_false,An,A1,Ly,hp,hd2]
  by_cases c:30 < (t.dep:Int)
  ·rw[A6 c,if_pos c]
  ·rw[Aq c,if_neg c]
   by_cases c2:200 < t.flat.length
   ·rw[A6 (by omega),if_pos c2]
   ·rw[Aq (by omega),if_neg c2]
theorem Wl {T:Nat} {l:List Tk} (hl:l.length < 100000) (hk:∀ t ∈ l,Sb t) (hT:∀ t ∈ l,t.Ac.length≤T) (hT2:T < 100000) {n i:Nat} {r:PR} (hr:PE l (.fl 0) 0 i r) (hi:i≤l.length) (hn:12*l.length+T+200≤n) :
 I9 n l (i:Int)=some (Ly l i r):=Ak4 hl hr hi (by omega)
abbrev St:=A0
def N9 (x:List Nd):Bool:=(x.filter Gb).all fun y=>y.B3==2
theorem A3x {F:Nat→Int→Option (LR Unit Bool)} (l:List Nd) (h0:∀ k i,l.length≤i→F (k+1) (i:Int)=some (.out ())) (h1:∀ k i x,i < l.length→l[i]?=some x→F (k+1) (i:Int)=bif x.B3 != 2 then some (.ret false) else F k ((i+1:Nat):Int)):∀ (m i k:Nat),l.length - i≤m→l.length - i < k→F k (i:Int)=some (if(l.drop i).all (fun y=>y.B3==2) then .out () else .ret false):=by
 intro m
 induction m with
 | zero =>
  intro i k h hk
  obtain⟨k,rfl⟩:∃ j,k=j+1:=⟨k - 1,by omega⟩
  rw[h0 k i (by omega),List.drop_of_length_le (by omega)];rfl
 | succ m ih =>
  intro i k h hk
  obtain⟨k,rfl⟩:∃ j,k=j+1:=⟨k - 1,by omega⟩
  by_cases hi:i < l.length
  ·rw[h1 k i _ hi (Ax hi),ih (i+1) k (by omega) (by omega),List.drop_eq_getElem_cons hi,List.all_cons]
   by_cases hx:l[i].B3=2
   ·simp[hx]
   ·have:(l[i].B3==2)=false:=by rw[beq_eq_false_iff_ne];exact hx
    simp[this,bne]
  ·rw[h0 k i (by omega),List.drop_of_length_le (by omega)];rfl
theorem Adj {x:List Nd} (h:Or x) (hl:x.length≤200) (hd:(Ff x (0,[])).1≤30) {n:Nat} (hn:600 < n):J6 n x=some (N9 x):=by
 obtain⟨t,_,_,_,_,h5⟩:=W6 h hl hd
 obtain⟨n,rfl⟩:∃ j,n=j+1:=⟨n - 1,by omega⟩
 have hf:(x.filter Gb).length≤200:=Nat.le_trans (List.length_filter_le ..) hl
 rw[J6,A97 n x (by omega) (by omega),A1]
 have:=A3x (F:=fun k i=>Gd n (x.filter Gb) k i) (x.filter Gb) (fun k i h=>by rw[Gd,Aq (by omega)]) (fun k i y hi hy=>by rw[Gd,A6 (by omega),Cn hy,A1,Ay i (by omega)]) (x.filter Gb).length 0 n (by omega) (by omega)
 rw[show((0:Nat):Int)=0 from rfl] at this
 rw[this,A1,List.drop_zero,Y6 n x (by omega) (by omega),h5]
 unfold N9
 by_cases c:(x.filter Gb).all (fun y=>y.B3==2)=true
 ·rw[if_pos c,c];rfl
 ·rw[if_neg c];rw[Bool.not_eq_true] at c;rw[c]
theorem B0r {x:List Nd} (h:Or x) (hl:x.length≤200) (hd:(Ff x (0,[])).1≤30) {n:Nat} (hn:600 < n):J6 n x=some (N9 x)∧X3 n x=some (N9 x):=by
 obtain⟨t,_,_,_,_,h5⟩:=W6 h hl hd
 obtain⟨n,rfl⟩:∃ j,n=j+1:=⟨n - 1,by omega⟩
 have hf:(x.filter Gb).length≤200:=Nat.le_trans (List.length_filter_le ..) hl
 constructor
 ·exact Adj h hl hd (by omega)
 ·rw[X3,Azt n x (by omega) (by omega),A1]
  have:=A3x (F:=fun k i=>Qc n (x.filter Gb) k i) (x.filter Gb) (fun k i h=>by rw[Qc,Aq (by omega)]) (fun k i y hi hy=>by rw[Qc,A6 (by omega),Cn hy,A1,Ay i (by omega)]) (x.filter Gb).length 0 n (by omega) (by omega)
  rw[show((0:Nat):Int)=0 from rfl] at this
  rw[this,A1,List.drop_zero,Ay4 n x (A57 h hl) (by omega),h5]
  unfold N9
  by_cases c:(x.filter Gb).all (fun y=>y.B3==2)=true
  ·rw[if_pos c,c];rfl
  ·rw[if_neg c];rw[Bool.not_eq_true] at c;rw[c]
structure Toks (T:Nat) (l:List Tk):Prop where
 len:l.length < 100000
 ok:∀ t ∈ l,Sb t
 txt:∀ t ∈ l,t.Ac.length≤T
 small:T < 100000
def M2 (l:List Tk) (i:Nat):PR→PR
 | .bad e a=>.bad e a
 | .ok x tu=>if 30 < (Ff x (0,[])).1 then .bad 7 (Bg l i) else if 200 < x.length then .bad 2 (Bg l i) else if N9 x=true then .ok x tu else .bad 5 (Bg l i)
open Classical in
noncomputable def exQ (l:List Tk) (i:Nat):PR:=if h:∃ r,PE l (.fl 0) 0 i r then M2 l i h.choose else .bad 6 0
theorem Vp {T:Nat} {l:List Tk} (hk:Toks T l) {i:Nat} (hi:i≤l.length):∃ r,PE l (.fl 0) 0 i r∧exQ l i=M2 l i r:=by
 have h:∃ r,PE l (.fl 0) 0 i r:=A76 l.length i 0 0 (by omega) hi (by omega) (by omega)
 exact⟨h.choose,h.choose_spec,by unfold exQ;rw[dif_pos h]⟩
theorem A8w {T:Nat} {l:List Tk} (hk:Toks T l) {i:Nat} (hi:i≤l.length):match exQ l i with
 | .ok x tu=>i < tu∧tu≤l.length∧x.length≤200
 | .bad e _=>e≠0:=by
 obtain⟨r,hr,e⟩:=Vp hk hi
 rw[e]
 cases r with
 | bad e a=>exact H4 hr hi
 | ok x tu =>
  have:=H4 hr hi;dsimp only at this
  simp only[M2]
  split
  ·rename_i h;split at h
   ·cases h
   ·split at h
    ·cases h
    ·split at h
     ·cases h;omega
     ·cases h
  ·rename_i h;split at h
   ·cases h;decide
   ·split at h
    ·cases h;decide
    ·split at h
     ·cases h
     ·cases h;decide
abbrev Mp:=List (List UInt8×Int)
theorem Toks.at' {T:Nat} {l:List Tk} (hk:Toks T l) {i:Nat} (h:i < l.length):Bg l i=(l[i]).Ab:=by unfold Bg;rw[Ax h]
theorem A1c {l:List Tk} (hk:∀ t ∈ l,Sb t) {i:Nat} {r:PR} (hr:PE l (.fl 0) 0 i r) (hi:i≤l.length) :
 (∃ e a,e≠0∧Ly l i r=([],0,e,a)∧M2 l i r=.bad e a) ∨
 (∃ (x:List Nd) (tu:Nat),Ly l i r=(x,(tu:Int),0,0)∧i < tu∧tu≤l.length∧x.length≤200∧Or x∧(Ff x (0,[])).1≤30∧M2 l i r=if N9 x=true then .ok x tu else .bad 5 (Bg l i)):=by
 cases r with
 | bad e a=>exact .inl ⟨e,a,H4 hr hi,rfl,rfl⟩
 | ok x tu =>
  have hx:=H4 hr hi;dsimp only at hx
  have hg:Or x:=Xn hk hr
  simp only[Ly,M2]
  by_cases c:30 < (Ff x (0,[])).1
  ·rw[if_pos c,if_pos c];exact .inl ⟨7,_,by decide,rfl,rfl⟩
  ·rw[if_neg c,if_neg c]
   by_cases c2:200 < x.length
   ·rw[if_pos c2,if_pos c2];exact .inl ⟨2,_,by decide,rfl,rfl⟩
   ·rw[if_neg c2,if_neg c2];exact .inr ⟨x,tu,rfl,by omega,by omega,by omega,hg,by omega,rfl⟩
theorem Ann {T:Nat} {l:List Tk} (hk:Toks T l) {i n:Nat} (hi:i≤l.length) (hn:12*l.length+T+800≤n):Uc n l (i:Int)=some (match exQ l i with | .ok x tu=>(x,(tu:Int),0,0) | .bad e a=>([],0,e,a)):=by
 obtain⟨r,hr,e⟩:=Vp hk hi
 obtain⟨n,rfl⟩:∃ j,n=j+1:=⟨n - 1,by omega⟩
 rw[Uc,Akv hk.len hk.ok hk.txt hk.small hr hi (by omega),e,A1]
 rcases A1c hk.ok hr hi with ⟨e,a,h0,h1,h2⟩ | ⟨x,tu,h1,h3,h4,h5,h6,h7,h2⟩
 ·rw[h1,h2]
  dsimp only
  rw[show(e != 0)=true by rw[bne_iff_ne];exact h0];rfl
 ·rw[h1,h2]
  dsimp only
  rw[bne_self_eq_false,An,(B0r h6 h5 h7 (by omega)).2,A1]
  by_cases c:N9 x=true
  ·rw[if_pos c,c];rfl
  ·rw[if_neg c];rw[Bool.not_eq_true] at c
   have hlt:i < l.length:=by omega
   rw[c,An,C8 hlt,A1,hk.at' hlt]
theorem Wa (n:Nat) (s:List UInt8) (l:List Tk) (i:Nat) (a b:Int) (m:Mp):Dd (n+1) 3 s l (i:Int) a b m=some (Bj l i s):=by
 rw[Dd]
 by_cases h:i < l.length
 ·rw[A6 (by omega),C8 h,A1,A1]
  unfold Bj
  rw[Ax h]
  dsimp only
  cases hk:(l[i].A7==3)<;>simp
 ·rw[Aq (by omega)]
  unfold Bj
  rw[List.getElem?_eq_none (by omega)]
theorem Zb (n:Nat) (l:List Tk) (i:Nat) (c a b:Int) (m:Mp) (hl:l.length < 1000000):Ei (n+1) (i:Int) l c a b m=some (Bg l i):=by
 rw[Ei]
 by_cases h:i < l.length
 ·rw[A6 (by omega),C8 h,A1]
  unfold Bg
  rw[Ax h]
 ·rw[Aq (by omega)]
  unfold Bg
  rw[List.getElem?_eq_none (by omega)]
  by_cases h0:l.length=0
  ·have:l=[]:=List.length_eq_zero_iff.1 h0
   subst this
   rfl
  ·have e:IntKind.i64.wrap ((l.length:Int) - 1)=((l.length - 1:Nat):Int):=by rw[Cx (by omega)];omega
   rw[e,A6 (by omega),C8 (show l.length - 1 < l.length by omega),A1,A1,Ax (show l.length - 1 < l.length by omega)]
theorem Y8 (n:Nat) (l:List Tk) (i:Nat) (m:Mp) (hl:l.length < 1000000):D4 (n+2) l (i:Int) 0 0 m=some (Fj l i,Bg l i):=by
 rw[D4,bne_self_eq_false,An,Zb n l i _ _ _ m hl,A1]
 unfold Fj
 by_cases h:i < l.length
 ·rw[Aq (by omega),if_pos h]
 ·rw[A6 (by omega),if_neg h]
theorem Q5 (n:Nat) (s:List UInt8) (l:List Tk) (i e a:Int) (m:Mp) (he:e≠0):Bl (n+1) s l i e a m=some (i,e,a):=by
 rw[Bl,show(e != 0)=true by rw[bne_iff_ne];exact he,Af]
theorem S6 (n:Nat) (s:List UInt8) (l:List Tk) (i:Nat) (m:Mp) (hl:l.length < 1000000):Bl (n+3) s l (i:Int) 0 0 m=some (if Bj l i s=true then(((i+1:Nat):Int),0,0) else((i:Int),Fj l i,Bg l i)):=by
 rw[Bl,bne_self_eq_false,An,Wa,A1]
 by_cases c:Bj l i s=true
 ·have:=D0 c
  rw[if_pos c,c,Af,Ay i (by omega)]
 ·rw[if_neg c];rw[Bool.not_eq_true] at c
  rw[c,An,Y8 n l i m hl,A1]
def txt (l:List Tk) (i:Nat):List UInt8:=match l[i]? with | some t=>t.Ac | none=>[]
theorem Acg (n:Nat) (l:List Tk) (i:Nat) (m:Mp) (hl:l.length < 1000000):Gy (n+3) l (i:Int) 0 0 m=some (if isN l i=true then(txt l i,((i+1:Nat):Int),0,0) else([],(i:Int),Fj l i,Bg l i)):=by
 rw[Gy,bne_self_eq_false,An,Y8 n l i m hl]
 by_cases h:i < l.length
 ·have e1:IntKind.i64.wrap (IntKind.i64.wrap ((i:Int)+1) - 1)=(i:Int):=by rw[Ay i (by omega),Cx (by omega)];omega
  rw[Aq (by omega),C8 h,A1,e1,C8 h,Ay i (by omega)]
  have hn:isN l i=(l[i].A7==1&&Cp l[i].Ac):=by unfold isN;rw[Ax h]
  have ht:txt l i=l[i].Ac:=by unfold txt;rw[Ax h]
  rw[hn,ht]
  by_cases h1:l[i].A7=1
  ·rw[h1,bne_self_eq_false,An]
   simp only[A1,Dp,beq_self_eq_true,Bool.true_and]
   cases Cp l[i].Ac<;>rfl
  ·rw[show(l[i].A7 != 1)=true by rw[bne_iff_ne];exact h1,show(l[i].A7==1)=false by rw[beq_eq_false_iff_ne];exact h1];rfl
 ·rw[A6 (by omega)]
  have hn:isN l i=false:=by unfold isN;rw[List.getElem?_eq_none (by omega)]
  rw[hn];rfl
theorem Acv {T:Nat} {l:List Tk} (hk:Toks T l) {i n:Nat} (m:Mp) (hi:i≤l.length) (hn:12*l.length+T+800≤n):Gx n l (i:Int) 0 0 m=some (match exQ l i with | .ok x tu=>(x,(tu:Int),0,0) | .bad e a=>([],(i:Int),e,a)):=by
 obtain⟨r,hr,e⟩:=Vp hk hi
 obtain⟨n,rfl⟩:∃ j,n=j+3:=⟨n - 3,by omega⟩
 have hl:=hk.len
 rw[Gx,bne_self_eq_false,An,Wl hk.len hk.ok hk.txt hk.small hr hi (by omega),e,A1]
 rcases A1c hk.ok hr hi with ⟨e,a,h0,h1,h2⟩ | ⟨x,tu,h1,h3,h4,h5,h6,h7,h2⟩
 ·rw[h1,h2]
  dsimp only
  rw[show(e != 0)=true by rw[bne_iff_ne];exact h0];rfl
 ·rw[h1,h2]
  dsimp only
  rw[bne_self_eq_false,An,Adj h6 h5 h7 (by omega),A1]
  by_cases c:N9 x=true
  ·rw[if_pos c,c];rfl
  ·rw[if_neg c];rw[Bool.not_eq_true] at c
   have hlt:i < l.length:=by omega
   rw[c,An,Y8 n l i m (by omega),A1]
   unfold Fj;rw[if_pos hlt]
theorem Afc {T:Nat} {l:List Tk} (hk:Toks T l) {i n:Nat} (hn:T+60≤n):Tn n l (i:Int)=some (isN l i):=by
 obtain⟨n,rfl⟩:∃ j,n=j+1:=⟨n - 1,by omega⟩
 have hs:=hk.small
 rw[Tn]
 by_cases h:i < l.length
 ·have ht:=hk.txt l[i] (List.getElem_mem h)
  rw[A6 (by omega),C8 h,A1,A1,Adh n _ (by omega) (by omega)]
  unfold isN
  rw[Ax h]
  dsimp only
  cases l[i].A7==1<;>rfl
 ·rw[Aq (by omega)]
  unfold isN
  rw[List.getElem?_eq_none (by omega)]
theorem A2f (n:Nat) (l:List Tk) (i:Nat) (hl:l.length < 1000000):Mg (n+2) l (i:Int)=some (Fj l i,Bg l i):=by
 rw[Mg,Ain n l i hl]
 unfold Fj
 by_cases h:i < l.length
 ·rw[Aq (by omega),if_pos h];rfl
 ·rw[A6 (by omega),if_neg h];rfl
structure Fs where
 reg:List UInt8
 loc:List UInt8
 e:List Nd
 f:List Nd
 ne:Bool
inductive FR where
 | ok (s:Fs) (i:Nat)
 | bad (e a:Int)
def Hg (l:List Tk) (ex:Nat→PR) (c:UInt8) (i:Nat) (s:Fs):FR :=
 if c.toNat=114 then(if isN l i=true then .ok { s with reg:=txt l i } (i+1) else .bad (Fj l i) (Bg l i))
 else if c.toNat=108 then(if isN l i=true then .ok { s with loc:=txt l i } (i+1) else .bad (Fj l i) (Bg l i))
 else if c.toNat=101 then(match ex i with | .ok x tu=>.ok { s with e:=x } tu | .bad e a=>.bad e a)
 else if c.toNat=102 then(match ex i with | .ok x tu=>.ok { s with f:=x } tu | .bad e a=>.bad e a)
 else if c.toNat=113 then(if Bj l i [33,61]=true then .ok { s with ne:=true } (i+1) else if Bj l i [61,61]=true then .ok { s with ne:=false } (i+1) else .bad (Fj l i) (Bg l i))
 else if Bj l i [c]=true then .ok s (i+1) else .bad (Fj l i) (Bg l i)
def Gp (l:List Tk) (ex:Nat→PR):List UInt8→Nat→Fs→FR
 | [],i,s=>.ok s i
 | c :: cs,i,s=>match Hg l ex c i s with
   | .ok s' j=>Gp l ex cs j s'
   | .bad e a=>.bad e a
def Ayf (l:List Tk) (i:Nat):FR→Prop
 | .ok _ j=>i < j∧j≤l.length
 | .bad e _=>e≠0
def Axk (l:List Tk) (i:Nat):FR→Prop
 | .ok _ j=>i≤j∧j≤l.length
 | .bad e _=>e≠0
theorem Dz {Q:FR→Prop} {c:Prop} [Decidable c] {a b:FR} (h1:c→Q a) (h2:¬ c→Q b):Q (if c then a else b):=by
 by_cases h:c
 ·rw[if_pos h];exact h1 h
 ·rw[if_neg h];exact h2 h
theorem Wt {T:Nat} {l:List Tk} (hk:Toks T l) {c:UInt8} {i:Nat} {s:Fs} (hi:i≤l.length):Ayf l i (Hg l (exQ l) c i s):=by
 have hex:=A8w hk hi
 have h1:∀ s,Bj l i s=true→i < i+1∧i+1≤l.length:=fun s h=>by have:=D0 h;omega
 have h2:isN l i=true→i < i+1∧i+1≤l.length:=fun h=>by have:=Ph h;omega
 have he:=Sv l i
 unfold Hg
 refine Dz (fun _=>Dz h2 fun _=>he) fun _=>Dz (fun _=>Dz h2 fun _=>he) fun _=>Dz (fun _=>?_) fun _=>Dz (fun _=>?_) fun _=>Dz (fun _=>Dz (h1 _) fun _=>Dz (h1 _) fun _=>he) fun _=>Dz (h1 _) fun _=>he
 ·revert hex;cases exQ l i with
  | ok x tu=>intro h;exact⟨h.1,h.2.1⟩
  | bad e a=>intro h;exact h
 ·revert hex;cases exQ l i with
  | ok x tu=>intro h;exact⟨h.1,h.2.1⟩
  | bad e a=>intro h;exact h
theorem Xk {T:Nat} {l:List Tk} (hk:Toks T l):∀ (cs:List UInt8) (i:Nat) (s:Fs),i≤l.length→Axk l i (Gp l (exQ l) cs i s)
 | [],i,s,hi=>⟨Nat.le_refl _,hi⟩
 | c :: cs,i,s,hi=>by
  have h:=Wt hk (c:=c) (s:=s) hi
  unfold Gp
  revert h
  cases Hg l (exQ l) c i s with
  | bad e a=>intro h;exact h
  | ok s' j =>
   intro h
   have:=Xk hk cs j s' h.2
   dsimp only
   revert this
   cases Gp l (exQ l) cs j s' with
   | ok s2 j2=>intro h2;exact⟨Nat.le_trans (Nat.le_of_lt h.1) h2.1,h2.2⟩
   | bad e a=>intro h2;exact h2
theorem Ajg (pre cs:List UInt8) (c:UInt8) (h:pre.length < 1000000):List.drop ((pre.length:Int)).toNat (List.take (IntKind.i64.wrap ((pre.length:Int)+1)).toNat (pre++c :: cs))=[c]:=by
 rw[Ay pre.length (by omega)]
 rw[Int.toNat_natCast,Int.toNat_natCast,List.take_append,List.take_of_length_le (by omega),show pre.length+1 - pre.length=1 by omega,List.drop_append_of_le_length (by omega),List.drop_length]
 simp
theorem Aj4 (pre cs:List UInt8) (c:UInt8) (h:pre.length < 1000000):(decide (0≤IntKind.i64.wrap ((pre.length:Int)+1))&&decide (IntKind.i64.wrap ((pre.length:Int)+1)≤(((pre++c :: cs).length:Nat):Int))&&decide (0≤(pre.length:Int))&&decide ((pre.length:Int)≤IntKind.i64.wrap ((pre.length:Int)+1)))=true:=by
 rw[Ay pre.length (by omega)]
 simp only[Ah,C1,List.length_append,List.length_cons]
 omega
theorem A29 (pre cs:List UInt8) (c:UInt8):idx (pre++c :: cs) (pre.length:Int)=some c:=by rw[Qg];simp
theorem Agm (c:UInt8) (k:Nat) (K:Int) (hK:(k:Int)=K):((c.toNat:Int)==K)=decide (c.toNat=k):=by
 subst hK
 by_cases h:c.toNat=k
 ·rw[h];simp
 ·rw[decide_eq_false h,beq_eq_false_iff_ne];omega
theorem Ayq {T:Nat} {l:List Tk} (hk:Toks T l) {n:Nat} (hn:12*l.length+T+900≤n) (x:St):∀ (cs pre:List UInt8) (i k:Nat) (s:Fs),i≤l.length→(pre++cs).length < 100→cs.length < k →
 match Gp l (exQ l) cs i s with
 | .ok s' j=>Ea n l x (pre++cs) k (i:Int) (pre.length:Int) s.reg s.loc s.e s.f s.ne=some (.out ((j:Int),s'.reg,s'.loc,s'.e,s'.f,s'.ne))
 | .bad e a=>∃ X,Ea n l x (pre++cs) k (i:Int) (pre.length:Int) s.reg s.loc s.e s.f s.ne=some (.ret (X,0,e,a)):=by
 intro cs
 induction cs with
 | nil =>
  intro pre i k s hi hlen hkk
  obtain⟨k,rfl⟩:∃ j,k=j+1:=⟨k - 1,by omega⟩
  rw[Gp,Ea,Aq (by simp)]
 | cons c cs ih =>
  intro pre i k s hi hlen hkk
  obtain⟨k,rfl⟩:∃ j,k=j+1:=⟨k - 1,by omega⟩
  obtain⟨n,rfl⟩:∃ j,n=j+3:=⟨n - 3,by omega⟩
  have hl:=hk.len
  have hp:pre.length < 1000000:=by simp at hlen;omega
  have go:∀ (j:Nat) (s':Fs),j≤l.length→match Gp l (exQ l) cs j s' with
   | .ok s2 j2=>Ea (n+3) l x (pre++c :: cs) k (j:Int) ((pre.length+1:Nat):Int) s'.reg s'.loc s'.e s'.f s'.ne=some (.out ((j2:Int),s2.reg,s2.loc,s2.e,s2.f,s2.ne))
   | .bad e a=>∃ X,Ea (n+3) l x (pre++c :: cs) k (j:Int) ((pre.length+1:Nat):Int) s'.reg s'.loc s'.e s'.f s'.ne=some (.ret (X,0,e,a)):=fun j s' hj=>by
   have:=ih (pre++[c]) j k s' hj (by simpa using hlen) (by simp at hkk;omega)
   simpa only [List.append_assoc,List.singleton_append,List.length_append,List.length_singleton] using this
  have hex:=A8w hk hi
  have hw:=Ay pre.length (show pre.length < 4611686018427387904 by omega)
  unfold Gp Hg
  rw[Ea,A6 (show((pre.length:Nat):Int) < (((pre++c :: cs).length:Nat):Int) by simp;omega)]
  simp only[A29,A1,Agm c 114 114 rfl,Agm c 108 108 rfl,Agm c 101 101 rfl,Agm c 102 102 rfl,Agm c 113 113 rfl]
  by_cases c1:c.toNat=114
  ·simp only[if_pos c1,decide_eq_true c1,Af,Afc hk (show T+60≤n+3 by omega),A1]
   by_cases h:isN l i=true
   ·have hlt:=Ph h
    rw[if_pos h,h,Af,C8 hlt,A1,Ay i (by omega),hw]
    have:=go (i+1) { s with reg:=txt l i } hlt
    rw[show txt l i=l[i].Ac by unfold txt;rw[Ax hlt]] at this ⊢
    exact this
   ·rw[if_neg h];rw[Bool.not_eq_true] at h
    rw[h,An,A2f (n+1) l i (by omega)]
    exact⟨_,rfl⟩
  ·rw[if_neg c1]
   simp only[decide_eq_false c1,An]
   by_cases c2:c.toNat=108
   ·simp only[if_pos c2,decide_eq_true c2,Af,Afc hk (show T+60≤n+3 by omega),A1]
    by_cases h:isN l i=true
    ·have hlt:=Ph h
     rw[if_pos h,h,Af,C8 hlt,A1,Ay i (by omega),hw]
     have:=go (i+1) { s with loc:=txt l i } hlt
     rw[show txt l i=l[i].Ac by unfold txt;rw[Ax hlt]] at this ⊢
     exact this
    ·rw[if_neg h];rw[Bool.not_eq_true] at h
     rw[h,An,A2f (n+1) l i (by omega)]
     exact⟨_,rfl⟩
   ·rw[if_neg c2]
    simp only[decide_eq_false c2,An]
    by_cases c3:c.toNat=101
    ·simp only[if_pos c3,decide_eq_true c3,Af,Ann hk hi (show 12*l.length+T+800≤n+3 by omega),A1]
     revert hex
     cases exQ l i with
     | bad e a =>
      intro hex
      have he:(e != 0)=true:=by rw[bne_iff_ne];exact hex
      simp only[he,Af]
      exact⟨_,rfl⟩
     | ok y tu =>
      intro hex
      simp only[bne_self_eq_false,An,hw]
      exact go tu { s with e:=y } hex.2.1
    ·rw[if_neg c3]
     simp only[decide_eq_false c3,An]
     by_cases c4:c.toNat=102
     ·simp only[if_pos c4,decide_eq_true c4,Af,Ann hk hi (show 12*l.length+T+800≤n+3 by omega),A1]
      revert hex
      cases exQ l i with
      | bad e a =>
       intro hex
       have he:(e != 0)=true:=by rw[bne_iff_ne];exact hex
       simp only[he,Af]
       exact⟨_,rfl⟩
      | ok y tu =>
       intro hex
       simp only[bne_self_eq_false,An,hw]
       exact go tu { s with f:=y } hex.2.1
     ·rw[if_neg c4]
      simp only[decide_eq_false c4,An]
      by_cases c5:c.toNat=113
      ·simp only[if_pos c5,decide_eq_true c5,Af,Lj,A1]
       by_cases h:Bj l i [33,61]=true
       ·have hlt:=D0 h
        rw[if_pos h,h,Af,Ay i (by omega),hw]
        exact go (i+1) { s with ne:=true } hlt
       ·rw[if_neg h];rw[Bool.not_eq_true] at h
        rw[h,An]
        by_cases h':Bj l i [61,61]=true
        ·have hlt:=D0 h'
         rw[if_pos h',h',Af,Ay i (by omega),hw]
         exact go (i+1) { s with ne:=false } hlt
        ·rw[if_neg h'];rw[Bool.not_eq_true] at h'
         rw[h',An,A2f (n+1) l i (by omega)]
         exact⟨_,rfl⟩
      ·rw[if_neg c5]
       simp only[decide_eq_false c5,An,Aj4 pre cs c hp,Ajg pre cs c hp,Af,Lj,A1]
       by_cases h:Bj l i [c]=true
       ·have hlt:=D0 h
        rw[if_pos h,h,Af,Ay i (by omega),hw]
        exact go (i+1) s hlt
       ·rw[if_neg h];rw[Bool.not_eq_true] at h
        rw[h,An,A2f (n+1) l i (by omega)]
        exact⟨_,rfl⟩
theorem Y5 (c:UInt8) (k:Nat) (K:Int) (hK:(k:Int)=K):decide ((c.toNat:Int)=K)=decide (c.toNat=k):=by
 subst hK
 by_cases h:c.toNat=k
 ·rw[h];simp
 ·rw[decide_eq_false h,decide_eq_false (by omega)]
theorem A8s {l:List Tk} {n:Nat} (hn:5 < n) (m:Mp) (x4:Tk) (y5:Bn×Bool) (y8:Int) (i e a:Int) (he:e≠0) (s:Fs):∀ (cs pre:List UInt8) (k:Nat),y5.1.f_form=pre++cs→(pre++cs).length < 100→cs.length < k →
 B8 n l m x4 y5 y8 k (pre.length:Int) i e a s.reg s.loc s.e s.f s.ne=some (.out (i,e,a,s.reg,s.loc,s.e,s.f,s.ne)):=by
 intro cs
 obtain⟨n,rfl⟩:∃ j,n=j+1:=⟨n - 1,by omega⟩
 have hb:(e==0)=false:=by rw[beq_eq_false_iff_ne];exact he
 induction cs with
 | nil =>
  intro pre k hf hlen hkk
  obtain⟨k,rfl⟩:∃ j,k=j+1:=⟨k - 1,by omega⟩
  rw[B8,hf,Aq (by simp)]
 | cons c cs ih =>
  intro pre k hf hlen hkk
  obtain⟨k,rfl⟩:∃ j,k=j+1:=⟨k - 1,by omega⟩
  have hp:pre.length < 1000000:=by simp at hlen;omega
  have go:=ih (pre++[c]) k (by simpa using hf) (by simpa using hlen) (by simp at hkk;omega)
  simp only[List.length_append,List.length_singleton] at go
  have hw:=Ay pre.length (show pre.length < 4611686018427387904 by omega)
  rw[B8,hf,A6 (show((pre.length:Nat):Int) < (((pre++c :: cs).length:Nat):Int) by simp;omega)]
  simp only[A29,A1,hb,An,Aj4 pre cs c hp,Af,Ajg pre cs c hp,Q5 _ _ _ _ _ _ _ he]
  simp only[hw,go]
  cases decide ((c.toNat:Int)=114)<;>cases decide ((c.toNat:Int)=108)<;>cases decide ((c.toNat:Int)=101)<;>cases decide ((c.toNat:Int)=102)<;>cases decide ((c.toNat:Int)=113)<;>rfl
theorem Af0 {T:Nat} {l:List Tk} (hk:Toks T l) {n:Nat} (hn:12*l.length+T+900≤n) (m:Mp) (x4:Tk) (y5:Bn×Bool) (y8:Int):∀ (cs pre:List UInt8) (i k:Nat) (s:Fs),y5.1.f_form=pre++cs→i≤l.length→(pre++cs).length < 100→cs.length < k →
 match Gp l (exQ l) cs i s with
 | .ok s' j=>B8 n l m x4 y5 y8 k (pre.length:Int) (i:Int) 0 0 s.reg s.loc s.e s.f s.ne=some (.out ((j:Int),0,0,s'.reg,s'.loc,s'.e,s'.f,s'.ne))
 | .bad e a=>∃ (i':Int) (s':Fs),B8 n l m x4 y5 y8 k (pre.length:Int) (i:Int) 0 0 s.reg s.loc s.e s.f s.ne=some (.out (i',e,a,s'.reg,s'.loc,s'.e,s'.f,s'.ne)):=by
 intro cs
 induction cs with
 | nil =>
  intro pre i k s hf hi hlen hkk
  obtain⟨k,rfl⟩:∃ j,k=j+1:=⟨k - 1,by omega⟩
  rw[Gp,B8,hf,Aq (by simp)]
 | cons c cs ih =>
  intro pre i k s hf hi hlen hkk
  obtain⟨k,rfl⟩:∃ j,k=j+1:=⟨k - 1,by omega⟩
  obtain⟨n,rfl⟩:∃ j,n=j+5:=⟨n - 5,by omega⟩
  have hl:=hk.len
  have hp:pre.length < 1000000:=by simp at hlen;omega
  have hlen':(pre++[c]++cs).length < 100:=by simpa using hlen
  have hf':y5.1.f_form=pre++[c]++cs:=by simpa using hf
  have hkk':cs.length < k:=by simp at hkk;omega
  have go:∀ (j:Nat) (s':Fs),j≤l.length→match Gp l (exQ l) cs j s' with
   | .ok s2 j2=>B8 (n+5) l m x4 y5 y8 k ((pre.length+1:Nat):Int) (j:Int) 0 0 s'.reg s'.loc s'.e s'.f s'.ne=some (.out ((j2:Int),0,0,s2.reg,s2.loc,s2.e,s2.f,s2.ne))
   | .bad e a=>∃ (i':Int) (s2:Fs),B8 (n+5) l m x4 y5 y8 k ((pre.length+1:Nat):Int) (j:Int) 0 0 s'.reg s'.loc s'.e s'.f s'.ne=some (.out (i',e,a,s2.reg,s2.loc,s2.e,s2.f,s2.ne)):=fun j s' hj=>by
   have:=ih (pre++[c]) j k s' hf' hj hlen' hkk'
   simpa only [List.length_append,List.length_singleton] using this
  have stop:∀ (i' e a:Int) (s':Fs),e≠0→B8 (n+5) l m x4 y5 y8 k ((pre.length+1:Nat):Int) i' e a s'.reg s'.loc s'.e s'.f s'.ne=some (.out (i',e,a,s'.reg,s'.loc,s'.e,s'.f,s'.ne)):=fun i' e a s' he=>by
   have:=A8s (l:=l) (n:=n+5) (by omega) m x4 y5 y8 i' e a he s' cs (pre++[c]) k hf' hlen' hkk'
   simpa only [List.length_append,List.length_singleton] using this
  have hex:=A8w hk hi
  have hw:=Ay pre.length (show pre.length < 4611686018427387904 by omega)
  have hee:=Sv l i
  unfold Gp Hg
  rw[B8,hf,A6 (show((pre.length:Nat):Int) < (((pre++c :: cs).length:Nat):Int) by simp;omega)]
  simp only[A29,A1,Y5 c 114 114 rfl,Y5 c 108 108 rfl,Y5 c 101 101 rfl,Y5 c 102 102 rfl,Y5 c 113 113 rfl,beq_self_eq_true,Af]
  by_cases c1:c.toNat=114
  ·simp only[if_pos c1,decide_eq_true c1,Af,Io,Acg (n+1) l i m (by omega),A1]
   by_cases h:isN l i=true
   ·simp only[if_pos h,hw]
    exact go (i+1) { s with reg:=txt l i } (Ph h)
   ·simp only[if_neg h,hw]
    exact⟨_,_,stop (i:Int) _ _ { s with reg:=[] } hee⟩
  ·rw[if_neg c1]
   simp only[decide_eq_false c1,An]
   by_cases c2:c.toNat=108
   ·simp only[if_pos c2,decide_eq_true c2,Af,Il,Acg (n+1) l i m (by omega),A1]
    by_cases h:isN l i=true
    ·simp only[if_pos h,hw]
     exact go (i+1) { s with loc:=txt l i } (Ph h)
    ·simp only[if_neg h,hw]
     exact⟨_,_,stop (i:Int) _ _ { s with loc:=[] } hee⟩
   ·rw[if_neg c2]
    simp only[decide_eq_false c2,An]
    by_cases c3:c.toNat=101
    ·simp only[if_pos c3,decide_eq_true c3,Af,Ii,Acv hk m hi (show 12*l.length+T+800≤n+4 by omega),A1]
     revert hex
     cases exQ l i with
     | bad e a =>
      intro hex
      simp only[hw]
      exact⟨_,_,stop (i:Int) e a { s with e:=[] } hex⟩
     | ok y tu =>
      intro hex
      simp only[hw]
      exact go tu { s with e:=y } hex.2.1
    ·rw[if_neg c3]
     simp only[decide_eq_false c3,An]
     by_cases c4:c.toNat=102
     ·simp only[if_pos c4,decide_eq_true c4,Af,Ij,Acv hk m hi (show 12*l.length+T+800≤n+4 by omega),A1]
      revert hex
      cases exQ l i with
      | bad e a =>
       intro hex
       simp only[hw]
       exact⟨_,_,stop (i:Int) e a { s with f:=[] } hex⟩
      | ok y tu =>
       intro hex
       simp only[hw]
       exact go tu { s with f:=y } hex.2.1
     ·rw[if_neg c4]
      simp only[decide_eq_false c4,An]
      by_cases c5:c.toNat=113
      ·simp only[if_pos c5,decide_eq_true c5,Af,In,Wa,S6 (n+1) _ l i m (show l.length < 1000000 by omega),A1]
       by_cases h:Bj l i [33,61]=true
       ·have hlt:=D0 h
        rw[if_pos h,h,Af,A1,Ay i (by omega),hw]
        exact go (i+1) { s with ne:=true } hlt
       ·rw[if_neg h];rw[Bool.not_eq_true] at h
        rw[h,An]
        by_cases h':Bj l i [61,61]=true
        ·have hlt:=D0 h'
         simp only[if_pos h',A1,hw]
         exact go (i+1) { s with ne:=false } hlt
        ·simp only[if_neg h',A1,hw]
         exact⟨_,_,stop (i:Int) _ _ { s with ne:=false } hee⟩
      ·rw[if_neg c5]
       simp only[decide_eq_false c5,An,Aj4 pre cs c hp,Ajg pre cs c hp,Af,S6 (n+2) _ l i m (show l.length < 1000000 by omega),A1]
       by_cases h:Bj l i [c]=true
       ·have hlt:=D0 h
        simp only[if_pos h,hw]
        exact go (i+1) s hlt
       ·simp only[if_neg h,hw]
        exact⟨_,_,stop (i:Int) _ _ s hee⟩
def Bz:Mp:=[([115,107,105,112],1),([115,101,116],2),([108,111,97,100],3),([115,116,111,114,101],4),([99,97,115],5),([102,97,100,100],6),([120,99,104,103],7),([102,101,110,99,101],8),([97,119,97,105,116],9),([105,102],10),([119,104,105,108,101],11),([108,111,111,112],12),([98,114,101,97,107],13)]
def A3i (s:List UInt8):Int:=Bf Bz s 0
def Av (l:List Tk) (i:Nat):Int:=match l[i]? with
 | some t=>if t.A7=1 then A3i t.Ac else 0
 | none=>0
def C2 (k:Int):List UInt8 :=
 if k=2 then [114,61,101,59] else if k=3 then [114,61,108,59] else if k=4 then [108,61,101,59] else if k=5 then [114,61,108,44,101,44,102,59]
 else if k=6 then [114,61,108,44,101,59] else if k=7 then [114,61,108,44,101,59] else if k=9 then [108,113,101,59] else if k=10 then [101] else if k=11 then [101] else if k=12 then [] else [59]
def Db (k:Int):Bool:=k==10 || (k==11 || k==12)
theorem Afh (s:List UInt8):0≤A3i s∧A3i s≤13:=by
 unfold A3i Bz
 simp only[Bf]
 repeat' split
 all_goals omega
theorem A3t (l:List Tk) (i:Nat):0≤Av l i∧Av l i≤13:=by
 unfold Av
 split
 ·split
  ·exact Afh _
  ·omega
 ·omega
theorem C4 {l:List Tk} {i:Nat} (h:Av l i≠0):i < l.length:=by
 unfold Av at h
 cases hg:l[i]? with
 | none=>rw[hg] at h;exact absurd rfl h
 | some t=>exact H9 hg
theorem M1 {l:List Tk} {i:Nat} (h:Av l i≠0) (s:List UInt8):Bj l i s=false:=by
 unfold Av at h
 cases hg:l[i]? with
 | none=>rw[hg] at h;exact absurd rfl h
 | some t =>
  rw[hg] at h
  dsimp only at h
  by_cases hk:t.A7=1
  ·simp[Bj,hg,hk]
  ·rw[if_neg hk] at h;exact absurd rfl h
theorem A0d (k:Int):(C2 k).length < 10:=by unfold C2;repeat' split
                                           all_goals decide
theorem B2a (n:Nat) (k:Int):Yn (n+1) k=some (C2 k):=by
 have e:∀ a:Int,(k==a)=decide (k=a):=fun a=>by by_cases h:k=a<;>simp[h]
 simp only[Yn,C2,e]
 by_cases h2:k=2
 ·simp[h2]
 by_cases h3:k=3
 ·simp[h3]
 by_cases h4:k=4
 ·simp[h4]
 by_cases h5:k=5
 ·simp[h5]
 by_cases h6:k=6
 ·simp[h6]
 by_cases h7:k=7
 ·simp[h7]
 by_cases h9:k=9
 ·simp[h9]
 by_cases h10:k=10
 ·simp[h10]
 by_cases h11:k=11
 ·simp[h11]
 by_cases h12:k=12
 ·simp[h12]
 simp[h2,h3,h4,h5,h6,h7,h9,h10,h11,h12]
theorem B0w (n:Nat) (k:Int):Ub (n+1) k=some (Db k):=by
 rw[Ub,Db]
 cases k==10<;>cases k==11<;>rfl
def Ul:List (List UInt8):=[[],[115,107,105,112],[115,101,116],[108,111,97,100],[115,116,111,114,101],[99,97,115],[102,97,100,100],[120,99,104,103],[102,101,110,99,101],[97,119,97,105,116],[105,102],[119,104,105,108,101],[108,111,111,112],[98,114,101,97,107]]
theorem Adp (n:Nat):X6 (n+1)=some Ul:=rfl
def Axd:List (List UInt8)→Nat→Mp
 | [],_=>[]
 | w :: ws,j=>(w,(j:Int)) :: Axd ws (j+1)
theorem Arm {l:List Tk} {n i:Nat} (h:∀ t,l[i]?=some t→t.A7≠1):∀ (m j k:Nat),Ul.length - j≤m→m < k→j < 100→(Lm (n+1) l (i:Int) k (j:Int)).bind (fun o=>match o with | .out _=>some (0:Int) | .ret v=>some v)=some 0:=by
 intro m
 induction m with
 | zero =>
  intro j k hm hk hj
  obtain⟨k,rfl⟩:∃ q,k=q+1:=⟨k - 1,by omega⟩
  rw[Lm,Adp,A1,Aq (by omega)];rfl
 | succ m ih =>
  intro j k hm hk hj
  obtain⟨k,rfl⟩:∃ q,k=q+1:=⟨k - 1,by omega⟩
  rw[Lm,Adp,A1]
  by_cases hj2:j < Ul.length
  ·rw[A6 (by omega)]
   by_cases hi:i < l.length
   ·have hk1:(l[i].A7==1)=false:=by rw[beq_eq_false_iff_ne];exact h _ (Ax hi)
    rw[A6 (by omega),C8 hi,A1,hk1,An,Ay j (by omega)]
    exact ih (j+1) k (by omega) (by omega) (by have:Ul.length=14:=rfl;omega)
   ·rw[Aq (by omega)];rfl
  ·rw[Aq (by omega)];rfl
theorem Ayw {l:List Tk} {n i:Nat} {t:Tk} (ht:l[i]?=some t) (h1:t.A7=1):∀ (ws pre:List (List UInt8)) (k:Nat),Ul=pre++ws→ws.length < k→(Lm (n+1) l (i:Int) k (pre.length:Int)).bind (fun o=>match o with | .out _=>some (0:Int) | .ret v=>some v)=some (Bf (Axd ws pre.length) t.Ac 0):=by
 intro ws
 have hi:=H9 ht
 induction ws with
 | nil =>
  intro pre k hw hk
  obtain⟨k,rfl⟩:∃ q,k=q+1:=⟨k - 1,by omega⟩
  rw[Lm,Adp,A1,hw,Aq (by simp)];rfl
 | cons w ws ih =>
  intro pre k hw hk
  obtain⟨k,rfl⟩:∃ q,k=q+1:=⟨k - 1,by omega⟩
  have hget:idx Ul (pre.length:Int)=some w:=by rw[hw,Qg];simp
  have hlen:Ul.length=14:=rfl
  have hlen2:Ul.length=pre.length+(ws.length+1):=by rw[hw];simp
  rw[Lm,Adp,A1,A6 (by omega),A6 (by omega),Cn ht,A1,h1,beq_self_eq_true,Af,A1,A1,hget,A1]
  simp only[Axd,Bf]
  by_cases hx:t.Ac=w
  ·rw[if_pos hx,hx,beq_self_eq_true,Af];rfl
  ·have hb:(t.Ac==w)=false:=by rw[beq_eq_false_iff_ne];exact hx
   rw[if_neg hx,hb,An,Ay pre.length (by omega)]
   have:=ih (pre++[w]) k (by rw[hw];simp) (by simp at hk;omega)
   rw[List.length_append,List.length_singleton] at this
   exact this
theorem Av8 {l:List Tk} {n i:Nat} (hn:20 < n):Vl n l (i:Int)=some (Av l i):=by
 obtain⟨n,rfl⟩:∃ j,n=j+2:=⟨n - 2,by omega⟩
 have hlen:Ul.length=14:=rfl
 rw[Vl]
 unfold Av
 cases hg:l[i]? with
 | none=>exact Arm (fun t ht=>by rw[hg] at ht;cases ht) 14 1 (n+1) (by omega) (by omega) (by omega)
 | some t =>
  dsimp only
  by_cases h1:t.A7=1
  ·rw[if_pos h1]
   exact Ayw hg h1 (Ul.drop 1) [[]] (n+1) rfl (by rw[List.length_drop,hlen];omega)
  ·rw[if_neg h1]
   exact Arm (fun t' ht=>by rw[hg] at ht;cases ht;exact h1) 14 1 (n+1) (by omega) (by omega) (by omega)
inductive SR where
 | ok (x:List St) (tu:Nat)
 | bad (e a:Int)
def Qw (x:List St):SR→SR
 | .ok y tu=>.ok (x++y) tu
 | .bad e a=>.bad e a
def Jz (l:List Tk) (i:Nat):Bool:=match l[i]? with
 | some t=>t.A7==1&&t.Ac==[101,108,115,101]
 | none=>false
def fs0:Fs:=⟨[],[],[],[],false⟩
def mkS (k:Int) (s:Fs) (b c:Nat) (a:Int):St:=⟨k,s.reg,s.loc,s.e,s.f,s.ne,(b:Int),(c:Int),a⟩
inductive SE (l:List Tk):Bool→Nat→Nat→SR→Prop
 | stop {inn i:Nat}:(l.length≤i∨Bj l i [125]=true)→SE l false inn i (.ok [] i)
 | no {inn i:Nat}:i < l.length→Bj l i [125]=false→Av l i=0→SE l false inn i (.bad 5 (Bg l i))
 | fbad {inn i:Nat} {e a:Int}:Av l i≠0→Gp l (exQ l) (C2 (Av l i)) (i+1) fs0=.bad e a→SE l false inn i (.bad e a)
 | simple {inn i j:Nat} {s:Fs} {r:SR}:Av l i≠0→Db (Av l i)=false→Gp l (exQ l) (C2 (Av l i)) (i+1) fs0=.ok s j→SE l false inn j r→SE l false inn i (Qw [mkS (Av l i) s 0 0 (Bg l i)] r)
 | bbad {inn i j:Nat} {s:Fs} {e a:Int}:Av l i≠0→Db (Av l i)=true→Gp l (exQ l) (C2 (Av l i)) (i+1) fs0=.ok s j→SE l true inn j (.bad e a)→SE l false inn i (.bad e a)
 | blk {inn i j j2:Nat} {s:Fs} {b:List St} {r:SR}:Av l i≠0→Db (Av l i)=true→Gp l (exQ l) (C2 (Av l i)) (i+1) fs0=.ok s j→SE l true inn j (.ok b j2)→(Av l i=10→Jz l j2=false)→SE l false inn j2 r→SE l false inn i (Qw (mkS (Av l i) s b.length 0 (Bg l i) :: b) r)
 | ebad {inn i j j2:Nat} {s:Fs} {b:List St} {e a:Int}:Av l i=10→Gp l (exQ l) (C2 (Av l i)) (i+1) fs0=.ok s j→SE l true inn j (.ok b j2)→Jz l j2=true→SE l true inn (j2+1) (.bad e a)→SE l false inn i (.bad e a)
 | els {inn i j j2 j3:Nat} {s:Fs} {b c:List St} {r:SR}:Av l i=10→Gp l (exQ l) (C2 (Av l i)) (i+1) fs0=.ok s j→SE l true inn j (.ok b j2)→Jz l j2=true→SE l true inn (j2+1) (.ok c j3)→SE l false inn j3 r→SE l false inn i (Qw (mkS (Av l i) s b.length c.length (Bg l i) :: (b++c)) r)
 | nob {inn i:Nat}:Bj l i [123]=false→SE l true inn i (.bad (Fj l i) (Bg l i))
 | deep {inn i:Nat}:Bj l i [123]=true→30≤inn→SE l true inn i (.bad 7 (Bg l i))
 | sbad {inn i:Nat} {e a:Int}:Bj l i [123]=true→inn < 30→SE l false (inn+1) (i+1) (.bad e a)→SE l true inn i (.bad e a)
 | close {inn i j:Nat} {x:List St}:Bj l i [123]=true→inn < 30→SE l false (inn+1) (i+1) (.ok x j)→Bj l j [125]=true→SE l true inn i (.ok x (j+1))
 | opn {inn i j:Nat} {x:List St}:Bj l i [123]=true→inn < 30→SE l false (inn+1) (i+1) (.ok x j)→Bj l j [125]=false→SE l true inn i (.bad (Fj l j) (Bg l j))
def Js (l:List Tk) (i d:Nat):SR→Prop
 | .ok x tu=>i+d≤tu∧tu≤l.length∧x.length+d≤tu - i
 | .bad e _=>e≠0
theorem F4 {T:Nat} {l:List Tk} (hk:Toks T l) {cs:List UInt8} {i j:Nat} {s s':Fs} (hi:i≤l.length) (h:Gp l (exQ l) cs i s=.ok s' j):i≤j∧j≤l.length:=by
 have:=Xk hk cs i s hi
 rw[h] at this;exact this
theorem Jh {l:List Tk} {i:Nat} (h:Jz l i=true):i < l.length:=by
 unfold Jz at h
 cases hg:l[i]? with
 | none=>rw[hg] at h;cases h
 | some t=>exact H9 hg
theorem Hy {T:Nat} {l:List Tk} (hk:Toks T l) {md:Bool} {inn i:Nat} {r:SR} (h:SE l md inn i r):i≤l.length→Js l i (if md then 1 else 0) r:=by
 induction h with
 | stop h=>intro hi;exact⟨by simp,hi,by simp⟩
 | no h1 h2 h3=>intro hi;show(5:Int)≠0;decide
 | @fbad inn i e a h1 h2 =>
  intro hi
  have:=Xk hk (C2 (Av l i)) (i+1) fs0 (C4 h1)
  rw[h2] at this;exact this
 | @simple inn i j s r h1 h2 h3 h4 ih =>
  intro hi
  have h5:=F4 hk (C4 h1) h3
  have h6:=ih h5.2
  cases r with
  | ok x tu=>simp only[Qw,Js,Bool.false_eq_true,if_false,List.length_append,List.length_singleton] at h6 ⊢;omega
  | bad e a=>exact h6
 | bbad h1 h2 h3 h4 ih=>intro hi;exact ih (F4 hk (C4 h1) h3).2
 | @blk inn i j j2 s b r h1 h2 h3 h4 h5 h6 ih1 ih2 =>
  intro hi
  have h7:=F4 hk (C4 h1) h3
  have h8:=ih1 h7.2
  simp only[Js,if_true] at h8
  have h9:=ih2 h8.2.1
  cases r with
  | ok x tu=>simp only[Qw,Js,Bool.false_eq_true,if_false,List.length_append,List.length_cons] at h9 ⊢;omega
  | bad e a=>exact h9
 | @ebad inn i j j2 s b e a h1 h3 h4 h5 h6 ih1 ih2=>intro hi;exact ih2 (Jh h5)
 | @els inn i j j2 j3 s b c r h1 h3 h4 h5 h6 h7 ih1 ih2 ih3 =>
  intro hi
  have h10:Av l i≠0:=by omega
  have h8:=F4 hk (C4 h10) h3
  have h9:=ih1 h8.2
  have h11:=ih2 (Jh h5)
  simp only[Js,if_true] at h9 h11
  have h12:=ih3 h11.2.1
  cases r with
  | ok x tu=>simp only[Qw,Js,Bool.false_eq_true,if_false,List.length_append,List.length_cons] at h12 ⊢;omega
  | bad e a=>exact h12
 | nob h=>intro hi;exact Sv l _
 | deep h1 h2=>intro hi;show(7:Int)≠0;decide
 | sbad h1 h2 h3 ih=>intro hi;exact ih (D0 h1)
 | close h1 h2 h3 h4 ih=>intro hi;have:=ih (D0 h1);have:=D0 h4;simp only[Js,Bool.false_eq_true,if_false,if_true] at *;omega
 | opn h1 h2 h3 h4 ih=>intro hi;exact Sv l _
abbrev A2s:=List St×Int×Int×Int
def B22:LR (Int×List St) A2s→Option A2s
 | .out (i,x)=>some (x,i,0,0)
 | .ret v=>some v
def Aim (r:SR) (out:List St) (o:Option A2s):Prop:=match r with
 | .ok x tu=>o=some (out++x,(tu:Int),0,0)
 | .bad e a=>o=some ([],0,e,a)
theorem Ad4 {r:SR} {x out:List St} {o:Option A2s} (h:Aim r (out++x) o):Aim (Qw x r) out o:=by
 cases r with
 | ok y tu=>show o=some (out++(x++y),(tu:Int),0,0);rw[← List.append_assoc];exact h
 | bad e a=>exact h
theorem Afp {α:Type} (l:List Tk) (j:Nat) (A B:Option α):(bif decide ((j:Int) < ((l.length:Nat):Int)) then((idx l (j:Int)).bind fun x=>(bif x.A7==1 then((idx l (j:Int)).bind fun y=>(bif y.Ac==([101,108,115,101]:List UInt8) then A else B)) else B)) else B)=bif Jz l j then A else B:=by
 by_cases h:j < l.length
 ·rw[A6 (by omega),C8 h,A1,A1]
  unfold Jz
  rw[Ax h]
  dsimp only
  cases l[j].A7==1<;>cases (l[j].Ac==([101,108,115,101]:List UInt8))<;>rfl
 ·rw[Aq (by omega)]
  unfold Jz
  rw[List.getElem?_eq_none (by omega)];rfl
theorem A5r {T:Nat} {l:List Tk} (hk:Toks T l) {n i:Nat} (hn:12*l.length+T+901≤n) (hi:i≤l.length) (k:Int) (a:Int) :
 match Gp l (exQ l) (C2 k) i fs0 with
 | .ok s j=>Lv n l (i:Int) ⟨k,[],[],[],[],false,0,0,a⟩=some (⟨k,s.reg,s.loc,s.e,s.f,s.ne,0,0,a⟩,(j:Int),0,0)
 | .bad e a'=>∃ X,Lv n l (i:Int) ⟨k,[],[],[],[],false,0,0,a⟩=some (X,0,e,a'):=by
 obtain⟨n,rfl⟩:∃ j,n=j+1:=⟨n - 1,by omega⟩
 have hf:=A0d k
 have:=Ayq hk (n:=n) (by omega) ⟨k,[],[],[],[],false,0,0,a⟩ (C2 k) [] i n fs0 hi (by rw[List.nil_append];omega) (by omega)
 obtain⟨n,rfl⟩:∃ j,n=j+1:=⟨n - 1,by omega⟩
 rw[Lv,B2a,A1]
 revert this
 cases Gp l (exQ l) (C2 k) i fs0 with
 | ok s j =>
  intro h
  have h:Ea (n+1) l ⟨k,[],[],[],[],false,0,0,a⟩ (C2 k) (n+1) (i:Int) 0 [] [] [] [] false=_:=h
  rw[h];rfl
 | bad e a' =>
  rintro ⟨X,h⟩
  have h:Ea (n+1) l ⟨k,[],[],[],[],false,0,0,a⟩ (C2 k) (n+1) (i:Int) 0 [] [] [] [] false=_:=h
  rw[h];exact⟨_,rfl⟩
theorem B2x {T:Nat} {l:List Tk} (hk:Toks T l) {md:Bool} {inn i:Nat} {r:SR} (h:SE l md inn i r):i≤l.length→inn≤30→match md with
 | false=>∀ (n k:Nat) (out:List St),12*l.length+T+900+4*(l.length - i)+11≤n→l.length - i < k→out.length≤i→Aim r out ((Eo n (G2 n) l (inn:Int) k (i:Int) out).bind B22)
 | true=>∀ n:Nat,12*l.length+T+900+4*(l.length - i)+14≤n→Aim r [] (G2 n l (i:Int) (inn:Int)):=by
 have hl:=hk.len
 have round:∀ (n k i inn:Nat) (out:List St),12*l.length+T+910≤n→Av l i≠0→∃ n',n=n'+1∧decide ((i:Int) < ((l.length:Nat):Int))=true∧Fp n l (i:Int) [125]=some false∧Vl n l (i:Int)=some (Av l i)∧(Av l i==0)=false∧idx l (i:Int)=some (l[i]?.getD default)∧(l[i]?.getD default).Ab=Bg l i∧IntKind.i64.wrap ((i:Int)+1)=((i+1:Nat):Int)∧Ub n (Av l i)=some (Db (Av l i)):=by
  intro n k i inn out hn h0
  have hlt:=C4 h0
  obtain⟨n,rfl⟩:∃ j,n=j+1:=⟨n - 1,by omega⟩
  refine⟨n,rfl,by simpa using hlt,by rw[Lj,M1 h0],Av8 (by omega),by rw[beq_eq_false_iff_ne];exact h0,by rw[C8 hlt,Ax hlt];rfl,by rw[Ax hlt,hk.at' hlt];rfl,Ay i (by omega),B0w n _⟩
 induction h with
 | @stop inn i h1 =>
  intro hi hn n k out hf hkk ho
  obtain⟨k,rfl⟩:∃ j,k=j+1:=⟨k - 1,by omega⟩
  obtain⟨n,rfl⟩:∃ j,n=j+1:=⟨n - 1,by omega⟩
  rw[Eo,Lj]
  show _=some (out++[],(i:Int),0,0)
  rw[List.append_nil]
  by_cases h2:i < l.length
  ·rw[A6 (by omega),(h1.resolve_left (by omega))];rfl
  ·rw[Aq (by omega)];rfl
 | @no inn i h1 h2 h3 =>
  intro hi hn n k out hf hkk ho
  obtain⟨k,rfl⟩:∃ j,k=j+1:=⟨k - 1,by omega⟩
  obtain⟨n,rfl⟩:∃ j,n=j+1:=⟨n - 1,by omega⟩
  rw[Eo,Lj,h2,Av8 (by omega),h3,A6 (by omega),C8 h1,hk.at' h1];rfl
 | @fbad inn i e a h1 h2 =>
  intro hi hn n k out hf hkk ho
  obtain⟨k,rfl⟩:∃ j,k=j+1:=⟨k - 1,by omega⟩
  obtain⟨n',rfl,a1,a2,a3,a4,a5,a6,a7,a8⟩:=round n k i inn out (by omega) h1
  have hne:e≠0:=by
   have:=Xk hk (C2 (Av l i)) (i+1) fs0 (C4 h1)
   rw[h2] at this;exact this
  have hb:(e != 0)=true:=by rw[bne_iff_ne];exact hne
  have hx:=A5r hk (n:=n'+1) (by omega) (C4 h1) (Av l i) (Bg l i)
  rw[h2] at hx
  obtain⟨X,hx⟩:=hx
  rw[Eo,a1,Af,a2,A1,An,a3,A1,a4,An,a5,A1,a6,a7,hx,A1]
  simp only[hb,Af];rfl
 | @simple inn i j s r h1 h2 h3 h4 ih =>
  intro hi hn n k out hf hkk ho
  obtain⟨k,rfl⟩:∃ j,k=j+1:=⟨k - 1,by omega⟩
  have h5:=F4 hk (C4 h1) h3
  have hlt:=C4 h1
  have h6:=ih h5.2 hn n k (out++[mkS (Av l i) s 0 0 (Bg l i)]) (by omega) (by omega) (by simp;omega)
  obtain⟨n',rfl,a1,a2,a3,a4,a5,a6,a7,a8⟩:=round n k i inn out (by omega) h1
  have hx:=A5r hk (n:=n'+1) (by omega) hlt (Av l i) (Bg l i)
  rw[h3] at hx
  have hx:Lv (n'+1) l ((i+1:Nat):Int) _=_:=hx
  have h10:(Av l i==10)=false:=by
   cases hq:Av l i==10 with
   | false=>rfl
   | true=>rw[Db,hq] at h2;cases h2
  rw[Eo,a1,Af,a2,A1,An,a3,A1,a4,An,a5,A1,a6,a7,hx,A1]
  simp only[bne_self_eq_false,An,a8,A1,h2,h10,List.length_append,List.length_singleton,Nat.add_zero]
  rw[A6 (by omega),A6 (by omega),A6 (by omega)]
  exact Ad4 h6
 | @bbad inn i j s e a h1 h2 h3 h4 ih =>
  intro hi hn n k out hf hkk ho
  obtain⟨k,rfl⟩:∃ j,k=j+1:=⟨k - 1,by omega⟩
  have h5:=F4 hk (C4 h1) h3
  have hlt:=C4 h1
  have h6:G2 n l (j:Int) (inn:Int)=some ([],0,e,a):=ih h5.2 hn n (by omega)
  have hb:(e != 0)=true:=by rw[bne_iff_ne];exact Hy hk h4 h5.2
  obtain⟨n',rfl,a1,a2,a3,a4,a5,a6,a7,a8⟩:=round n k i inn out (by omega) h1
  have hx:=A5r hk (n:=n'+1) (by omega) hlt (Av l i) (Bg l i)
  rw[h3] at hx
  have hx:Lv (n'+1) l ((i+1:Nat):Int) _=_:=hx
  rw[Eo,a1,Af,a2,A1,An,a3,A1,a4,An,a5,A1,a6,a7,hx,A1]
  simp only[bne_self_eq_false,An,a8,A1,h2,Af,h6,hb]
  rfl
 | @blk inn i j j2 s b r h1 h2 h3 h4 h5 h6 ih1 ih2 =>
  intro hi hn n k out hf hkk ho
  obtain⟨k,rfl⟩:∃ j,k=j+1:=⟨k - 1,by omega⟩
  have h7:=F4 hk (C4 h1) h3
  have hlt:=C4 h1
  have h8:=Hy hk h4 h7.2
  simp only[Js,if_true] at h8
  have h9:G2 n l (j:Int) (inn:Int)=some ([]++b,(j2:Int),0,0):=ih1 h7.2 hn n (by omega)
  rw[List.nil_append] at h9
  have h10:=ih2 h8.2.1 hn n k (out++(mkS (Av l i) s b.length 0 (Bg l i) :: b)) (by omega) (by omega) (by simp;omega)
  obtain⟨n',rfl,a1,a2,a3,a4,a5,a6,a7,a8⟩:=round n k i inn out (by omega) h1
  have hx:=A5r hk (n:=n'+1) (by omega) hlt (Av l i) (Bg l i)
  rw[h3] at hx
  have hx:Lv (n'+1) l ((i+1:Nat):Int) _=_:=hx
  rw[Eo,a1,Af,a2,A1,An,a3,A1,a4,An,a5,A1,a6,a7,hx,A1]
  simp only[bne_self_eq_false,An,a8,A1,h2,Af,h9,Afp]
  have hel:(Av l i==10)=true→Jz l j2=false:=fun h=>h5 (by simpa using h)
  have hrest:Aim (Qw (mkS (Av l i) s b.length 0 (Bg l i) :: b) r) out ((Eo (n'+1) (G2 (n'+1)) l (inn:Int) k (j2:Int) ((out++[⟨Av l i,s.reg,s.loc,s.e,s.f,s.ne,((b.length:Nat):Int),0,Bg l i⟩])++b)).bind B22):=by
   refine Ad4 ?_
   rw[List.append_assoc,List.singleton_append];exact h10
  have s1:decide ((out.length+1)*121≤140737488355328)=true:=by simp;omega
  have s2:decide ((out.length+1+b.length)*121≤140737488355328)=true:=by simp;omega
  simp only[List.length_append,List.length_singleton,Nat.add_zero,s1,s2,Af]
  cases hq:Av l i==10 with
  | true=>rw[Af,hel hq,An];exact hrest
  | false=>rw[An];exact hrest
 | @ebad inn i j j2 s b e a h1 h3 h4 h5 h6 ih1 ih2 =>
  intro hi hn n k out hf hkk ho
  obtain⟨k,rfl⟩:∃ j,k=j+1:=⟨k - 1,by omega⟩
  have h0:Av l i≠0:=by omega
  have h7:=F4 hk (C4 h0) h3
  have hlt:=C4 h0
  have hj:=Jh h5
  have h8:=Hy hk h4 h7.2
  simp only[Js,if_true] at h8
  have h9:G2 n l (j:Int) (inn:Int)=some ([]++b,(j2:Int),0,0):=ih1 h7.2 hn n (by omega)
  rw[List.nil_append] at h9
  have h10:G2 n l ((j2+1:Nat):Int) (inn:Int)=some ([],0,e,a):=ih2 hj hn n (by omega)
  have hb:(e != 0)=true:=by rw[bne_iff_ne];exact Hy hk h6 hj
  obtain⟨n',rfl,a1,a2,a3,a4,a5,a6,a7,a8⟩:=round n k i inn out (by omega) h0
  have hx:=A5r hk (n:=n'+1) (by omega) hlt (Av l i) (Bg l i)
  rw[h3] at hx
  have hx:Lv (n'+1) l ((i+1:Nat):Int) _=_:=hx
  have hbl:Db (Av l i)=true:=by rw[h1];rfl
  have hq:(Av l i==10)=true:=by rw[h1];rfl
  rw[Eo,a1,Af,a2,A1,An,a3,A1,a4,An,a5,A1,a6,a7,hx,A1]
  simp only[bne_self_eq_false,An,a8,A1,hbl,Af,h9,Afp,hq,h5,Ay j2 (show j2 < 4611686018427387904 by omega),h10,hb]
  rfl
 | @els inn i j j2 j3 s b c r h1 h3 h4 h5 h6 h7 ih1 ih2 ih3 =>
  intro hi hn n k out hf hkk ho
  obtain⟨k,rfl⟩:∃ j,k=j+1:=⟨k - 1,by omega⟩
  have h0:Av l i≠0:=by omega
  have h8:=F4 hk (C4 h0) h3
  have hlt:=C4 h0
  have hj:=Jh h5
  have h9:=Hy hk h4 h8.2
  simp only[Js,if_true] at h9
  have h9':=Hy hk h6 hj
  simp only[Js,if_true] at h9'
  have h10:G2 n l (j:Int) (inn:Int)=some ([]++b,(j2:Int),0,0):=ih1 h8.2 hn n (by omega)
  rw[List.nil_append] at h10
  have h11:G2 n l ((j2+1:Nat):Int) (inn:Int)=some ([]++c,(j3:Int),0,0):=ih2 hj hn n (by omega)
  rw[List.nil_append] at h11
  have h12:=ih3 h9'.2.1 hn n k (out++(mkS (Av l i) s b.length c.length (Bg l i) :: (b++c))) (by omega) (by omega) (by simp;omega)
  obtain⟨n',rfl,a1,a2,a3,a4,a5,a6,a7,a8⟩:=round n k i inn out (by omega) h0
  have hx:=A5r hk (n:=n'+1) (by omega) hlt (Av l i) (Bg l i)
  rw[h3] at hx
  have hx:Lv (n'+1) l ((i+1:Nat):Int) _=_:=hx
  have hbl:Db (Av l i)=true:=by rw[h1];rfl
  have hq:(Av l i==10)=true:=by rw[h1];rfl
  rw[Eo,a1,Af,a2,A1,An,a3,A1,a4,An,a5,A1,a6,a7,hx,A1]
  have s1:decide ((out.length+1)*121≤140737488355328)=true:=by simp;omega
  have s2:decide ((out.length+1+b.length)*121≤140737488355328)=true:=by simp;omega
  have s3:decide ((out.length+1+b.length+c.length)*121≤140737488355328)=true:=by simp;omega
  simp only[bne_self_eq_false,An,a8,A1,hbl,Af,h10,Afp,hq,h5,Ay j2 (show j2 < 4611686018427387904 by omega),h11,List.length_append,List.length_singleton,s1,s2,s3]
  refine Ad4 ?_
  rw[List.append_assoc,List.append_assoc,List.singleton_append];exact h12
 | @nob inn i h1 =>
  intro hi hn n hf
  obtain⟨n,rfl⟩:∃ j,n=j+3:=⟨n - 3,by omega⟩
  rw[G2,Lj,h1,A1,An,A2f n l i (by omega)];rfl
 | @deep inn i h1 h2 =>
  intro hi hn n hf
  have hlt:=D0 h1
  obtain⟨n,rfl⟩:∃ j,n=j+3:=⟨n - 3,by omega⟩
  rw[G2,Lj,h1,A1,Af,A6 (by omega),C8 hlt,hk.at' hlt];rfl
 | @sbad inn i e a h1 h2 h3 ih =>
  intro hi hn n hf
  have hlt:=D0 h1
  obtain⟨n,rfl⟩:∃ j,n=j+4:=⟨n - 4,by omega⟩
  have h4:=ih hlt (by omega) (n+2) (n+2) [] (by omega) (by omega) (by simp)
  have h5:Kv (n+3) l ((i+1:Nat):Int) ((inn+1:Nat):Int)=some ([],0,e,a):=by rw[Kv];exact h4
  have hb:(e != 0)=true:=by rw[bne_iff_ne];exact Hy hk h3 hlt
  rw[G2,Lj,h1,A1,Af,Aq (by omega),Ay i (by omega),Ay inn (by omega),h5,A1]
  simp only[hb,Af];rfl
 | @close inn i j x h1 h2 h3 h4 ih =>
  intro hi hn n hf
  have hlt:=D0 h1
  have hlj:=D0 h4
  obtain⟨n,rfl⟩:∃ j,n=j+4:=⟨n - 4,by omega⟩
  have h6:=ih hlt (by omega) (n+2) (n+2) [] (by omega) (by omega) (by simp)
  have h5:Kv (n+3) l ((i+1:Nat):Int) ((inn+1:Nat):Int)=some ([]++x,(j:Int),0,0):=by rw[Kv];exact h6
  rw[G2,Lj,h1,A1,Af,Aq (by omega),Ay i (by omega),Ay inn (by omega),h5,A1]
  simp only[bne_self_eq_false,An,Lj,h4,A1,Af,Ay j (show j < 4611686018427387904 by omega)];rfl
 | @opn inn i j x h1 h2 h3 h4 ih =>
  intro hi hn n hf
  have hlt:=D0 h1
  obtain⟨n,rfl⟩:∃ j,n=j+4:=⟨n - 4,by omega⟩
  have h6:=ih hlt (by omega) (n+2) (n+2) [] (by omega) (by omega) (by simp)
  have h5:Kv (n+3) l ((i+1:Nat):Int) ((inn+1:Nat):Int)=some ([]++x,(j:Int),0,0):=by rw[Kv];exact h6
  rw[G2,Lj,h1,A1,Af,Aq (by omega),Ay i (by omega),Ay inn (by omega),h5,A1]
  simp only[bne_self_eq_false,An,Lj,h4,A1,A2f (n+1) l j (show l.length < 1000000 by omega)];rfl
theorem Aaf (n:Nat) (l:List Tk) (i:Nat) (a b:Int) (m:Mp):Dd (n+1) 1 [101,108,115,101] l (i:Int) a b m=some (Jz l i):=by
 rw[Dd]
 by_cases h:i < l.length
 ·rw[A6 (by omega),C8 h,A1,A1]
  unfold Jz
  rw[Ax h]
  dsimp only
  cases l[i].A7==1<;>simp
 ·rw[Aq (by omega)]
  unfold Jz
  rw[List.getElem?_eq_none (by omega)]
theorem Ape (n:Nat) {k:Int} (h0:0≤k) (h1:k≤13):∃ w,My (n+2) k=some (if k=0 then(⟨[],[],false,false⟩,false) else(⟨w,C2 k,Db k,k==10⟩,true)):=by
 have c:k=0∨k=1∨k=2∨k=3∨k=4∨k=5∨k=6∨k=7∨k=8∨k=9∨k=10∨k=11∨k=12∨k=13:=by omega
 rcases c with rfl | rfl | rfl | rfl | rfl | rfl | rfl | rfl | rfl | rfl | rfl | rfl | rfl | rfl<;>first | exact⟨[],rfl⟩ | exact⟨_,rfl⟩
theorem Apk {l:List Tk} {n i:Nat} {inn:Int} (hl:l.length < 1000000) (hi:i < l.length) (hk:Av l i=0):Bw (n+5) inn l (i:Int) 0 0 Bz=some ([],(i:Int),5,Bg l i):=by
 have hd:decide ((i:Int) < ((l.length:Nat):Int))=true:=by simpa using hi
 have he:Fj l i=5:=by unfold Fj;rw[if_pos hi]
 obtain⟨w,hof⟩:=Ape (n+2) (k:=0) (by decide) (by decide)
 rw[if_pos rfl] at hof
 have hkk:=hk
 unfold Av at hk
 rw[Ax hi] at hk
 dsimp only at hk
 rw[Bw,hd,Af,C8 hi,A1]
 by_cases h1:l[i].A7=1
 ·rw[if_pos h1] at hk
  have hk:Bf Bz l[i].Ac 0=0:=hk
  rw[h1,beq_self_eq_true,Af,A1,hk,hof,A1,An,Y8 (n+2) l i Bz hl,he];rfl
 ·rw[show(l[i].A7==1)=false by rw[beq_eq_false_iff_ne];exact h1,An,show Pp (n+4)=some ⟨[],[],false,false⟩ from rfl,A1,Y8 (n+2) l i Bz hl,he];rfl
theorem A04 {l:List Tk} {n:Nat} {inn i e a:Int} (m:Mp) (he:e≠0):C3 (n+2) inn l i e a m=some ([],i,e,a):=by
 rw[C3,C5,show(e==0)=false by rw[beq_eq_false_iff_ne];exact he];rfl
theorem Aco {l:List Tk} {n:Nat} {inn i e a:Int} (m:Mp) (he:e≠0):Bu (n+4) inn l i e a m=some ([],i,e,a):=by
 rw[Bu,show(e==0)=false by rw[beq_eq_false_iff_ne];exact he,An,Q5 _ _ _ _ _ _ _ he,A1]
 dsimp only
 rw[A04 m he,A1]
 dsimp only
 rw[Q5 _ _ _ _ _ _ _ he];rfl
noncomputable def Ug (n:Nat) (inn:Int) (l:List Tk) (K P:Int) (o:LR (Int×Int×Int×(List UInt8)×(List UInt8)×(List Nd)×(List Nd)×Bool) A2s):Option A2s:=match o with
 | .out (x73,x74,x75,x76,x77,x78,x79,x80) =>
  bif Db K then((Bu n inn l x73 x74 x75 Bz).bind fun y82 =>
   bif K==10 then(bif y82.2.2.1==0 then((Dd n 1 [101,108,115,101] l y82.2.1 y82.2.2.1 y82.2.2.2 Bz).bind fun y86 =>
    bif y86 then((Bu n inn l (IntKind.i64.wrap (y82.2.1+1)) y82.2.2.1 y82.2.2.2 Bz).bind fun y89 =>
     (bif decide ((([(⟨K,x76,x77,x78,x79,x80,((y82.1.length:Nat):Int),((y89.1.length:Nat):Int),P⟩:St)]:List St).length+y82.1.length)*121≤140737488355328) then(bif decide (((([(⟨K,x76,x77,x78,x79,x80,((y82.1.length:Nat):Int),((y89.1.length:Nat):Int),P⟩:St)]:List St)++y82.1).length+y89.1.length)*121≤140737488355328) then some ((([(⟨K,x76,x77,x78,x79,x80,((y82.1.length:Nat):Int),((y89.1.length:Nat):Int),P⟩:St)]:List St)++y82.1)++y89.1,y89.2.1,y89.2.2.1,y89.2.2.2) else none) else none))
    else(bif decide ((([(⟨K,x76,x77,x78,x79,x80,((y82.1.length:Nat):Int),0,P⟩:St)]:List St).length+y82.1.length)*121≤140737488355328) then(bif decide (((([(⟨K,x76,x77,x78,x79,x80,((y82.1.length:Nat):Int),0,P⟩:St)]:List St)++y82.1).length+0)*121≤140737488355328) then some (([(⟨K,x76,x77,x78,x79,x80,((y82.1.length:Nat):Int),0,P⟩:St)]:List St)++y82.1,y82.2.1,y82.2.2.1,y82.2.2.2) else none) else none))
    else(bif decide ((([(⟨K,x76,x77,x78,x79,x80,((y82.1.length:Nat):Int),0,P⟩:St)]:List St).length+y82.1.length)*121≤140737488355328) then(bif decide (((([(⟨K,x76,x77,x78,x79,x80,((y82.1.length:Nat):Int),0,P⟩:St)]:List St)++y82.1).length+0)*121≤140737488355328) then some (([(⟨K,x76,x77,x78,x79,x80,((y82.1.length:Nat):Int),0,P⟩:St)]:List St)++y82.1,y82.2.1,y82.2.2.1,y82.2.2.2) else none) else none))
   else(bif decide ((([(⟨K,x76,x77,x78,x79,x80,((y82.1.length:Nat):Int),0,P⟩:St)]:List St).length+y82.1.length)*121≤140737488355328) then(bif decide (((([(⟨K,x76,x77,x78,x79,x80,((y82.1.length:Nat):Int),0,P⟩:St)]:List St)++y82.1).length+0)*121≤140737488355328) then some (([(⟨K,x76,x77,x78,x79,x80,((y82.1.length:Nat):Int),0,P⟩:St)]:List St)++y82.1,y82.2.1,y82.2.2.1,y82.2.2.2) else none) else none))
  else some ([(⟨K,x76,x77,x78,x79,x80,0,0,P⟩:St)],x73,x74,x75)
 | .ret v=>some v
theorem Ajy {K:Int} (h:Db K=false):(K==10)=false:=by
 cases hq:K==10 with
 | false=>rfl
 | true=>rw[Db,hq] at h;cases h
theorem T9 {l:List Tk} {n i:Nat} {inn:Int} (hl:l.length < 1000000) (h0:Av l i≠0):∃ (t:Tk) (w:List UInt8),Bw (n+5) inn l (i:Int) 0 0 Bz=(B8 (n+4) l Bz t (⟨w,C2 (Av l i),Db (Av l i),Av l i==10⟩,true) (Bg l i) (n+4) 0 ((i+1:Nat):Int) 0 0 [] [] [] [] false).bind (Ug (n+4) inn l (Av l i) (Bg l i)):=by
 have hi:=C4 h0
 have hd:decide ((i:Int) < ((l.length:Nat):Int))=true:=by simpa using hi
 obtain⟨k0,k1⟩:=A3t l i
 obtain⟨w,hof⟩:=Ape (n+2) k0 k1
 rw[if_neg h0] at hof
 have h1:l[i].A7=1:=by
  by_cases h:l[i].A7=1
  ·exact h
  ·unfold Av at h0;rw[List.getElem?_eq_getElem hi] at h0;dsimp only at h0;rw[if_neg h] at h0;exact absurd rfl h0
 have hm:Bf Bz l[i].Ac 0=Av l i:=by unfold Av;rw[List.getElem?_eq_getElem hi];dsimp only;rw[if_pos h1];rfl
 refine⟨l[i],w,?_⟩
 rw[Bw,hd,Af,C8 hi,A1,h1,beq_self_eq_true,Af,A1,hm,hof,A1]
 dsimp only
 rw[Af,Zb (n+3) l i _ _ _ Bz hl,A1,Ay i (by omega)]
 rw[show Sg (n+4)=fun f=>f (n+3) from rfl]
 dsimp only
 congr 1
 funext o
 cases o with
 | ret v=>rfl
 | out x =>
  obtain⟨x73,x74,x75,x76,x77,x78,x79,x80⟩:=x
  dsimp only [Ug]
  cases hb:Db (Av l i) with
  | true=>rfl
  | false=>rw[Ajy hb];rfl
theorem T7 {T:Nat} {l:List Tk} (hk:Toks T l) {n i:Nat} (hn:12*l.length+T+900≤n) (hi:i≤l.length) (t:Tk) (w:List UInt8) (K P:Int) :
 match Gp l (exQ l) (C2 K) i fs0 with
 | .ok s j=>B8 n l Bz t (⟨w,C2 K,Db K,K==10⟩,true) P n 0 (i:Int) 0 0 [] [] [] [] false=some (.out ((j:Int),0,0,s.reg,s.loc,s.e,s.f,s.ne))
 | .bad e a=>∃ (i':Int) (s:Fs),B8 n l Bz t (⟨w,C2 K,Db K,K==10⟩,true) P n 0 (i:Int) 0 0 [] [] [] [] false=some (.out (i',e,a,s.reg,s.loc,s.e,s.f,s.ne)):=by
 have hf:=A0d K
 exact Af0 hk hn Bz t (⟨w,C2 K,Db K,K==10⟩,true) P (C2 K) [] i n fs0 (by rw[List.nil_append]) hi (by rw[List.nil_append];omega) (by omega)
theorem Nr {l:List Tk} {n k i:Nat} {inn:Int} {out X:List St} {p e a:Int} (h0:i < l.length) (h1:Bj l i [125]=false) (h:Bw (n+1) inn l (i:Int) 0 0 Bz=some (X,p,e,a)) (hs:out.length+X.length < 1000000000) :
 C5 (n+1) (Bw (n+1)) inn l Bz (k+1) (i:Int) 0 0 out=C5 (n+1) (Bw (n+1)) inn l Bz k p e a (out++X):=by
 rw[C5,beq_self_eq_true,Af,A6 (by omega),Wa,h1,A1,An,h,A1]
 dsimp only
 rw[A6 (by omega)]
theorem Wr {l:List Tk} {n k:Nat} {inn p e a:Int} {out:List St} (he:e≠0):C5 n (Bw n) inn l Bz (k+1) p e a out=some (.out (p,e,a,out)):=by
 rw[C5,show(e==0)=false by rw[beq_eq_false_iff_ne];exact he,An]
theorem Asu {T:Nat} {l:List Tk} (hk:Toks T l) {md:Bool} {inn i:Nat} {r:SR} (h:SE l md inn i r):i≤l.length→inn≤30→match md with
 | false=>∀ (n k:Nat) (out:List St),12*l.length+T+900+6*(l.length - i)+20≤n→l.length - i+1 < k→out.length≤i→(match r with
   | .ok x tu=>C5 n (Bw n) (inn:Int) l Bz k (i:Int) 0 0 out=some (.out ((tu:Int),0,0,out++x))
   | .bad e a=>∃ (X:List St) (p:Int),C5 n (Bw n) (inn:Int) l Bz k (i:Int) 0 0 out=some (.out (p,e,a,X))∧X.length≤out.length+2*(l.length - i)+2)
 | true=>∀ n:Nat,12*l.length+T+900+6*(l.length - i)+24≤n→(match r with
   | .ok x tu=>Bu n (inn:Int) l (i:Int) 0 0 Bz=some (x,(tu:Int),0,0)
   | .bad e a=>∃ (X:List St) (p:Int),Bu n (inn:Int) l (i:Int) 0 0 Bz=some (X,p,e,a)∧X.length≤2*(l.length - i)+2):=by
 have hl:=hk.len
 induction h with
 | @stop inn i h1 =>
  intro hi hn n k out hf hkk ho
  obtain⟨k,rfl⟩:∃ j,k=j+1:=⟨k - 1,by omega⟩
  obtain⟨n,rfl⟩:∃ j,n=j+1:=⟨n - 1,by omega⟩
  show C5 _ _ _ _ _ _ _ _ _ _=some (LR.out ((i:Int),0,0,out++[]))
  rw[List.append_nil,C5,beq_self_eq_true,Af]
  by_cases h2:i < l.length
  ·rw[A6 (by omega),Wa,(h1.resolve_left (by omega))];rfl
  ·rw[Aq (by omega)]
 | @no inn i h1 h2 h3 =>
  intro hi hn n k out hf hkk ho
  obtain⟨k,rfl⟩:∃ j,k=j+2:=⟨k - 2,by omega⟩
  obtain⟨n,rfl⟩:∃ j,n=j+5:=⟨n - 5,by omega⟩
  refine⟨out,(i:Int),?_,by omega⟩
  rw[Nr (n:=n+4) h1 h2 (Apk (by omega) h1 h3) (by simp;omega),Wr (by decide),List.append_nil]
 | @fbad inn i e a h1 h2 =>
  intro hi hn n k out hf hkk ho
  obtain⟨k,rfl⟩:∃ j,k=j+2:=⟨k - 2,by omega⟩
  obtain⟨n,rfl⟩:∃ j,n=j+10:=⟨n - 10,by omega⟩
  have hlt:=C4 h1
  have hne:e≠0:=by
   have:=Xk hk (C2 (Av l i)) (i+1) fs0 hlt
   rw[h2] at this;exact this
  have hb:(e==0)=false:=by rw[beq_eq_false_iff_ne];exact hne
  obtain⟨t,w,ho1⟩:=T9 (n:=n+5) (inn:=(inn:Int)) (show l.length < 1000000 by omega) h1
  have hx:=T7 hk (n:=n+9) (by omega) hlt t w (Av l i) (Bg l i)
  rw[h2] at hx
  obtain⟨i',s,hx⟩:=hx
  have h5:Bw (n+10) (inn:Int) l (i:Int) 0 0 Bz=some ([⟨Av l i,s.reg,s.loc,s.e,s.f,s.ne,0,0,Bg l i⟩],i',e,a):=by
   rw[ho1,hx,A1]
   dsimp only [Ug]
   rw[Aco Bz hne]
   cases Db (Av l i)<;>cases (Av l i==10)<;>simp[hb]
  refine⟨out++[⟨Av l i,s.reg,s.loc,s.e,s.f,s.ne,0,0,Bg l i⟩],i',?_,?_⟩
  ·rw[Nr (n:=n+9) hlt (M1 h1 _) h5 (by simp;omega),Wr hne]
  ·simp;omega
 | @simple inn i j s r h1 h2 h3 h4 ih =>
  intro hi hn n k out hf hkk ho
  obtain⟨k,rfl⟩:∃ j,k=j+1:=⟨k - 1,by omega⟩
  have h5:=F4 hk (C4 h1) h3
  have hlt:=C4 h1
  have h6:=ih h5.2 hn n k (out++[mkS (Av l i) s 0 0 (Bg l i)]) (by omega) (by omega) (by simp;omega)
  obtain⟨n,rfl⟩:∃ j,n=j+10:=⟨n - 10,by omega⟩
  obtain⟨t,w,ho1⟩:=T9 (n:=n+5) (inn:=(inn:Int)) (show l.length < 1000000 by omega) h1
  have hx:=T7 hk (n:=n+9) (by omega) hlt t w (Av l i) (Bg l i)
  rw[h3] at hx
  have hx:B8 (n+9) l Bz t _ (Bg l i) (n+9) 0 ((i+1:Nat):Int) 0 0 [] [] [] [] false=_:=hx
  have h7:Bw (n+10) (inn:Int) l (i:Int) 0 0 Bz=some ([mkS (Av l i) s 0 0 (Bg l i)],(j:Int),0,0):=by
   rw[ho1,hx,A1]
   dsimp only [Ug]
   rw[h2];rfl
  rw[Nr (n:=n+9) hlt (M1 h1 _) h7 (by simp;omega)]
  cases r with
  | ok x tu=>dsimp only [Qw] at h6 ⊢;rw[h6,List.append_assoc]
  | bad e a =>
   obtain⟨X,p,g1,g2⟩:=h6
   exact⟨X,p,g1,by simp at g2;omega⟩
 | @bbad inn i j s e a h1 h2 h3 h4 ih =>
  intro hi hn n k out hf hkk ho
  obtain⟨k,rfl⟩:∃ j,k=j+2:=⟨k - 2,by omega⟩
  have h5:=F4 hk (C4 h1) h3
  have hlt:=C4 h1
  have hne:e≠0:=Hy hk h4 h5.2
  have hb:(e==0)=false:=by rw[beq_eq_false_iff_ne];exact hne
  obtain⟨n,rfl⟩:∃ j,n=j+10:=⟨n - 10,by omega⟩
  obtain⟨X,p,g1,g2⟩:=ih h5.2 hn (n+9) (by omega)
  obtain⟨t,w,ho1⟩:=T9 (n:=n+5) (inn:=(inn:Int)) (show l.length < 1000000 by omega) h1
  have hx:=T7 hk (n:=n+9) (by omega) hlt t w (Av l i) (Bg l i)
  rw[h3] at hx
  have hx:B8 (n+9) l Bz t _ (Bg l i) (n+9) 0 ((i+1:Nat):Int) 0 0 [] [] [] [] false=_:=hx
  have h7:Bw (n+10) (inn:Int) l (i:Int) 0 0 Bz=some (mkS (Av l i) s X.length 0 (Bg l i) :: X,p,e,a):=by
   rw[ho1,hx,A1]
   dsimp only [Ug]
   rw[h2,Af,g1,A1]
   dsimp only
   rw[hb,An,A6 (by simp;omega),A6 (by simp;omega)]
   cases (Av l i==10)<;>rfl
  refine⟨out++(mkS (Av l i) s X.length 0 (Bg l i) :: X),p,?_,?_⟩
  ·rw[Nr (n:=n+9) hlt (M1 h1 _) h7 (by simp;omega),Wr hne]
  ·simp;omega
 | @blk inn i j j2 s b r h1 h2 h3 h4 h5 h6 ih1 ih2 =>
  intro hi hn n k out hf hkk ho
  obtain⟨k,rfl⟩:∃ j,k=j+1:=⟨k - 1,by omega⟩
  have h7:=F4 hk (C4 h1) h3
  have hlt:=C4 h1
  have h8:=Hy hk h4 h7.2
  simp only[Js,if_true] at h8
  have h10:=ih2 h8.2.1 hn n k (out++(mkS (Av l i) s b.length 0 (Bg l i) :: b)) (by omega) (by omega) (by simp;omega)
  obtain⟨n,rfl⟩:∃ j,n=j+10:=⟨n - 10,by omega⟩
  have g1:Bu (n+9) (inn:Int) l (j:Int) 0 0 Bz=some (b,(j2:Int),0,0):=ih1 h7.2 hn (n+9) (by omega)
  obtain⟨t,w,ho1⟩:=T9 (n:=n+5) (inn:=(inn:Int)) (show l.length < 1000000 by omega) h1
  have hx:=T7 hk (n:=n+9) (by omega) hlt t w (Av l i) (Bg l i)
  rw[h3] at hx
  have hx:B8 (n+9) l Bz t _ (Bg l i) (n+9) 0 ((i+1:Nat):Int) 0 0 [] [] [] [] false=_:=hx
  have hel:(Av l i==10)=true→Jz l j2=false:=fun h=>h5 (by simpa using h)
  have h9:Bw (n+10) (inn:Int) l (i:Int) 0 0 Bz=some (mkS (Av l i) s b.length 0 (Bg l i) :: b,(j2:Int),0,0):=by
   rw[ho1,hx,A1]
   dsimp only [Ug]
   rw[h2,Af,g1,A1]
   dsimp only
   rw[beq_self_eq_true,Af,Aaf,A1,A6 (by simp;omega),A6 (by simp;omega)]
   cases hq:Av l i==10 with
   | true=>rw[hel hq];rfl
   | false=>rfl
  rw[Nr (n:=n+9) hlt (M1 h1 _) h9 (by simp;omega)]
  cases r with
  | ok x tu=>dsimp only [Qw] at h10 ⊢;rw[h10,List.append_assoc]
  | bad e a =>
   obtain⟨X,p,q1,q2⟩:=h10
   exact⟨X,p,q1,by simp at q2;omega⟩
 | @ebad inn i j j2 s b e a h1 h3 h4 h5 h6 ih1 ih2 =>
  intro hi hn n k out hf hkk ho
  obtain⟨k,rfl⟩:∃ j,k=j+2:=⟨k - 2,by omega⟩
  have h0:Av l i≠0:=by omega
  have h7:=F4 hk (C4 h0) h3
  have hlt:=C4 h0
  have hj:=Jh h5
  have h8:=Hy hk h4 h7.2
  simp only[Js,if_true] at h8
  have hne:e≠0:=Hy hk h6 hj
  have hbl:Db (Av l i)=true:=by rw[h1];rfl
  have hq:(Av l i==10)=true:=by rw[h1];rfl
  obtain⟨n,rfl⟩:∃ j,n=j+10:=⟨n - 10,by omega⟩
  have g1:Bu (n+9) (inn:Int) l (j:Int) 0 0 Bz=some (b,(j2:Int),0,0):=ih1 h7.2 hn (n+9) (by omega)
  obtain⟨X,p,g3,g4⟩:=ih2 hj hn (n+9) (by omega)
  obtain⟨t,w,ho1⟩:=T9 (n:=n+5) (inn:=(inn:Int)) (show l.length < 1000000 by omega) h0
  have hx:=T7 hk (n:=n+9) (by omega) hlt t w (Av l i) (Bg l i)
  rw[h3] at hx
  have hx:B8 (n+9) l Bz t _ (Bg l i) (n+9) 0 ((i+1:Nat):Int) 0 0 [] [] [] [] false=_:=hx
  have h9:Bw (n+10) (inn:Int) l (i:Int) 0 0 Bz=some (mkS (Av l i) s b.length X.length (Bg l i) :: (b++X),p,e,a):=by
   rw[ho1,hx,A1]
   dsimp only [Ug]
   rw[hbl,Af,g1,A1]
   dsimp only
   rw[hq,Af,beq_self_eq_true,Af,Aaf,h5,A1,Af,Ay j2 (by omega),g3,A1]
   dsimp only
   rw[A6 (by simp;omega),A6 (by simp;omega)];rfl
  refine⟨out++(mkS (Av l i) s b.length X.length (Bg l i) :: (b++X)),p,?_,?_⟩
  ·rw[Nr (n:=n+9) hlt (M1 h0 _) h9 (by simp;omega),Wr hne]
  ·simp;omega
 | @els inn i j j2 j3 s b c r h1 h3 h4 h5 h6 h7 ih1 ih2 ih3 =>
  intro hi hn n k out hf hkk ho
  obtain⟨k,rfl⟩:∃ j,k=j+1:=⟨k - 1,by omega⟩
  have h0:Av l i≠0:=by omega
  have h8:=F4 hk (C4 h0) h3
  have hlt:=C4 h0
  have hj:=Jh h5
  have h9:=Hy hk h4 h8.2
  simp only[Js,if_true] at h9
  have h9':=Hy hk h6 hj
  simp only[Js,if_true] at h9'
  have h12:=ih3 h9'.2.1 hn n k (out++(mkS (Av l i) s b.length c.length (Bg l i) :: (b++c))) (by omega) (by omega) (by simp;omega)
  have hbl:Db (Av l i)=true:=by rw[h1];rfl
  have hq:(Av l i==10)=true:=by rw[h1];rfl
  obtain⟨n,rfl⟩:∃ j,n=j+10:=⟨n - 10,by omega⟩
  have g1:Bu (n+9) (inn:Int) l (j:Int) 0 0 Bz=some (b,(j2:Int),0,0):=ih1 h8.2 hn (n+9) (by omega)
  have g3:Bu (n+9) (inn:Int) l ((j2+1:Nat):Int) 0 0 Bz=some (c,(j3:Int),0,0):=ih2 hj hn (n+9) (by omega)
  obtain⟨t,w,ho1⟩:=T9 (n:=n+5) (inn:=(inn:Int)) (show l.length < 1000000 by omega) h0
  have hx:=T7 hk (n:=n+9) (by omega) hlt t w (Av l i) (Bg l i)
  rw[h3] at hx
  have hx:B8 (n+9) l Bz t _ (Bg l i) (n+9) 0 ((i+1:Nat):Int) 0 0 [] [] [] [] false=_:=hx
  have h10:Bw (n+10) (inn:Int) l (i:Int) 0 0 Bz=some (mkS (Av l i) s b.length c.length (Bg l i) :: (b++c),(j3:Int),0,0):=by
   rw[ho1,hx,A1]
   dsimp only [Ug]
   rw[hbl,Af,g1,A1]
   dsimp only
   rw[hq,Af,beq_self_eq_true,Af,Aaf,h5,A1,Af,Ay j2 (by omega),g3,A1]
   dsimp only
   rw[A6 (by simp;omega),A6 (by simp;omega)];rfl
  rw[Nr (n:=n+9) hlt (M1 h0 _) h10 (by simp;omega)]
  cases r with
  | ok x tu=>dsimp only [Qw] at h12 ⊢;rw[h12,List.append_assoc]
  | bad e a =>
   obtain⟨X,p,q1,q2⟩:=h12
   exact⟨X,p,q1,by simp at q2;omega⟩
 | @nob inn i h1 =>
  intro hi hn n hf
  obtain⟨n,rfl⟩:∃ j,n=j+6:=⟨n - 6,by omega⟩
  refine⟨[],(i:Int),?_,by simp⟩
  have hs:Bl (n+5) [123] l (i:Int) 0 0 Bz=some ((i:Int),Fj l i,Bg l i):=by rw[S6 (n+2) _ l i Bz (by omega),if_neg (by rw[h1];decide)]
  rw[Bu,beq_self_eq_true,Af,Wa,h1,A1,An,hs,A1]
  dsimp only
  rw[A04 Bz (Sv l i),A1]
  dsimp only
  rw[Q5 _ _ _ _ _ _ _ (Sv l i)];rfl
 | @deep inn i h1 h2 =>
  intro hi hn n hf
  obtain⟨n,rfl⟩:∃ j,n=j+6:=⟨n - 6,by omega⟩
  refine⟨[],(i:Int),?_,by simp⟩
  have h7:(7:Int)≠0:=by decide
  rw[Bu,beq_self_eq_true,Af,Wa,h1,A1,Af,A6 (by omega),Zb (n+4) l i _ _ _ Bz (by omega),A1,Q5 _ _ _ _ _ _ _ h7,A1]
  dsimp only
  rw[A04 Bz h7,A1]
  dsimp only
  rw[Q5 _ _ _ _ _ _ _ h7];rfl
 | @sbad inn i e a h1 h2 h3 ih =>
  intro hi hn n hf
  have hlt:=D0 h1
  obtain⟨n,rfl⟩:∃ j,n=j+6:=⟨n - 6,by omega⟩
  have hne:e≠0:=Hy hk h3 hlt
  have hs:Bl (n+5) [123] l (i:Int) 0 0 Bz=some (((i+1:Nat):Int),0,0):=by rw[S6 (n+2) _ l i Bz (by omega),if_pos h1]
  obtain⟨X,p,g1,g2⟩:=ih hlt (by omega) (n+4) (n+4) [] (by omega) (by omega) (by simp)
  have h5:C3 (n+5) ((inn+1:Nat):Int) l ((i+1:Nat):Int) 0 0 Bz=some (X,p,e,a):=by rw[C3,g1];rfl
  refine⟨X,p,?_,by simp at g2;omega⟩
  rw[Bu,beq_self_eq_true,Af,Wa,h1,A1,Af,Aq (by omega),hs,A1]
  dsimp only
  rw[Ay inn (by omega),h5,A1]
  dsimp only
  rw[Q5 _ _ _ _ _ _ _ hne];rfl
 | @close inn i j x h1 h2 h3 h4 ih =>
  intro hi hn n hf
  have hlt:=D0 h1
  obtain⟨n,rfl⟩:∃ j,n=j+6:=⟨n - 6,by omega⟩
  have hs:Bl (n+5) [123] l (i:Int) 0 0 Bz=some (((i+1:Nat):Int),0,0):=by rw[S6 (n+2) _ l i Bz (by omega),if_pos h1]
  have hs2:Bl (n+5) [125] l (j:Int) 0 0 Bz=some (((j+1:Nat):Int),0,0):=by rw[S6 (n+2) _ l j Bz (by omega),if_pos h4]
  have g1:=ih hlt (by omega) (n+4) (n+4) [] (by omega) (by omega) (by simp)
  dsimp only at g1
  have h5:C3 (n+5) ((inn+1:Nat):Int) l ((i+1:Nat):Int) 0 0 Bz=some (x,(j:Int),0,0):=by rw[C3,g1];rfl
  show Bu (n+6) _ _ _ _ _ _=_
  rw[Bu,beq_self_eq_true,Af,Wa,h1,A1,Af,Aq (by omega),hs,A1]
  dsimp only
  rw[Ay inn (by omega),h5,A1]
  dsimp only
  rw[hs2];rfl
 | @opn inn i j x h1 h2 h3 h4 ih =>
  intro hi hn n hf
  have hlt:=D0 h1
  have h8:=Hy hk h3 hlt
  simp only[Js,Bool.false_eq_true,if_false] at h8
  obtain⟨n,rfl⟩:∃ j,n=j+6:=⟨n - 6,by omega⟩
  have hs:Bl (n+5) [123] l (i:Int) 0 0 Bz=some (((i+1:Nat):Int),0,0):=by rw[S6 (n+2) _ l i Bz (by omega),if_pos h1]
  have hs2:Bl (n+5) [125] l (j:Int) 0 0 Bz=some ((j:Int),Fj l j,Bg l j):=by rw[S6 (n+2) _ l j Bz (by omega),if_neg (by rw[h4];decide)]
  have g1:=ih hlt (by omega) (n+4) (n+4) [] (by omega) (by omega) (by simp)
  dsimp only at g1
  have h5:C3 (n+5) ((inn+1:Nat):Int) l ((i+1:Nat):Int) 0 0 Bz=some (x,(j:Int),0,0):=by rw[C3,g1];rfl
  refine⟨x,(j:Int),?_,by omega⟩
  rw[Bu,beq_self_eq_true,Af,Wa,h1,A1,Af,Aq (by omega),hs,A1]
  dsimp only
  rw[Ay inn (by omega),h5,A1]
  dsimp only
  rw[hs2];rfl
theorem Afk {T:Nat} {l:List Tk} (hk:Toks T l):∀ (m i inn:Nat) (md:Bool),l.length - i≤m→i≤l.length→inn≤30→∃ r,SE l md inn i r:=by
 intro m
 induction m with
 | zero =>
  intro i inn md hm hi hn
  have hs:∀ s,Bj l i s=false:=fun s=>by
   cases h:Bj l i s with
   | false=>rfl
   | true=>have:=D0 h;omega
  cases md with
  | false=>exact⟨_,.stop (.inl (by omega))⟩
  | true=>exact⟨_,.nob (hs _)⟩
 | succ m ih =>
  intro i inn md hm hi hn
  cases md with
  | true =>
   cases h:Bj l i [123] with
   | false=>exact⟨_,.nob h⟩
   | true =>
    by_cases h30:30≤inn
    ·exact⟨_,.deep h h30⟩
    ·have hlt:=D0 h
     obtain⟨r,hr⟩:=ih (i+1) (inn+1) false (by omega) hlt (by omega)
     cases r with
     | bad e a=>exact⟨_,.sbad h (by omega) hr⟩
     | ok x j =>
      cases h2:Bj l j [125] with
      | true=>exact⟨_,.close h (by omega) hr h2⟩
      | false=>exact⟨_,.opn h (by omega) hr h2⟩
  | false =>
   by_cases hlt:i < l.length
   ·cases h:Bj l i [125] with
    | true=>exact⟨_,.stop (.inr h)⟩
    | false =>
     by_cases h0:Av l i=0
     ·exact⟨_,.no hlt h h0⟩
     ·cases hf:Gp l (exQ l) (C2 (Av l i)) (i+1) fs0 with
      | bad e a=>exact⟨_,.fbad h0 hf⟩
      | ok s j =>
       have hj:=F4 hk (by omega) hf
       cases hb:Db (Av l i) with
       | false =>
        obtain⟨r,hr⟩:=ih j inn false (by omega) hj.2 hn
        exact⟨_,.simple h0 hb hf hr⟩
       | true =>
        obtain⟨r,hr⟩:=ih j inn true (by omega) hj.2 hn
        cases r with
        | bad e a=>exact⟨_,.bbad h0 hb hf hr⟩
        | ok b j2 =>
         have hj2:=Hy hk hr hj.2
         simp only[Js,if_true] at hj2
         by_cases he:Av l i=10∧Jz l j2=true
         ·have hj3:=Jh he.2
          obtain⟨r3,hr3⟩:=ih (j2+1) inn true (by omega) hj3 hn
          cases r3 with
          | bad e a=>exact⟨_,.ebad he.1 hf hr he.2 hr3⟩
          | ok c j4 =>
           have hj4:=Hy hk hr3 hj3
           simp only[Js,if_true] at hj4
           obtain⟨r5,hr5⟩:=ih j4 inn false (by omega) hj4.2.1 hn
           exact⟨_,.els he.1 hf hr he.2 hr3 hr5⟩
         ·obtain⟨r5,hr5⟩:=ih j2 inn false (by omega) hj2.2.1 hn
          refine⟨_,.blk h0 hb hf hr (fun hq=>?_) hr5⟩
          cases hx:Jz l j2 with
          | false=>rfl
          | true=>exact absurd ⟨hq,hx⟩ he
   ·exact⟨_,.stop (.inl (by omega))⟩
def A3z:List Bn:=match J9 1 with | some y=>y | none=>[]
theorem Aj0 (n k:Nat):J1 n A3z (k+15) 0 []=some (.out Bz):=by rfl
def Sc (l:List Tk) (i:Nat):SR→A2s
 | .bad e a=>([],0,e,a)
 | .ok x tu=>if 200 < x.length then([],0,2,Bg l i) else(x,(tu:Int),0,0)
theorem A2e (s:List UInt8) (hs:s.length≤90000):Toks s.length (Qx s):=by
 obtain⟨h1,h2⟩:=Wb s
 refine⟨by omega,fun t ht=>(h1 t ht).1,fun t ht=>?_,by omega⟩
 have h3:=h1 t ht
 have h4:=h3.1.1
 omega
inductive SF where
 | nil
 | cons (x:St) (a b r:SF)
def SF.flat:SF→List St
 | .nil=>[]
 | .cons x a b r=>x :: (a.flat++(b.flat++r.flat))
def SF.wf:SF→Prop
 | .nil=>True
 | .cons x a b r=>x.B5=(a.flat.length:Int)∧x.Ch=(b.flat.length:Int)∧a.wf∧b.wf∧r.wf
def SF.dep:SF→Nat
 | .nil=>0
 | .cons x a b r=>max (if Db x.A7 then max (1+a.dep) (1+b.dep) else 0) r.dep
def dF:Nat→List St→Option Nat
 | 0,_=>none
 | _+1,[]=>some 0
 | m+1,x :: t=>if 0≤x.B5∧0≤x.Ch∧x.B5+x.Ch≤(t.length:Int) then
    (dF m (t.take x.B5.toNat)).bind fun p=>(dF m ((t.drop x.B5.toNat).take x.Ch.toNat)).bind fun q=>(dF m (t.drop (x.B5.toNat+x.Ch.toNat))).bind fun z=>some (max (if Db x.A7 then max (1+p) (1+q) else 0) z)
  else none
theorem Vx:∀ (F:SF) (m:Nat),F.wf→F.flat.length < m→dF m F.flat=some F.dep
 | .nil,m,_,h=>by
  obtain⟨m,rfl⟩:∃ j,m=j+1:=⟨m - 1,by omega⟩
  rfl
 | .cons x a b r,m,h,hm=>by
  obtain⟨m,rfl⟩:∃ j,m=j+1:=⟨m - 1,by omega⟩
  obtain⟨h1,h2,ha,hb,hr⟩:=h
  rw[SF.flat] at hm ⊢
  simp only[List.length_cons,List.length_append] at hm
  rw[dF,if_pos ⟨by omega,by omega,by rw[h1,h2];simp only[List.length_append];omega⟩,h1,h2]
  have e1:(a.flat++(b.flat++r.flat)).take ((a.flat.length:Nat):Int).toNat=a.flat:=by simp
  have e2:(a.flat++(b.flat++r.flat)).drop ((a.flat.length:Nat):Int).toNat=b.flat++r.flat:=by simp
  have e3:(b.flat++r.flat).take ((b.flat.length:Nat):Int).toNat=b.flat:=by simp
  have e4:(a.flat++(b.flat++r.flat)).drop (((a.flat.length:Nat):Int).toNat+((b.flat.length:Nat):Int).toNat)=r.flat:=by
   rw[← List.drop_drop,e2];simp
  rw[e1,e2,e3,e4,Vx a m ha (by omega),Vx b m hb (by omega),Vx r m hr (by omega)]
  rfl
theorem Aup:∀ (m:Nat) (l:List St) (z:Nat),dF m l=some z→∃ F:SF,F.wf∧F.flat=l∧F.dep=z:=by
 intro m
 induction m with
 | zero=>intro l z h;cases h
 | succ m ih =>
  intro l z h
  cases l with
  | nil=>rw[dF] at h;cases h;exact⟨.nil,trivial,rfl,rfl⟩
  | cons x t =>
   rw[dF] at h
   by_cases c:0≤x.B5∧0≤x.Ch∧x.B5+x.Ch≤(t.length:Int)
   ·rw[if_pos c] at h
    obtain⟨p,h1,h⟩:=Option.bind_eq_some_iff.1 h
    obtain⟨q,h2,h⟩:=Option.bind_eq_some_iff.1 h
    obtain⟨r,h3,h⟩:=Option.bind_eq_some_iff.1 h
    obtain⟨A,a1,a2,a3⟩:=ih _ _ h1
    obtain⟨B,b1,b2,b3⟩:=ih _ _ h2
    obtain⟨R,r1,r2,r3⟩:=ih _ _ h3
    have hA:A.flat.length=x.B5.toNat:=by rw[a2,List.length_take];omega
    have hB:B.flat.length=x.Ch.toNat:=by rw[b2,List.length_take,List.length_drop];omega
    refine⟨.cons x A B R,⟨by omega,by omega,a1,b1,r1⟩,?_,?_⟩
    ·rw[SF.flat,a2,b2,r2,← List.drop_drop,List.take_append_drop,List.take_append_drop]
    ·rw[SF.dep,a3,b3,r3];exact Option.some.inj h
   ·rw[if_neg c] at h;cases h
def Jb (f:List UInt8) (c:Int):Bool:=f.any fun b=>(b.toNat:Int)==c
def fN (f:List UInt8) (c:Int) (s:List UInt8):Bool:=if Jb f c then Cp s else s==[]
def fL (f:List UInt8) (c:Int) (l:List Nd):Bool:=if Jb f c then N9 l&&Ep l else(l.length:Int)==0
def Fo (x:St):Bool:=decide (1≤x.A7∧x.A7≤13)&&(!decide (x.Ab < 0)&&((!x.Br || Jb (C2 x.A7) 113)&&(fN (C2 x.A7) 114 x.Bd&&(fN (C2 x.A7) 108 x.Be&&(fL (C2 x.A7) 101 x.Bm&&(fL (C2 x.A7) 102 x.C6&&((Db x.A7 || x.B5==0)&&(x.A7==10 || x.Ch==0))))))))
def No (l:List St):Bool:=match dF (l.length+1) l with
 | some z=>!decide (30 < z)&&(!decide (200 < l.length)&&l.all Fo)
 | none=>false
theorem Z9 {l:List St} (h:No l=true):∃ F:SF,F.wf∧F.flat=l∧F.dep≤30∧l.length≤200∧∀ x ∈ l,Fo x=true:=by
 unfold No at h
 cases hd:dF (l.length+1) l with
 | none=>rw[hd] at h;cases h
 | some z =>
  rw[hd] at h
  simp only[Ah,Bool.not_eq_true',decide_eq_false_iff_not,List.all_eq_true] at h
  obtain⟨F,f1,f2,f3⟩:=Aup _ _ _ hd
  exact⟨F,f1,f2,by omega,by omega,h.2.2⟩
theorem Aad {F:SF} (h:F.wf) (hd:F.dep≤30) (hl:F.flat.length≤200) (hx:∀ x ∈ F.flat,Fo x=true):No F.flat=true:=by
 unfold No
 rw[Vx F _ h (by omega)]
 simp only[Ah,Bool.not_eq_true',decide_eq_false_iff_not,List.all_eq_true]
 exact⟨by omega,by omega,hx⟩
def Vf:List UInt8:=[114,108,101,102,113,61,59,44]
theorem Um (k:Int):∀ c ∈ C2 k,c ∈ Vf:=by
 unfold C2;repeat' split
 all_goals decide
theorem Rs {f:List UInt8} {c:UInt8} (h:c ∈ f):Jb f (c.toNat:Int)=true:=by
 unfold Jb;exact List.any_eq_true.2 ⟨c,h,by simp⟩
def SameX (x y:List Nd):Prop:=x.map Cy=y.map Cy∧(∀ z ∈ x,z.B3≠3)∧∀ z ∈ y,z.B3≠3
structure SameS (x y:St):Prop where
 k:x.A7=y.A7
 r:x.Bd=y.Bd
 l:x.Be=y.Be
 n:x.Br=y.Br
 b:x.B5=y.B5
 c:x.Ch=y.Ch
 e:SameX x.Bm y.Bm
 f:SameX x.C6 y.C6
def All2:List St→List St→Prop
 | [],[]=>True
 | x :: l,y :: m=>SameS x y∧All2 l m
 | _,_=>False
theorem All2.len:∀ {l m:List St},All2 l m→l.length=m.length
 | [],[],_=>rfl
 | _ :: l,_ :: m,h=>by simp[All2.len h.2]
 | [],_ :: _,h=>h.elim
 | _ :: _,[],h=>h.elim
theorem All2.get:∀ {l m:List St},All2 l m→∀ (i:Nat) x y,l[i]?=some x→m[i]?=some y→SameS x y
 | [],[],_,i,x,y,h,_=>by simp at h
 | a :: l,b :: m,h,0,x,y,h1,h2=>by
  simp only[List.getElem?_cons_zero,Option.some.injEq] at h1 h2
  subst h1;subst h2;exact h.1
 | a :: l,b :: m,h,i+1,x,y,h1,h2=>by
  simp only[List.getElem?_cons_succ] at h1 h2
  exact All2.get h.2 i x y h1 h2
 | [],_ :: _,h,_,_,_,_,_=>h.elim
 | _ :: _,[],h,_,_,_,_,_=>h.elim
theorem Se {f:List UInt8} {c:UInt8} (h:c ∉ f):Jb f (c.toNat:Int)=false:=by
 unfold Jb
 refine List.any_eq_false.2 fun b hb e=>h ?_
 rw[beq_iff_eq] at e
 have:b=c:=UInt8.toNat_inj.1 (by omega)
 rw[← this];exact hb
theorem A8y {T:Nat} {l:List Tk} (hk:Toks T l) {n i:Nat} {r:SR} (hr:SE l false 0 i r) (hi:i≤l.length) (hn:12*l.length+T+900+6*l.length+60≤n):Ic n l (i:Int)=some (Sc l i r):=by
 have hl:=hk.len
 obtain⟨n,rfl⟩:∃ j,n=j+20:=⟨n - 20,by omega⟩
 have h:=Asu hk hr hi (by omega) (n+18) (n+18) [] (by omega) (by omega) (by simp)
 rw[Ic,Aq (by omega),Aq (by omega),show J9 (n+19)=some A3z from rfl,A1,Aj0 (n+19) (n+4),A1]
 dsimp only
 cases r with
 | bad e a =>
  have hne:e≠0:=Hy hk hr hi
  obtain⟨X,p,g1,g2⟩:=h
  have g3:C3 (n+19) 0 l (i:Int) 0 0 Bz=some (X,p,e,a):=by
   rw[C3]
   have g1:C5 (n+18) (Bw (n+18)) 0 l Bz (n+18) (i:Int) 0 0 []=_:=g1
   rw[g1];rfl
  rw[g3,A1]
  dsimp only
  rw[show(e != 0)=true by rw[bne_iff_ne];exact hne,Af];rfl
 | ok x tu =>
  have g3:C3 (n+19) 0 l (i:Int) 0 0 Bz=some (x,(tu:Int),0,0):=by
   rw[C3]
   have g1:C5 (n+18) (Bw (n+18)) 0 l Bz (n+18) (i:Int) 0 0 []=_:=h
   rw[g1];rfl
  rw[g3,A1]
  dsimp only
  rw[bne_self_eq_false,An]
  simp only[Sc]
  by_cases c:200 < x.length
  ·rw[if_pos c,A6 (by omega),Zb (n+18) l i _ _ _ Bz (by omega)];rfl
  ·rw[if_neg c,Aq (by omega)]
theorem SameX.symm {x y:List Nd} (h:SameX x y):SameX y x:=⟨h.1.symm,h.2.2,h.2.1⟩
theorem SameS.symm {x y:St} (h:SameS x y):SameS y x:=⟨h.k.symm,h.r.symm,h.l.symm,h.n.symm,h.b.symm,h.c.symm,h.e.symm,h.f.symm⟩
theorem All2.symm:∀ {l m:List St},All2 l m→All2 m l
 | [],[],_=>trivial
 | _ :: l,_ :: m,h=>⟨h.1.symm,All2.symm h.2⟩
 | [],_ :: _,h=>h.elim
 | _ :: _,[],h=>h.elim
theorem A7c {T:Nat} {l:List Tk} (hk:Toks T l) {i tu:Nat} {x:List Nd} (hi:i≤l.length) (h:exQ l i=.ok x tu):(N9 x&&Ep x)=true:=by
 obtain⟨r,hr,e⟩:=Vp hk hi
 rw[h] at e
 cases r with
 | bad e' a=>simp only[M2] at e;cases e
 | ok y tv =>
  simp only[M2] at e
  split at e
  ·cases e
  ·split at e
   ·cases e
   ·split at e
    ·rename_i c1 c2 c3
     cases e
     have hg:=Xn hk.ok hr
     dsimp only at hg
     obtain⟨t,_,_,_,_,h5⟩:=W6 hg (by omega) (by omega)
     rw[c3,h5];rfl
    ·cases e
theorem A98 {B T:Nat} {l:List Tk} (hk:Toks T l) (hB:B < 1000000) (h:∀ t ∈ l,Sb t∧t.Ab+t.Ac.length≤B) {i:Nat} {e a:Int} (hi:i≤l.length) (hx:exQ l i=.bad e a):0≤a∧a≤B:=by
 obtain⟨r,hr,e'⟩:=Vp hk hi
 rw[hx] at e'
 cases r with
 | bad e2 a2=>simp only[M2] at e';cases e';exact A41 hB h hr
 | ok y tv =>
  have hp:=Jj hB h i
  simp only[M2] at e'
  split at e'
  ·cases e';exact hp
  ·split at e'
   ·cases e';exact hp
   ·split at e'
    ·cases e'
    ·cases e';exact hp
structure Z1 (cs:List UInt8) (s s':Fs):Prop where
 r:if 114 ∈ cs then Cp s'.reg=true else s'.reg=s.reg
 l:if 108 ∈ cs then Cp s'.loc=true else s'.loc=s.loc
 e:if 101 ∈ cs then(N9 s'.e&&Ep s'.e)=true else s'.e=s.e
 f:if 102 ∈ cs then(N9 s'.f&&Ep s'.f)=true else s'.f=s.f
 n:113 ∉ cs→s'.ne=s.ne
theorem Td {l:List Tk} {i:Nat} (h:isN l i=true):Cp (txt l i)=true:=by
 unfold isN at h
 cases hg:l[i]? with
 | none=>rw[hg] at h;cases h
 | some t=>rw[hg] at h;simp only[Ah] at h;simp[txt,hg,h.2]
theorem Add {T:Nat} {l:List Tk} (hk:Toks T l):∀ (cs:List UInt8) (i j:Nat) (s s':Fs),i≤l.length→(∀ c ∈ cs,c ∈ Vf)→Gp l (exQ l) cs i s=.ok s' j→Z1 cs s s':=by
 intro cs
 induction cs with
 | nil =>
  intro i j s s' hi _ h
  rw[Gp] at h;cases h
  exact⟨by simp,by simp,by simp,by simp,by simp⟩
 | cons c cs ih =>
  intro i j s s' hi hc h
  have hok:=Wt hk (c:=c) (s:=s) hi
  have hcc:=hc c (List.mem_cons_self ..)
  rw[Gp] at h
  have go:∀ s1 j1,Hg l (exQ l) c i s=.ok s1 j1→Z1 cs s1 s':=by
   intro s1 j1 h1
   rw[h1] at h hok
   exact ih j1 j s1 s' hok.2 (fun d hd=>hc d (List.mem_cons_of_mem _ hd)) h
  have nb:∀ e a,Hg l (exQ l) c i s≠.bad e a:=by
   intro e a h1;rw[h1] at h;cases h
  simp only[Vf,List.mem_cons,List.not_mem_nil,or_false] at hcc
  rcases hcc with rfl | rfl | rfl | rfl | rfl | rfl | rfl | rfl
  ·have e:Hg l (exQ l) 114 i s=if isN l i=true then .ok { s with reg:=txt l i } (i+1) else .bad (Fj l i) (Bg l i):=rfl
   by_cases hn:isN l i=true
   ·rw[if_pos hn] at e
    have g:=go _ _ e
    refine⟨?_,?_,?_,?_,fun hm=>?_⟩
    ·have:=g.r;rw[if_pos (List.mem_cons_self ..)]
     split at this
     ·exact this
     ·rw[this];exact Td hn
    ·have:=g.l;simpa using this
    ·have:=g.e;simpa using this
    ·have:=g.f;simpa using this
    ·rw[g.n fun h=>hm (List.mem_cons_of_mem _ h)]
   ·rw[if_neg hn] at e;exact absurd e (nb _ _)
  ·have e:Hg l (exQ l) 108 i s=if isN l i=true then .ok { s with loc:=txt l i } (i+1) else .bad (Fj l i) (Bg l i):=rfl
   by_cases hn:isN l i=true
   ·rw[if_pos hn] at e
    have g:=go _ _ e
    refine⟨?_,?_,?_,?_,fun hm=>?_⟩
    ·have:=g.r;simpa using this
    ·have:=g.l;rw[if_pos (List.mem_cons_self ..)]
     split at this
     ·exact this
     ·rw[this];exact Td hn
    ·have:=g.e;simpa using this
    ·have:=g.f;simpa using this
    ·rw[g.n fun h=>hm (List.mem_cons_of_mem _ h)]
   ·rw[if_neg hn] at e;exact absurd e (nb _ _)
  ·have e:Hg l (exQ l) 101 i s=match exQ l i with | .ok x tu=>.ok { s with e:=x } tu | .bad e a=>.bad e a:=rfl
   cases hx:exQ l i with
   | bad e' a=>rw[hx] at e;exact absurd e (nb _ _)
   | ok x tu =>
    rw[hx] at e
    have g:=go _ _ e
    refine⟨?_,?_,?_,?_,fun hm=>?_⟩
    ·have:=g.r;simpa using this
    ·have:=g.l;simpa using this
    ·have:=g.e;rw[if_pos (List.mem_cons_self ..)]
     split at this
     ·exact this
     ·rw[this];exact A7c hk hi hx
    ·have:=g.f;simpa using this
    ·rw[g.n fun h=>hm (List.mem_cons_of_mem _ h)]
  ·have e:Hg l (exQ l) 102 i s=match exQ l i with | .ok x tu=>.ok { s with f:=x } tu | .bad e a=>.bad e a:=rfl
   cases hx:exQ l i with
   | bad e' a=>rw[hx] at e;exact absurd e (nb _ _)
   | ok x tu =>
    rw[hx] at e
    have g:=go _ _ e
    refine⟨?_,?_,?_,?_,fun hm=>?_⟩
    ·have:=g.r;simpa using this
    ·have:=g.l;simpa using this
    ·have:=g.e;simpa using this
    ·have:=g.f;rw[if_pos (List.mem_cons_self ..)]
     split at this
     ·exact this
     ·rw[this];exact A7c hk hi hx
    ·rw[g.n fun h=>hm (List.mem_cons_of_mem _ h)]
  ·have e:Hg l (exQ l) 113 i s=if Bj l i [33,61]=true then FR.ok { s with ne:=true } (i+1) else if Bj l i [61,61]=true then .ok { s with ne:=false } (i+1) else .bad (Fj l i) (Bg l i):=rfl
   have fin:∀ b:Bool,Z1 cs { s with ne:=b } s'→Z1 (113 :: cs) s s':=fun b g=>by
    refine⟨?_,?_,?_,?_,fun hm=>absurd (List.mem_cons_self ..) hm⟩
    ·have:=g.r;simpa using this
    ·have:=g.l;simpa using this
    ·have:=g.e;simpa using this
    ·have:=g.f;simpa using this
   by_cases h1:Bj l i [33,61]=true
   ·rw[if_pos h1] at e;exact fin true (go _ _ e)
   ·rw[if_neg h1] at e
    by_cases h2:Bj l i [61,61]=true
    ·rw[if_pos h2] at e;exact fin false (go _ _ e)
    ·rw[if_neg h2] at e;exact absurd e (nb _ _)
  all_goals
   have fin:∀ d:UInt8,d≠114→d≠108→d≠101→d≠102→d≠113→Z1 cs s s'→Z1 (d :: cs) s s':=fun d d1 d2 d3 d4 d5 g=>by
    refine⟨?_,?_,?_,?_,fun hm=>g.n fun h=>hm (List.mem_cons_of_mem _ h)⟩
    ·have:=g.r;simpa [d1.symm] using this
    ·have:=g.l;simpa [d2.symm] using this
    ·have:=g.e;simpa [d3.symm] using this
    ·have:=g.f;simpa [d4.symm] using this
  ·have e:Hg l (exQ l) 61 i s=if Bj l i [61]=true then .ok s (i+1) else .bad (Fj l i) (Bg l i):=rfl
   by_cases h1:Bj l i [61]=true
   ·rw[if_pos h1] at e;exact fin 61 (by decide) (by decide) (by decide) (by decide) (by decide) (go _ _ e)
   ·rw[if_neg h1] at e;exact absurd e (nb _ _)
  ·have e:Hg l (exQ l) 59 i s=if Bj l i [59]=true then .ok s (i+1) else .bad (Fj l i) (Bg l i):=rfl
   by_cases h1:Bj l i [59]=true
   ·rw[if_pos h1] at e;exact fin 59 (by decide) (by decide) (by decide) (by decide) (by decide) (go _ _ e)
   ·rw[if_neg h1] at e;exact absurd e (nb _ _)
  ·have e:Hg l (exQ l) 44 i s=if Bj l i [44]=true then .ok s (i+1) else .bad (Fj l i) (Bg l i):=rfl
   by_cases h1:Bj l i [44]=true
   ·rw[if_pos h1] at e;exact fin 44 (by decide) (by decide) (by decide) (by decide) (by decide) (go _ _ e)
   ·rw[if_neg h1] at e;exact absurd e (nb _ _)
theorem A2d {T:Nat} {l:List Tk} (hk:Toks T l) {i j:Nat} {s:Fs} (h0:Av l i≠0) (h:Gp l (exQ l) (C2 (Av l i)) (i+1) fs0=.ok s j) (b c:Nat) (hb:Db (Av l i)=false→b=0) (hc:Av l i≠10→c=0):Fo (mkS (Av l i) s b c (Bg l i))=true:=by
 have hlt:=C4 h0
 have g:=Add hk (C2 (Av l i)) (i+1) j fs0 s hlt (Um _) h
 have hin:=A3t l i
 have hat:0≤Bg l i:=by
  rw[hk.at' hlt];exact(hk.ok _ (List.getElem_mem hlt)).1
 unfold Fo
 simp only[Ah]
 refine⟨decide_eq_true (show 1≤Av l i∧Av l i≤13 by omega),?_,?_,?_,?_,?_,?_,?_,?_⟩
 ·show(!decide (Bg l i < 0))=true
  rw[decide_eq_false (by omega)];rfl
 ·show(!s.ne || Jb (C2 (Av l i)) 113)=true
  by_cases m:(113:UInt8) ∈ C2 (Av l i)
  ·have:Jb (C2 (Av l i)) 113=true:=Rs m
   rw[this];simp
  ·rw[g.n m];rfl
 ·show fN (C2 (Av l i)) 114 s.reg=true
  have:=g.r
  unfold fN
  by_cases m:(114:UInt8) ∈ C2 (Av l i)
  ·rw[if_pos m] at this;rw[if_pos (show Jb (C2 (Av l i)) 114=true from Rs m)];exact this
  ·rw[if_neg m] at this;rw[if_neg (by rw[show Jb (C2 (Av l i)) 114=false from Se m];simp),this];rfl
 ·show fN (C2 (Av l i)) 108 s.loc=true
  have:=g.l
  unfold fN
  by_cases m:(108:UInt8) ∈ C2 (Av l i)
  ·rw[if_pos m] at this;rw[if_pos (show Jb (C2 (Av l i)) 108=true from Rs m)];exact this
  ·rw[if_neg m] at this;rw[if_neg (by rw[show Jb (C2 (Av l i)) 108=false from Se m];simp),this];rfl
 ·show fL (C2 (Av l i)) 101 s.e=true
  have:=g.e
  unfold fL
  by_cases m:(101:UInt8) ∈ C2 (Av l i)
  ·rw[if_pos m] at this;rw[if_pos (show Jb (C2 (Av l i)) 101=true from Rs m)];exact this
  ·rw[if_neg m] at this;rw[if_neg (by rw[show Jb (C2 (Av l i)) 101=false from Se m];simp),this];rfl
 ·show fL (C2 (Av l i)) 102 s.f=true
  have:=g.f
  unfold fL
  by_cases m:(102:UInt8) ∈ C2 (Av l i)
  ·rw[if_pos m] at this;rw[if_pos (show Jb (C2 (Av l i)) 102=true from Rs m)];exact this
  ·rw[if_neg m] at this;rw[if_neg (by rw[show Jb (C2 (Av l i)) 102=false from Se m];simp),this];rfl
 ·show(Db (Av l i) || (b:Int)==0)=true
  cases hbl:Db (Av l i) with
  | true=>rfl
  | false=>rw[hb hbl];rfl
 ·show(Av l i==10 || (c:Int)==0)=true
  by_cases k10:Av l i=10
  ·rw[k10];rfl
  ·rw[hc k10];simp
def Ad2 (inn:Nat):SR→Prop
 | .ok x _=>∃ F:SF,F.wf∧F.flat=x∧F.dep+inn≤30∧∀ y ∈ x,Fo y=true
 | .bad _ _=>True
theorem Aio {T:Nat} {l:List Tk} (hk:Toks T l) {md:Bool} {inn i:Nat} {r:SR} (h:SE l md inn i r):i≤l.length→inn≤30→if md then(match r with | .ok x _=>inn < 30∧Ad2 (inn+1) r | _=>True) else Ad2 inn r:=by
 induction h with
 | stop h=>intro hi hn;exact⟨.nil,trivial,rfl,by simp[SF.dep];omega,by simp⟩
 | no h1 h2 h3=>intro hi hn;trivial
 | fbad h1 h2=>intro hi hn;trivial
 | @simple inn i j s r h1 h2 h3 h4 ih =>
  intro hi hn
  have h5:=F4 hk (C4 h1) h3
  have ih:=ih h5.2 hn
  simp only[Bool.false_eq_true,if_false] at ih ⊢
  cases r with
  | bad e a=>trivial
  | ok x tu =>
   obtain⟨F,f1,f2,f3,f4⟩:=ih
   refine⟨.cons (mkS (Av l i) s 0 0 (Bg l i)) .nil .nil F,⟨rfl,rfl,trivial,trivial,f1⟩,by simp[SF.flat,f2],?_,?_⟩
   ·simp only[SF.dep,mkS,h2];simp;omega
   ·intro y hy
    rcases List.mem_append.1 hy with hy | hy
    ·rw[List.mem_singleton] at hy;subst hy
     exact A2d hk h1 h3 0 0 (fun _=>rfl) (fun _=>rfl)
    ·exact f4 y hy
 | bbad h1 h2 h3 h4 ih=>intro hi hn;trivial
 | @blk inn i j j2 s b r h1 h2 h3 h4 h5 h6 ih1 ih2 =>
  intro hi hn
  have h7:=F4 hk (C4 h1) h3
  have h8:=Hy hk h4 h7.2
  simp only[Js,if_true] at h8
  have ih1:=ih1 h7.2 hn
  simp only[if_true] at ih1
  have ih2:=ih2 h8.2.1 hn
  simp only[Bool.false_eq_true,if_false] at ih2 ⊢
  cases r with
  | bad e a=>trivial
  | ok x tu =>
   obtain⟨i1,A,a1,a2,a3,a4⟩:=ih1
   obtain⟨F,f1,f2,f3,f4⟩:=ih2
   refine⟨.cons (mkS (Av l i) s b.length 0 (Bg l i)) A .nil F,⟨by rw[a2];rfl,rfl,a1,trivial,f1⟩,by simp[SF.flat,f2,a2],?_,?_⟩
   ·simp only[SF.dep,mkS,h2];simp;omega
   ·intro y hy
    rcases List.mem_append.1 hy with hy | hy
    ·rcases List.mem_cons.1 hy with rfl | hy
     ·exact A2d hk h1 h3 b.length 0 (fun e=>by rw[e] at h2;cases h2) (fun _=>rfl)
     ·exact a4 y hy
    ·exact f4 y hy
 | ebad h1 h3 h4 h5 h6 ih1 ih2=>intro hi hn;trivial
 | @els inn i j j2 j3 s b c r h1 h3 h4 h5 h6 h7 ih1 ih2 ih3 =>
  intro hi hn
  have h0:Av l i≠0:=by omega
  have h8:=F4 hk (C4 h0) h3
  have hj:=Jh h5
  have h11:=Hy hk h6 hj
  simp only[Js,if_true] at h11
  have ih1:=ih1 h8.2 hn
  simp only[if_true] at ih1
  have ih2:=ih2 hj hn
  simp only[if_true] at ih2
  have ih3:=ih3 h11.2.1 hn
  simp only[Bool.false_eq_true,if_false] at ih3 ⊢
  cases r with
  | bad e a=>trivial
  | ok x tu =>
   obtain⟨i1,A,a1,a2,a3,a4⟩:=ih1
   obtain⟨i2,B,b1,b2,b3,b4⟩:=ih2
   obtain⟨F,f1,f2,f3,f4⟩:=ih3
   refine⟨.cons (mkS (Av l i) s b.length c.length (Bg l i)) A B F,⟨by rw[a2];rfl,by rw[b2];rfl,a1,b1,f1⟩,by simp[SF.flat,f2,a2,b2],?_,?_⟩
   ·have hb:Db (Av l i)=true:=by rw[h1];rfl
    have e:(SF.cons (mkS (Av l i) s b.length c.length (Bg l i)) A B F).dep=max (max (1+A.dep) (1+B.dep)) F.dep:=by
     show max (if Db (Av l i)=true then _ else 0) _=_
     rw[if_pos hb]
    rw[e];omega
   ·intro y hy
    rcases List.mem_append.1 hy with hy | hy
    ·rcases List.mem_cons.1 hy with rfl | hy
     ·exact A2d hk h0 h3 b.length c.length (fun e=>by rw[h1] at e;exact absurd e (by decide)) (fun e=>absurd h1 e)
     ·rcases List.mem_append.1 hy with hy | hy
      ·exact a4 y hy
      ·exact b4 y hy
    ·exact f4 y hy
 | nob h=>intro hi hn;trivial
 | deep h1 h2=>intro hi hn;trivial
 | sbad h1 h2 h3 ih=>intro hi hn;trivial
 | close h1 h2 h3 h4 ih =>
  intro hi hn
  have:=ih (D0 h1) (by omega)
  simp only[Bool.false_eq_true,if_false] at this
  exact⟨h2,this⟩
 | opn h1 h2 h3 h4 ih=>intro hi hn;trivial
def Ts (B:Nat):FR→Prop
 | .bad _ a=>0≤a∧a≤B
 | .ok _ _=>True
theorem A6f {B T:Nat} {l:List Tk} (hk:Toks T l) (hB:B < 1000000) (h:∀ t ∈ l,Sb t∧t.Ab+t.Ac.length≤B) {e a:Int}:∀ (cs:List UInt8) (i:Nat) (s:Fs),i≤l.length→Gp l (exQ l) cs i s=.bad e a→0≤a∧a≤B
 | [],i,s,hi,hx=>by rw[Gp] at hx;cases hx
 | c :: cs,i,s,hi,hx=>by
  have hok:=Wt hk (c:=c) (s:=s) hi
  have hp:=Jj hB h i
  have hst:Ts B (Hg l (exQ l) c i s):=by
   unfold Hg
   refine Dz (Q:=Ts B) (fun _=>Dz (Q:=Ts B) (fun _=>trivial) fun _=>hp) fun _=>Dz (Q:=Ts B) (fun _=>Dz (Q:=Ts B) (fun _=>trivial) fun _=>hp) fun _=>Dz (Q:=Ts B) (fun _=>?_) fun _=>Dz (Q:=Ts B) (fun _=>?_) fun _=>Dz (Q:=Ts B) (fun _=>Dz (Q:=Ts B) (fun _=>trivial) fun _=>Dz (Q:=Ts B) (fun _=>trivial) fun _=>hp) fun _=>Dz (Q:=Ts B) (fun _=>trivial) fun _=>hp
   ·cases hx2:exQ l i with
    | ok x tu=>trivial
    | bad e a=>exact A98 hk hB h hi hx2
   ·cases hx2:exQ l i with
    | ok x tu=>trivial
    | bad e a=>exact A98 hk hB h hi hx2
  rw[Gp] at hx
  revert hx hok hst
  cases Hg l (exQ l) c i s with
  | bad e' a'=>intro hx _ hst;cases hx;exact hst
  | ok s2 j2=>intro hx hok _;exact A6f hk hB h cs j2 s2 hok.2 hx
theorem Aoe {B T:Nat} {l:List Tk} (hk:Toks T l) (hB:B < 1000000) (h:∀ t ∈ l,Sb t∧t.Ab+t.Ac.length≤B) {md:Bool} {inn i:Nat} {r:SR} (hs:SE l md inn i r):i≤l.length→match r with | .bad _ a=>0≤a∧a≤B | _=>True:=by
 induction hs with
 | stop _=>intro hi;trivial
 | no h1 h2 h3=>intro hi;exact Jj hB h _
 | fbad h1 h2=>intro hi;exact A6f hk hB h _ _ _ (C4 h1) h2
 | @simple inn i j s r h1 h2 h3 h4 ih =>
  intro hi
  have:=ih (F4 hk (C4 h1) h3).2
  cases r with
  | ok x tu=>trivial
  | bad e a=>exact this
 | bbad h1 h2 h3 h4 ih=>intro hi;exact ih (F4 hk (C4 h1) h3).2
 | @blk inn i j j2 s b r h1 h2 h3 h4 h5 h6 ih1 ih2 =>
  intro hi
  have h7:=F4 hk (C4 h1) h3
  have h8:=Hy hk h4 h7.2
  simp only[Js,if_true] at h8
  have:=ih2 h8.2.1
  cases r with
  | ok x tu=>trivial
  | bad e a=>exact this
 | ebad h1 h3 h4 h5 h6 ih1 ih2=>intro hi;exact ih2 (Jh h5)
 | @els inn i j j2 j3 s b c r h1 h3 h4 h5 h6 h7 ih1 ih2 ih3 =>
  intro hi
  have h11:=Hy hk h6 (Jh h5)
  simp only[Js,if_true] at h11
  have:=ih3 h11.2.1
  cases r with
  | ok x tu=>trivial
  | bad e a=>exact this
 | nob _=>intro hi;exact Jj hB h _
 | deep h1 h2=>intro hi;exact Jj hB h _
 | sbad h1 h2 h3 ih=>intro hi;exact ih (D0 h1)
 | close h1 h2 h3 h4 ih=>intro hi;trivial
 | opn h1 h2 h3 h4 ih=>intro hi;exact Jj hB h _
def LightX (x:St):Prop:=x.Bd.length≤100∧x.Be.length≤100∧Hn x.Bm=true∧Hn x.C6=true
abbrev Pg:=Az
abbrev Th:=Ae
abbrev Cl:=Ag
abbrev Va:=Aw
structure Adc (t:Th):Prop where
 name:t.Ao.length≤100
 regs:t.Bh.length≤4000
 reg:∀ r ∈ t.Bh,r.length≤100
 body:t.B5.length≤250
 st:∀ x ∈ t.B5,LightX x
structure Ux (p:Pg):Prop where
 locs:p.B0.length≤4000
 threads:p.Ak.length≤4000
 claims:p.Ar.length≤4000
 loc:∀ v ∈ p.B0,v.Ao.length≤100
 thr:∀ t ∈ p.Ak,Adc t
 cl:∀ c ∈ p.Ar,Hn c.Bm=true
def A1p (n:Int):Bool:=decide (0≤n∧n≤9999)
def Pv (v:Va):Bool:=Cp v.Ao&&(A1p v.Bs&&decide (0≤v.Ab))
def Nf (t:Th):Bool:=Cp t.Ao&&(decide (0≤t.Ab)&&(No t.B5&&t.Bh.all Cp))
def clB (l:List Nd):Bool:=(l.filter Gb).all fun x=>!(x.B3==2)
def P6 (c:Cl):Bool:=clB c.Bm&&(decide (1≤c.A7∧c.A7≤3)&&(Ep c.Bm&&decide (0≤c.Ab)))
def Lh (p:Pg):Bool:=A1p p.Bo&&(p.B0.all Pv&&(p.Ak.all Nf&&p.Ar.all P6))
abbrev Ps:=Nat×Int×Int
def wr (l:List Tk) (s:Ps):Ps:=bif s.2.1==0 then(s.1,Fj l s.1,Bg l s.1) else s
def Zj (l:List Tk) (i:Nat) (w:List UInt8):Bool:=match l[i]? with
 | some t=>t.A7==1&&t.Ac==w
 | none=>false
def C9 (w:List UInt8) (l:List Tk) (s:Ps):Bool:=s.2.1==0&&Zj l s.1 w
def sgF (w:List UInt8) (l:List Tk) (s:Ps):Ps:=bif s.2.1==0&&Bj l s.1 w then(s.1+1,s.2) else wr l s
def Wn (l:List Tk) (i:Nat):Int:=match l[i]? with | some t=>t.Bs | none=>0
def atA (l:List Tk) (i:Nat):Int:=match l[i]? with | some t=>t.Ab | none=>0
def nmF (l:List Tk) (s:Ps):List UInt8×Ps:=bif s.2.1==0&&isN l s.1 then(txt l s.1,(s.1+1,s.2)) else([],wr l s)
def nuF (l:List Tk) (s:Ps):Int×Ps:=bif s.2.1==0&&isK l s.1 then(Wn l s.1,(s.1+1,s.2)) else(0,wr l s)
def N8 (l:List Tk) (s:Ps):Va×Ps:=(⟨(nmF l (s.1+1,s.2)).1,(nuF l (sgF [61] l (nmF l (s.1+1,s.2)).2)).1,atA l s.1⟩,sgF [59] l (nuF l (sgF [61] l (nmF l (s.1+1,s.2)).2)).2)
def Fh (l:List Tk):Nat→Ps→List Va→List Va×Ps
 | 0,s,acc=>(acc,s)
 | k+1,s,acc=>bif C9 [108,111,99] l s then Fh l k (N8 l s).2 (acc++[(N8 l s).1]) else(acc,s)
def Dw (l:List Tk):Nat→Ps→List (List UInt8)→List (List UInt8)×Ps
 | 0,s,acc=>(acc,s)
 | k+1,s,acc=>bif s.2.1==0&&Bj l s.1 [44] then Dw l k (nmF l (s.1+1,s.2)).2 (acc++[(nmF l (s.1+1,s.2)).1]) else(acc,s)
open Classical in
noncomputable def seQ (l:List Tk) (i:Nat):A2s:=if h:∃ r,SE l false 0 i r then Sc l i h.choose else([],0,6,0)
open Classical in
noncomputable def peQ (l:List Tk) (i:Nat):List Nd×Int×Int×Int:=if h:∃ r,PE l (.fl 0) 0 i r then Ly l i h.choose else([],0,6,0)
def faF (s:Int×Int) (e a:Int):Int×Int:=bif s.1==0 then bif e != 0 then(e,a) else s else s
def G1 (l:List Tk) (s:Ps):List (List UInt8)×Ps:=bif C9 [114,101,103] l s then((Dw l (l.length+2) (nmF l (s.1+1,s.2)).2 [(nmF l (s.1+1,s.2)).1]).1,sgF [59] l (Dw l (l.length+2) (nmF l (s.1+1,s.2)).2 [(nmF l (s.1+1,s.2)).1]).2) else([],s)
noncomputable def Jl (l:List Tk) (s:Ps):List St×Ps:=bif s.2.1==0 then((seQ l s.1).1,sgF [125] l ((seQ l s.1).2.1.toNat,faF s.2 (seQ l s.1).2.2.1 (seQ l s.1).2.2.2)) else([],sgF [125] l s)
noncomputable def Jv (l:List Tk) (s:Ps):Th×Ps:=(⟨(nmF l (s.1+1,s.2)).1,(G1 l (sgF [123] l (nmF l (s.1+1,s.2)).2)).1,(Jl l (G1 l (sgF [123] l (nmF l (s.1+1,s.2)).2)).2).1,atA l s.1⟩,(Jl l (G1 l (sgF [123] l (nmF l (s.1+1,s.2)).2)).2).2)
noncomputable def Gs (l:List Tk):Nat→Ps→List Th→List Th×Ps
 | 0,s,acc=>(acc,s)
 | k+1,s,acc=>bif C9 [116,104,114,101,97,100] l s then Gs l k (Jv l s).2 (acc++[(Jv l s).1]) else(acc,s)
def cwS:List (List UInt8):=[[],[102,111,114,97,108,108],[101,120,105,115,116,115],[97,108,119,97,121,115]]
def Hb (l:List Tk) (s:Ps):Int:=bif C9 [102,111,114,97,108,108] l s then 1 else bif C9 [101,120,105,115,116,115] l s then 2 else bif C9 [97,108,119,97,121,115] l s then 3 else 0
def H5 (x:Nd):Nd:=if x.B3=2 then⟨3,x.Bs,x.Ao,x.Cq,x.Ab⟩ else x
noncomputable def clF (k:Int) (l:List Tk) (s:Ps):Cl×Ps:=(⟨k,(peQ l (s.1+1)).1.map H5,atA l s.1⟩,sgF [59] l (if(faF s.2 (peQ l (s.1+1)).2.2.1 (peQ l (s.1+1)).2.2.2).1=0 then(peQ l (s.1+1)).2.1.toNat else s.1+1,faF s.2 (peQ l (s.1+1)).2.2.1 (peQ l (s.1+1)).2.2.2))
noncomputable def Ia (l:List Tk):Nat→Ps→List Cl→List Cl×Ps
 | 0,s,acc=>(acc,s)
 | k+1,s,acc=>bif decide (0 < Hb l s) then Ia l k (clF (Hb l s) l s).2 (acc++[(clF (Hb l s) l s).1]) else(acc,s)
def noP:Pg:=⟨0,[],[],[]⟩
def Li (l:List Tk):Int×Ps:=(fun r:Int×Ps=>(r.1,sgF [59] l r.2)) (nuF l (bif C9 [109,111,100] l (0,0,0) then(1,0,0) else wr l (0,0,0)))
def Oh (l:List Tk) (s:Ps):Ps:=bif decide (s.1 < l.length) then wr l s else s
noncomputable def T4 (l:List Tk):Pg×Int×Int :=
 (fun r:Int×Ps=>(fun v:List Va×Ps=>(fun t:List Th×Ps=>(fun c:List Cl×Ps=>(fun s:Ps=>bif s.2.1 != 0 then(noP,s.2) else(⟨r.1,v.1,t.1,c.1⟩,0,0)) (Oh l c.2)) (Ia l (l.length+2) t.2 [])) (Gs l (l.length+2) v.2 [])) (Fh l (l.length+2) r.2 [])) (Li l)
noncomputable def Qb (s:List UInt8):Pg×Int×Int:=bif (Hr s).err != 0 then(noP,(Hr s).err,((Hr s).at':Int)) else T4 (Qx s)
def Cb (l:List Tk) (s:Ps):Prop:=s.1≤l.length
theorem U7 (l:List Tk) (s:Ps):(wr l s).1=s.1:=by unfold wr;cases s.2.1==0<;>rfl
theorem A74 (l:List Tk) (s:Ps):(wr l s).2.1≠0:=by
 unfold wr
 cases h:s.2.1==0 with
 | true=>exact Sv l s.1
 | false=>rw[beq_eq_false_iff_ne] at h;exact h
theorem A0q {l:List Tk} {i:Nat} {w:List UInt8} (h:Bj l i w=true):i < l.length:=by
 unfold Bj at h
 cases hx:l[i]? with
 | none=>rw[hx] at h;cases h
 | some t=>exact(List.getElem?_eq_some_iff.1 hx).1
theorem Aka {l:List Tk} {i:Nat} {w:List UInt8} (h:Zj l i w=true):i < l.length:=by
 unfold Zj at h
 cases hx:l[i]? with
 | none=>rw[hx] at h;cases h
 | some t=>exact(List.getElem?_eq_some_iff.1 hx).1
theorem Abv {l:List Tk} {i:Nat} (h:isK l i=true):i < l.length:=by
 unfold isK at h
 cases hx:l[i]? with
 | none=>rw[hx] at h;cases h
 | some t=>exact(List.getElem?_eq_some_iff.1 hx).1
theorem Ai9 {l:List Tk} {i:Nat} (h:i < l.length):txt l i=l[i].Ac:=by unfold txt;rw[Ax h]
theorem Agw {l:List Tk} {i:Nat} (h:i < l.length):Wn l i=l[i].Bs:=by unfold Wn;rw[Ax h]
theorem A3c {l:List Tk} {i:Nat} (h:i < l.length):atA l i=l[i].Ab:=by unfold atA;rw[Ax h]
theorem Kt {w:List UInt8} {l:List Tk} {s:Ps} (h:Cb l s):Cb l (sgF w l s):=by
 unfold sgF
 cases c:s.2.1==0&&Bj l s.1 w with
 | true=>rw[Ah] at c;have:=A0q c.2;exact this
 | false=>rw[An];unfold Cb;rw[U7];exact h
theorem Zq {w:List UInt8} {l:List Tk} {s:Ps}:((sgF w l s).1=s.1+1∧Bj l s.1 w=true∧s.2.1=0∧(sgF w l s).2=s.2)∨((sgF w l s).2.1≠0∧(sgF w l s).1=s.1):=by
 unfold sgF
 cases c:s.2.1==0&&Bj l s.1 w with
 | true=>rw[Ah,beq_iff_eq] at c;exact .inl ⟨rfl,c.2,c.1,rfl⟩
 | false=>exact .inr ⟨A74 l s,U7 l s⟩
theorem A75 {l:List Tk} {s:Ps}:((nmF l s).2.1=s.1+1∧isN l s.1=true∧s.2.1=0∧(nmF l s).1=txt l s.1∧(nmF l s).2.2=s.2)∨((nmF l s).2.2.1≠0∧(nmF l s).2.1=s.1∧(nmF l s).1=[]):=by
 unfold nmF
 cases c:s.2.1==0&&isN l s.1 with
 | true=>rw[Ah,beq_iff_eq] at c;exact .inl ⟨rfl,c.2,c.1,rfl,rfl⟩
 | false=>exact .inr ⟨A74 l s,U7 l s,rfl⟩
theorem A5z {l:List Tk} {s:Ps}:((nuF l s).2.1=s.1+1∧isK l s.1=true∧s.2.1=0∧(nuF l s).1=Wn l s.1∧(nuF l s).2.2=s.2)∨((nuF l s).2.2.1≠0∧(nuF l s).2.1=s.1):=by
 unfold nuF
 cases c:s.2.1==0&&isK l s.1 with
 | true=>rw[Ah,beq_iff_eq] at c;exact .inl ⟨rfl,c.2,c.1,rfl,rfl⟩
 | false=>exact .inr ⟨A74 l s,U7 l s⟩
theorem Ng {l:List Tk} {s:Ps} (h:Cb l s):Cb l (nmF l s).2:=by
 rcases A75 (l:=l) (s:=s) with ⟨h1,h2,_⟩ | ⟨_,h2,_⟩
 ·unfold Cb;rw[h1];have:=Ph h2;omega
 ·unfold Cb;rw[h2];exact h
theorem A1i {l:List Tk} {s:Ps} (h:Cb l s):Cb l (nuF l s).2:=by
 rcases A5z (l:=l) (s:=s) with ⟨h1,h2,_⟩ | ⟨_,h2⟩
 ·unfold Cb;rw[h1];have:=Abv h2;omega
 ·unfold Cb;rw[h2];exact h
theorem A6z (n:Nat) (l:List Tk) (s:Ps) (hl:l.length < 100000):Fe (n+3) l (s.1:Int) s.2.1 s.2.2=some ((wr l s).2.1,(wr l s).2.2):=by
 rw[Fe,A2f n l s.1 (by omega),A1,wr]
 cases s.2.1==0<;>rfl
theorem A14 (n:Nat) (w:List UInt8) (l:List Tk) (s:Ps):J7 (n+1) w l (s.1:Int) s.2.1 s.2.2=some (C9 w l s):=by
 rw[J7,C9,Zj]
 by_cases h:s.1 < l.length
 ·rw[A6 (by omega),C8 h,Ax h]
  simp only[A1]
  cases s.2.1==0<;>cases l[s.1].A7==1<;>rfl
 ·rw[Aq (by omega),List.getElem?_eq_none (by omega)]
  cases s.2.1==0<;>rfl
theorem Z0 (n:Nat) (w:List UInt8) (l:List Tk) (s:Ps) (hl:l.length < 100000) (hs:Cb l s):Da (n+4) w l (s.1:Int) s.2.1 s.2.2=some (((sgF w l s).1:Int),(sgF w l s).2.1,(sgF w l s).2.2):=by
 unfold Cb at hs
 rw[Da,Lj (n+2) w l s.1,A6z n l s hl,A1,Ay s.1 (by omega),sgF]
 cases h:s.2.1==0 with
 | true =>
  cases Bj l s.1 w with
  | true=>rfl
  | false=>simp only[Af,An,A1,Bool.and_false,U7]
 | false=>simp only[An,A1,Bool.false_and,U7]
theorem Adi {T:Nat} {l:List Tk} (hk:Toks T l) (n:Nat) (s:Ps) (hs:Cb l s) (hn:T+70≤n):L5 n l (s.1:Int) s.2.1 s.2.2=some ((nmF l s).1,((nmF l s).2.1:Int),(nmF l s).2.2.1,(nmF l s).2.2.2):=by
 unfold Cb at hs
 have hl:=hk.len
 obtain⟨n,rfl⟩:∃ j,n=j+4:=⟨n - 4,by omega⟩
 have w:IntKind.i64.wrap (IntKind.i64.wrap ((s.1:Int)+1) - 1)=(s.1:Int):=by
  rw[Cx (show -9223372036854775808≤(s.1:Int)+1∧_ by omega),Cx (by omega)];omega
 rw[L5,Afc hk (by omega),A6z n l s hl,A1,w,Ay s.1 (by omega),nmF]
 cases h:s.2.1==0 with
 | true =>
  cases hn:isN l s.1 with
  | true =>
   have:=Ph hn
   rw[C8 this,A1,Ai9 this];rfl
  | false=>simp only[Af,An,A1,Bool.and_false,U7]
 | false=>simp only[An,A1,Bool.false_and,U7]
theorem Apd (n:Nat) (l:List Tk) (s:Ps) (hl:l.length < 100000) (hs:Cb l s):Kx (n+4) l (s.1:Int) s.2.1 s.2.2=some ((nuF l s).1,((nuF l s).2.1:Int),(nuF l s).2.2.1,(nuF l s).2.2.2):=by
 unfold Cb at hs
 have w:IntKind.i64.wrap (IntKind.i64.wrap ((s.1:Int)+1) - 1)=(s.1:Int):=by
  rw[Cx (show -9223372036854775808≤(s.1:Int)+1∧_ by omega),Cx (by omega)];omega
 rw[Kx,A6z n l s hl,A1,w,Ay s.1 (by omega),nuF,isK]
 cases h:s.2.1==0 with
 | true =>
  by_cases hx:s.1 < l.length
  ·rw[A6 (by omega),C8 hx,Ax hx,Agw hx]
   simp only[A1]
   cases l[s.1].A7==2 with
   | true=>rfl
   | false=>simp only[Af,An,A1,Bool.and_false,U7]
  ·rw[Aq (by omega),List.getElem?_eq_none (by omega)]
   simp only[Af,An,A1,Bool.and_false,U7]
 | false=>simp only[An,A1,Bool.false_and,U7]
theorem Je {l:List Tk} {w:List UInt8} {s:Ps} (h:C9 w l s=true):s.1 < l.length∧s.2.1=0:=by
 rw[C9,Ah,beq_iff_eq] at h;exact⟨Aka h.2,h.1⟩
def Ew (l:List Tk) (s:Ps):Nat:=bif s.2.1==0 then l.length - s.1+1 else 0
theorem Rq {l:List Tk} {s t:Ps} (h0:s.2.1=0) (hs:Cb l s) (h:t.2.1≠0∨s.1 < t.1) (ht:Cb l t):Ew l t < Ew l s:=by
 unfold Ew Cb at *
 rw[h0]
 cases hc:t.2.1==0 with
 | true =>
  rw[beq_iff_eq] at hc
  rcases h with h | h
  ·exact absurd hc h
  ·show l.length - t.1+1 < l.length - s.1+1;omega
 | false=>show 0 < l.length - s.1+1;omega
theorem Og {l:List Tk} {s:Ps}:Ew l s≤l.length+1:=by unfold Ew;cases s.2.1==0<;>simp<;>omega
theorem Vd {w:List UInt8} {l:List Tk} {s:Ps}:s.1≤(sgF w l s).1:=by rcases Zq (w:=w) (l:=l) (s:=s) with ⟨h,_⟩ | ⟨_,h⟩<;>omega
theorem Ni {l:List Tk} {s:Ps}:s.1≤(nmF l s).2.1:=by rcases A75 (l:=l) (s:=s) with ⟨h,_⟩ | ⟨_,h,_⟩<;>omega
theorem Af6 {l:List Tk} {s:Ps}:s.1≤(nuF l s).2.1:=by rcases A5z (l:=l) (s:=s) with ⟨h,_⟩ | ⟨_,h⟩<;>omega
theorem A5u {l:List Tk} {s:Ps} (h:s.1 < l.length):Cb l (N8 l s).2∧s.1 < (N8 l s).2.1:=by
 have a1:Cb l (nmF l (s.1+1,s.2)).2:=Ng h
 have a2:=Kt (w:=[61]) a1
 have a3:=A1i a2
 have b1:=Ni (l:=l) (s:=(s.1+1,s.2))
 have b2:=Vd (w:=[61]) (l:=l) (s:=(nmF l (s.1+1,s.2)).2)
 have b3:=Af6 (l:=l) (s:=sgF [61] l (nmF l (s.1+1,s.2)).2)
 have b4:=Vd (w:=[59]) (l:=l) (s:=(nuF l (sgF [61] l (nmF l (s.1+1,s.2)).2)).2)
 refine⟨Kt a3,?_⟩
 unfold N8
 dsimp only at b1 ⊢
 omega
theorem A5v {l:List Tk}:∀ (K:Nat) (s:Ps) (acc:List Va),Cb l s→acc.length≤s.1→Cb l (Fh l K s acc).2∧(Fh l K s acc).1.length≤(Fh l K s acc).2.1
 | 0,s,acc,hs,ha=>⟨hs,ha⟩
 | K+1,s,acc,hs,ha=>by
  rw[Fh]
  cases hc:C9 [108,111,99] l s with
  | false=>exact⟨hs,ha⟩
  | true =>
   obtain⟨v1,v2⟩:=A5u (s:=s) (Je hc).1
   exact A5v K _ _ v1 (by simp;omega)
theorem A2v {l:List Tk}:∀ (K:Nat) (s:Ps) (acc:List (List UInt8)),Cb l s→Cb l (Dw l K s acc).2∧s.1≤(Dw l K s acc).2.1
 | 0,s,acc,hs=>⟨hs,Nat.le_refl _⟩
 | K+1,s,acc,hs=>by
  rw[Dw]
  cases hc:s.2.1==0&&Bj l s.1 [44] with
  | false=>exact⟨hs,Nat.le_refl _⟩
  | true =>
   rw[Ah] at hc
   have b1:=Ni (l:=l) (s:=(s.1+1,s.2))
   have:=A2v K (nmF l (s.1+1,s.2)).2 (acc++[(nmF l (s.1+1,s.2)).1]) (Ng (A0q hc.2))
   dsimp only at b1
   exact⟨this.1,Nat.le_trans (by omega) this.2⟩
theorem B1t {T:Nat} {l:List Tk} (hk:Toks T l) (n:Nat) (y:List Tk×Int×Int) (hy:y.1=l) (hn:T+70≤n):∀ (m k K:Nat) (s:Ps) (acc:List Va),Cb l s→Ew l s≤m→m < k→m < K→acc.length≤s.1 →
 Ow n y k (s.1:Int) s.2.1 s.2.2 acc=some (.out (((Fh l K s acc).2.1:Int),(Fh l K s acc).2.2.1,(Fh l K s acc).2.2.2,(Fh l K s acc).1))∧Ou n y k (s.1:Int) s.2.1 s.2.2 acc=some (.out (((Fh l K s acc).2.1:Int),(Fh l K s acc).2.2.1,(Fh l K s acc).2.2.2,(Fh l K s acc).1))∧Cb l (Fh l K s acc).2∧(Fh l K s acc).1.length≤(Fh l K s acc).2.1:=by
 subst hy
 have hl:=hk.len
 intro m
 induction m with
 | zero =>
  intro k K s acc hs hm hk' hK ha
  obtain⟨k,rfl⟩:∃ j,k=j+1:=⟨k - 1,by omega⟩
  obtain⟨K,rfl⟩:∃ j,K=j+1:=⟨K - 1,by omega⟩
  obtain⟨n,rfl⟩:∃ j,n=j+1:=⟨n - 1,by omega⟩
  have:C9 [108,111,99] y.1 s=false:=by
   unfold Ew at hm
   cases hc:s.2.1==0 with
   | true=>rw[hc] at hm;exact absurd hm (by show ¬ y.1.length - s.1+1≤0;omega)
   | false=>unfold C9;rw[hc];rfl
  rw[Ow,Ou,A14,Fh,this];exact⟨rfl,rfl,hs,ha⟩
 | succ m ih =>
  intro k K s acc hs hm hk' hK ha
  obtain⟨k,rfl⟩:∃ j,k=j+1:=⟨k - 1,by omega⟩
  obtain⟨K,rfl⟩:∃ j,K=j+1:=⟨K - 1,by omega⟩
  obtain⟨n,rfl⟩:∃ j,n=j+4:=⟨n - 4,by omega⟩
  rw[Ow,Ou,A14 (n+3),Fh]
  cases hc:C9 [108,111,99] y.1 s with
  | false=>exact⟨rfl,rfl,hs,ha⟩
  | true =>
   obtain⟨h1,h2⟩:=Je hc
   obtain⟨v1,v2⟩:=A5u (s:=s) h1
   have a1:Cb y.1 (nmF y.1 (s.1+1,s.2)).2:=Ng h1
   have a2:=Kt (w:=[61]) a1
   have a3:=A1i a2
   have e1:=Adi hk (n+4) (s.1+1,s.2) h1 (by omega)
   dsimp only at e1
   simp only[A1,Af,C8 h1,Ay s.1 (show s.1 < 4611686018427387904 by unfold Cb at hs;omega),e1]
   rw[Z0 n [61] y.1 _ hl a1,A1,A1]
   dsimp only
   rw[Apd n y.1 _ hl a2,A1,A1]
   dsimp only
   rw[Z0 n [59] y.1 _ hl a3,A1,A1,A6 (by unfold Cb at hs;omega),A6 (by unfold Cb at hs;omega)]
   have:=ih k K (N8 y.1 s).2 (acc++[(N8 y.1 s).1]) v1 (by have:=Rq (t:=(N8 y.1 s).2) h2 hs (.inr v2) v1;omega) (by omega) (by omega) (by simp;omega)
   have hv:N8 y.1 s=(⟨(nmF y.1 (s.1+1,s.2)).1,(nuF y.1 (sgF [61] y.1 (nmF y.1 (s.1+1,s.2)).2)).1,y.1[s.1].Ab⟩,sgF [59] y.1 (nuF y.1 (sgF [61] y.1 (nmF y.1 (s.1+1,s.2)).2)).2):=by unfold N8;rw[A3c h1]
   rw[hv] at this
   rw[hv]
   exact this
structure TokB (B T:Nat) (l:List Tk):Prop where
 toks:Toks T l
 small:B < 1000000
 at':∀ t ∈ l,Sb t∧t.Ab+t.Ac.length≤B
def Ox (B:Nat) (x:Nd):Prop:=0≤x.Ab∧x.Ab≤B
def A66 (B:Nat) (x:St):Prop:=(0≤x.Ab∧x.Ab≤B)∧(∀ y ∈ x.Bm,Ox B y)∧∀ y ∈ x.C6,Ox B y
theorem TokB.tk {B T:Nat} {l:List Tk} (h:TokB B T l) {i:Nat} {t:Tk} (e:l[i]?=some t):0≤t.Ab∧t.Ab≤B:=by
 have:=h.at' t (List.mem_of_getElem? e);have:=this.1.1;omega
theorem Ai2 {B T:Nat} {l:List Tk} (hl:TokB B T l) {md:Md} {inn i:Nat} {r:PR} (h:PE l md inn i r):match md,r with
 | .fl _,.ok x _=>∀ y ∈ x,Ox B y
 | .lp _ x0,.ok x _=>(∀ y ∈ x0,Ox B y)→∀ y ∈ x,Ox B y
 | _,_=>True:=by
 have bin:∀ {op:Int} {t:Tk} {i:Nat} {x y:List Nd},l[i]?=some t→(∀ z ∈ x,Ox B z)→(∀ z ∈ y,Ox B z)→∀ z ∈ (⟨op,0,[],[],t.Ab⟩:Nd) :: (x++y),Ox B z:=by
  intro op t i x y ht hx hy z hz
  rcases List.mem_cons.1 hz with rfl | hz
  ·exact hl.tk ht
  ·rcases List.mem_append.1 hz with hz | hz
   ·exact hx z hz
   ·exact hy z hz
 induction h with
 | deep h1 h2 h3=>trivial
 | @not_ok inn i tu t x h1 h2 h3 h4 ih =>
  intro z hz
  rcases List.mem_cons.1 hz with rfl | hz
  ·exact hl.tk h3
  ·exact ih z hz
 | not_bad h1 h2 h4 ih=>trivial
 | par_ok h1 h2 h3 h4 ih=>exact ih
 | par_bad h1 h2 h4 ih=>trivial
 | par_open h1 h2 h3 h4 ih=>trivial
 | @num inn i t h1 h2=>intro z hz;rw[List.mem_singleton.1 hz];exact hl.tk h2
 | @reg inn i t h1 h2 h3=>intro z hz;rw[List.mem_singleton.1 hz];exact hl.tk h3
 | @of inn i t u h1 h2 h3 h4 h5=>intro z hz;rw[List.mem_singleton.1 hz];exact hl.tk h4
 | of_bad h1 h2 h3=>trivial
 | no h1 h2 h3 h4=>trivial
 | fl_bad h1 h2 ih=>trivial
 | @fl_ok f inn i tu x r h1 h2 h3 ih1 ih2 =>
  cases r with
  | ok y to2=>exact ih2 ih1
  | bad e a=>trivial
 | lp_stop h1=>exact id
 | lp_bad h1 h2 h3 ih=>trivial
 | lp_once h1 h2 h3 ih=>exact fun hx=>bin h2 hx ih
 | @lp_go f inn i tu x y t r h1 h2 h3 h4 h5 h6 ih1 ih2 =>
  cases r with
  | ok y to2=>exact fun hx=>ih2 (bin h4 hx ih1)
  | bad e a=>trivial
theorem An2 {B T:Nat} {l:List Tk} (hl:TokB B T l) {i tu:Nat} {x:List Nd} (hi:i≤l.length) (h:exQ l i=.ok x tu):∀ y ∈ x,Ox B y:=by
 obtain⟨r,hr,e⟩:=Vp hl.toks hi
 rw[h] at e
 cases r with
 | bad e' a=>simp only[M2] at e;cases e
 | ok y tv =>
  simp only[M2] at e
  split at e
  ·cases e
  ·split at e
   ·cases e
   ·split at e
    ·cases e;exact Ai2 hl hr
    ·cases e
def A71 (B:Nat) (s:Fs):Prop:=(∀ y ∈ s.e,Ox B y)∧∀ y ∈ s.f,Ox B y
def Tx (B:Nat):FR→Prop
 | .ok s _=>A71 B s
 | .bad _ _=>True
theorem Za {B T:Nat} {l:List Tk} (hl:TokB B T l):∀ (cs:List UInt8) (i:Nat) (s s':Fs) (j:Nat),i≤l.length→A71 B s→Gp l (exQ l) cs i s=.ok s' j→A71 B s'
 | [],i,s,s',j,hi,hs,h=>by rw[Gp] at h;cases h;exact hs
 | c :: cs,i,s,s',j,hi,hs,h=>by
  have h1:=Wt hl.toks (c:=c) (s:=s) hi
  have hex:match exQ l i with | .ok x _=>∀ y ∈ x,Ox B y | .bad _ _=>True:=by
   cases hx:exQ l i with
   | ok x tu=>exact An2 hl hi hx
   | bad e a=>trivial
  have hst0:Tx B (Hg l (exQ l) c i s):=by
   unfold Hg
   refine Dz (Q:=Tx B) (fun _=>Dz (Q:=Tx B) (fun _=>hs) fun _=>trivial) fun _=>Dz (Q:=Tx B) (fun _=>Dz (Q:=Tx B) (fun _=>hs) fun _=>trivial) fun _=>Dz (Q:=Tx B) (fun _=>?_) fun _=>Dz (Q:=Tx B) (fun _=>?_) fun _=>Dz (Q:=Tx B) (fun _=>Dz (Q:=Tx B) (fun _=>hs) fun _=>Dz (Q:=Tx B) (fun _=>hs) fun _=>trivial) fun _=>Dz (Q:=Tx B) (fun _=>hs) fun _=>trivial
   ·revert hex;cases exQ l i with
    | ok x tu=>intro h;exact⟨h,hs.2⟩
    | bad e a=>intro h;trivial
   ·revert hex;cases exQ l i with
    | ok x tu=>intro h;exact⟨hs.1,h⟩
    | bad e a=>intro h;trivial
  have hst:∀ s2 j2,Hg l (exQ l) c i s=.ok s2 j2→A71 B s2:=fun s2 j2 h=>by rw[h] at hst0;exact hst0
  rw[Gp] at h
  clear hst0
  revert h h1 hst
  cases Hg l (exQ l) c i s with
  | bad e a=>intro h _ _;cases h
  | ok s2 j2=>intro h h1 hst;exact Za hl cs j2 s2 s' j h1.2 (hst s2 j2 rfl) h
def Afq (B:Nat):SR→Prop
 | .ok x _=>∀ y ∈ x,A66 B y
 | .bad _ _=>True
theorem A2t {B:Nat} {x:List St} {r:SR} (h:∀ y ∈ x,A66 B y) (hr:Afq B r):Afq B (Qw x r):=by
 cases r with
 | ok z tu=>intro y hy;rcases List.mem_append.1 hy with hy | hy;exact h y hy;exact hr y hy
 | bad e a=>trivial
theorem Ase {B T:Nat} {l:List Tk} (hl:TokB B T l) {md:Bool} {inn i:Nat} {r:SR} (h:SE l md inn i r):i≤l.length→Afq B r:=by
 have hk:=hl.toks
 have pl:=fun i=>Jj hl.small hl.at' i
 have s0:A71 B fs0:=⟨fun y hy=>(by cases hy),fun y hy=>(by cases hy)⟩
 induction h with
 | stop h=>intro hi y hy;cases hy
 | no h1 h2 h3=>intro hi;trivial
 | fbad h1 h2=>intro hi;trivial
 | @simple inn i j s r h1 h2 h3 h4 ih =>
  intro hi
  have h5:=F4 hk (C4 h1) h3
  have h6:=Za hl _ _ _ _ _ (C4 h1) s0 h3
  exact A2t (fun y hy=>by rw[List.mem_singleton] at hy;subst hy;exact⟨pl i,h6.1,h6.2⟩) (ih h5.2)
 | bbad h1 h2 h3 h4 ih=>intro hi;trivial
 | @blk inn i j j2 s b r h1 h2 h3 h4 h5 h6 ih1 ih2 =>
  intro hi
  have h7:=F4 hk (C4 h1) h3
  have h9:=Za hl _ _ _ _ _ (C4 h1) s0 h3
  have h8:=Hy hk h4 h7.2
  simp only[Js,if_true] at h8
  exact A2t (fun y hy=>by
   rcases List.mem_cons.1 hy with rfl | hy
   ·exact⟨pl i,h9.1,h9.2⟩
   ·exact ih1 h7.2 y hy) (ih2 h8.2.1)
 | ebad h1 h3 h4 h5 h6 ih1 ih2=>intro hi;trivial
 | @els inn i j j2 j3 s b c r h1 h3 h4 h5 h6 h7 ih1 ih2 ih3 =>
  intro hi
  have h0:Av l i≠0:=by omega
  have h8:=F4 hk (C4 h0) h3
  have h9:=Za hl _ _ _ _ _ (C4 h0) s0 h3
  have hj:=Jh h5
  have h11:=Hy hk h6 hj
  simp only[Js,if_true] at h11
  exact A2t (fun y hy=>by
   rcases List.mem_cons.1 hy with rfl | hy
   ·exact⟨pl i,h9.1,h9.2⟩
   ·rcases List.mem_append.1 hy with hy | hy
    ·exact ih1 h8.2 y hy
    ·exact ih2 hj y hy) (ih3 h11.2.1)
 | nob h=>intro hi;trivial
 | deep h1 h2=>intro hi;trivial
 | sbad h1 h2 h3 ih=>intro hi;trivial
 | close h1 h2 h3 h4 ih=>intro hi;exact ih (D0 h1)
 | opn h1 h2 h3 h4 ih=>intro hi;trivial
theorem Ass {T:Nat} {l:List Tk} (hk:Toks T l) {n i:Nat} {r:SR} (hr:SE l false 0 i r) (hi:i≤l.length) (hn:12*l.length+T+900+6*l.length+60≤n):Rb n l (i:Int)=some (Sc l i r):=by
 have hl:=hk.len
 obtain⟨n,rfl⟩:∃ j,n=j+20:=⟨n - 20,by omega⟩
 have h:=B2x hk hr hi (by omega) (n+18) (n+18) [] (by omega) (by omega) (by simp)
 rw[Rb,Aq (by omega),Aq (by omega)]
 have g3:Aim r [] (Kv (n+19) l (i:Int) 0):=by rw[Kv];exact h
 cases r with
 | bad e a =>
  have hne:e≠0:=Hy hk hr hi
  have g3:Kv (n+19) l (i:Int) 0=some ([],0,e,a):=g3
  rw[g3,A1]
  dsimp only
  rw[show(e != 0)=true by rw[bne_iff_ne];exact hne,Af];rfl
 | ok x tu =>
  have g3:Kv (n+19) l (i:Int) 0=some (x,(tu:Int),0,0):=g3
  rw[g3,A1]
  dsimp only
  rw[bne_self_eq_false,An]
  simp only[Sc]
  by_cases c:200 < x.length
  ·rw[if_pos c,A6 (by omega),Ain (n+18) l i (by omega)];rfl
  ·rw[if_neg c,Aq (by omega)]
theorem A15 {T:Nat} {l:List Tk} (hk:Toks T l) {i:Nat} (hi:i≤l.length):∃ r,SE l false 0 i r∧seQ l i=Sc l i r:=by
 have h:∃ r,SE l false 0 i r:=Afk hk l.length i 0 false (by omega) hi (by omega)
 exact⟨h.choose,h.choose_spec,by unfold seQ;rw[dif_pos h]⟩
theorem A25 {T:Nat} {l:List Tk} (hk:Toks T l) {i:Nat} (hi:i≤l.length):∃ r,PE l (.fl 0) 0 i r∧peQ l i=Ly l i r:=by
 have h:∃ r,PE l (.fl 0) 0 i r:=A76 l.length i 0 0 (by omega) hi (by omega) (by omega)
 exact⟨h.choose,h.choose_spec,by unfold peQ;rw[dif_pos h]⟩
theorem B2q {T:Nat} {l:List Tk} (hk:Toks T l) {n i:Nat} (hi:i≤l.length) (hn:18*l.length+T+960≤n):Rb n l (i:Int)=some (seQ l i):=by
 obtain⟨r,hr,e⟩:=A15 hk hi
 rw[e];exact Ass hk hr hi (by omega)
theorem B32 {T:Nat} {l:List Tk} (hk:Toks T l) {n i:Nat} (hi:i≤l.length) (hn:12*l.length+T+200≤n):Sj n l (i:Int)=some (peQ l i):=by
 obtain⟨r,hr,e⟩:=A25 hk hi
 rw[e];exact Akv hk.len hk.ok hk.txt hk.small hr hi hn
theorem A08 {T:Nat} {l:List Tk} (hk:Toks T l) {i:Nat} (hi:i≤l.length):((seQ l i).2.2.1≠0∧(seQ l i).1=[]∧(seQ l i).2.1=0)∨(∃ tu:Nat,(seQ l i).2=((tu:Int),0,0)∧i≤tu∧tu≤l.length∧No (seQ l i).1=true∧(seQ l i).1.length≤200):=by
 obtain⟨r,hr,e⟩:=A15 hk hi
 rw[e]
 have hok:=Hy hk hr hi
 have htr:=Aio hk hr hi (by omega)
 cases r with
 | bad e a=>exact .inl ⟨hok,rfl,rfl⟩
 | ok x tu =>
  simp only[Sc]
  by_cases c:200 < x.length
  ·rw[if_pos c];exact .inl ⟨(by decide:(2:Int)≠0),rfl,rfl⟩
  ·rw[if_neg c]
   simp only[Js,Bool.false_eq_true,if_false] at hok
   refine .inr ⟨tu,rfl,by omega,hok.2.1,?_,(show x.length≤200 by omega)⟩
   simp only[Bool.false_eq_true,if_false] at htr
   obtain⟨F,f1,f2,f3,f4⟩:=htr
   subst f2
   exact Aad f1 (by omega) (by omega) f4
theorem Aob {B T:Nat} {l:List Tk} (hl:TokB B T l) {i:Nat} (hi:i≤l.length):(∀ x ∈ (seQ l i).1,A66 B x)∧0≤(seQ l i).2.2.2∧(seQ l i).2.2.2≤B:=by
 obtain⟨r,hr,e⟩:=A15 hl.toks hi
 rw[e]
 have h1:=Ase hl hr hi
 have h2:=Aoe hl.toks hl.small hl.at' hr hi
 have pl:=Jj hl.small hl.at' i
 cases r with
 | bad e a=>exact⟨fun x hx=>(by cases hx),h2.1,h2.2⟩
 | ok x tu =>
  simp only[Sc]
  by_cases c:200 < x.length
  ·rw[if_pos c];exact⟨fun x hx=>(by cases hx),pl.1,pl.2⟩
  ·rw[if_neg c];exact⟨h1,(by decide:(0:Int)≤0),by dsimp only;omega⟩
theorem V8 {T:Nat} {l:List Tk} (hk:Toks T l) {i:Nat} (hi:i≤l.length):((peQ l i).2.2.1≠0∧(peQ l i).1=[]∧(peQ l i).2.1=0)∨(∃ tu:Nat,(peQ l i).2=((tu:Int),0,0)∧i < tu∧tu≤l.length∧Or (peQ l i).1∧Ep (peQ l i).1=true):=by
 obtain⟨r,hr,e⟩:=A25 hk hi
 rw[e]
 rcases A4a hr hi with ⟨e',a,h1,h2,_⟩ | ⟨x,tu,h1,h2,h3,h4⟩
 ·rw[h1];exact .inl ⟨h2,rfl,rfl⟩
 ·subst h1
  have hok:=H4 hr hi
  have hg:=Xn hk.ok hr
  dsimp only at hok hg
  obtain⟨_,_,_,_,_,h5⟩:=W6 hg h3 h4
  rw[h2];exact .inr ⟨tu,rfl,hok.1,hok.2.1,hg,h5⟩
theorem An9 {B T:Nat} {l:List Tk} (hl:TokB B T l) {i:Nat} (hi:i≤l.length):(∀ x ∈ (peQ l i).1,Ox B x)∧0≤(peQ l i).2.2.2∧(peQ l i).2.2.2≤B:=by
 obtain⟨r,hr,e⟩:=A25 hl.toks hi
 rw[e]
 have pl:=Jj hl.small hl.at' i
 rcases A4a hr hi with ⟨e',a,h1,h2,h3⟩ | ⟨x,tu,h1,h2,h3,h4⟩
 ·rw[h1]
  refine⟨fun x hx=>(by cases hx),?_⟩
  rcases h3 with h3 | h3
  ·rw[h3] at hr;exact A41 hl.small hl.at' hr
  ·rw[h3];exact pl
 ·subst h1
  rw[h2];exact⟨Ai2 hl hr,(by decide:(0:Int)≤0),by dsimp only;omega⟩
end Go.Proofs.YtnijlelbihnamaaGreat
end
