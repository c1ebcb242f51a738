/-
  Notes and states as bytes: how they are written, how they are read, and that what was written is read back.
  The order of names: plain laws.
  Conditions: as each theorem says.
-/
import Derived.Test.YtaiklhbakldfhaaGreatGI
import Derived.Lib.Varint
import Derived.Test.YtaiklhbakldfhaaGreatGH
namespace Go.Proofs.YtaiklhbakldfhaaGreat
set_option linter.unusedSimpArgs false
set_option linter.unusedVariables false
set_option maxRecDepth 100000
set_option maxHeartbeats 16000000
open Go.Lib (uvarint uvarint_small uvarint_big uvarint_pos uvarint_length64)
def lW:Nat->Nat->Nat->List UInt8->Option (Nat × List UInt8)
 |0,_,_,_=>none
 |_+1,_,_,[]=>none
 | f+1,i,n,c::r=>
  if i=9/\1<c.toNat then none
  else if c.toNat<128 then (if c.toNat=0/\0<i then none else some (n+c.toNat*128 ^ i,r))
  else lW f (i+1) (n+c.toNat%128*128 ^ i) r
def gI (l:List UInt8):Option (Nat × List UInt8):=lW 10 0 0 l
theorem jD {n:Nat} (h:n<256):n.toUInt8.toNat=n:=by simp;omega
theorem aJh (r:List UInt8):∀ (f i n x:Nat),f+i=10->x*128 ^ i<18446744073709551616->(i=0∨1<=x)->
  lW f i n (uvarint x++r)=some (n+x*128 ^ i,r)
 | 0,i,n,x,hf,hx,h1=>by
  exfalso;obtain rfl:i=10:=by omega
  have:1<=x:=by omega
  have h2:1*128 ^ 10<=x*128 ^ 10:=Nat.mul_le_mul_right _ this;omega
 | f +1,i,n,x,hf,hx,h1=>by
  by_cases hs:x<128
  ·rw [uvarint_small hs];show lW (f+1) i n (x.toUInt8::r)=_;unfold lW;rw[jD (by omega)];rw[if_neg (by
    rintro⟨rfl,h2⟩;have h3:2*128 ^ 9<=x*128 ^ 9:=Nat.mul_le_mul_right _ h2
    omega),if_pos hs,if_neg (by omega)]
  ·rw [uvarint_big (by omega)];show lW (f+1) i n ((x%128+128).toUInt8::(uvarint (x/128)++r))=_;unfold lW;have hm:x%128<128:=Nat.mod_lt _ (by omega);rw[jD (by omega)];have hi:i≠9:=by
    rintro rfl;have h3:128*128 ^ 9<=x*128 ^ 9:=Nat.mul_le_mul_right _ (by omega);omega
   rw[if_neg (by omega),if_neg (by omega)];have e1:128*(x/128)+x%128=x:=Nat.div_add_mod x 128;have e2:x/128*128 ^ (i+1)=128*(x/128)*128 ^ i:=by rw[Nat.pow_succ,Nat.mul_comm (128 ^ i) 128,<-Nat.mul_assoc,Nat.mul_comm (x/128) 128]
   have e3:x*128 ^ i=128*(x/128)*128 ^ i+x%128*128 ^ i:=by rw[<-Nat.add_mul,e1]
   rw[aJh r f (i+1) _ (x/128) (by omega) (by rw[e2];omega) (.inr (by omega))];have:(x%128+128)%128=x%128:=by omega
   rw[this,e2];have e4:n+x%128*128 ^ i+128*(x/128)*128 ^ i=n+x*128 ^ i:=by omega
   rw[e4]
theorem aBj (x:Nat) (r:List UInt8) (h:x<18446744073709551616):gI (uvarint x++r)=some (x,r):=by
 have:=aJh r 10 0 0 x rfl (by omega) (.inl rfl);unfold gI;rw[this];simp
theorem rG:∀ (f i n:Nat) (l:List UInt8) (x:Nat) (r:List UInt8),lW f i n l=some (x,r)->r.length+1<=l.length
 |0,_,_,_,_,_,h=>by cases h
 |_+1,_,_,[],_,_,h=>by cases h
 | f +1,i,n,c::q,x,r,h=>by
  unfold lW at h
  split at h
  ·cases h
  ·split at h
   ·split at h
    ·cases h
    ·cases h;simp
   ·have:=rG f (i+1) _ q x r h;simp;omega
theorem lL {l:List UInt8} {x:Nat} {r:List UInt8} (h:gI l=some (x,r)):r.length+1<=l.length:=rG _ _ _ _ _ _ h
theorem aTe:∀ (f i n:Nat) (l:List UInt8) (x:Nat) (r:List UInt8),lW f i n l=some (x,r)->r=l.drop (l.length-r.length)
 |0,_,_,_,_,_,h=>by cases h
 |_+1,_,_,[],_,_,h=>by cases h
 | f +1,i,n,c::q,x,r,h=>by
  have hs:=rG _ _ _ _ _ _ h;unfold lW at h
  split at h
  ·cases h
  ·split at h
   ·split at h
    ·cases h
    ·cases h;simp
   ·have h1:=rG _ _ _ _ _ _ h;have:=aTe f (i+1) _ q x r h;rw[List.length_cons,show q.length+1-r.length=(q.length-r.length)+1 by omega,List.drop_succ_cons];exact this
theorem aOj:∀ (f i n:Nat) (l:List UInt8) (x:Nat) (r:List UInt8),f+i=10->n<128 ^ i->lW f i n l=some (x,r)->x<18446744073709551616
 |0,_,_,_,_,_,_,_,h=>by cases h
 |_+1,_,_,[],_,_,_,_,h=>by cases h
 | f + 1,i,n,c::q,x,r,hf,hn,h=>by
  unfold lW at h;have hc:c.toNat<256:=c.toNat_lt
  split at h
  ·cases h
  ·rename_i h9
   split at h
   ·split at h
    ·cases h
    ·cases h
     rename_i h1 _
     by_cases h8:i=9
     ·subst h8;have h2:c.toNat<=1:=by omega
      have h3:c.toNat*128 ^ 9<=1*128 ^ 9:=Nat.mul_le_mul_right _ h2;omega
     ·have h2:128 ^ (i+1)<=128 ^ 9:=Nat.pow_le_pow_right (by omega) (by omega);have h3:c.toNat*128 ^ i<=127*128 ^ i:=Nat.mul_le_mul_right _ (by omega);rw[Nat.pow_succ]at h2;omega
   ·refine aOj f (i+1) _ q x r (by omega) ?_ h;have h3:c.toNat%128*128 ^ i<=127*128 ^ i:=Nat.mul_le_mul_right _ (by omega);rw[Nat.pow_succ];omega
theorem aFi {l:List UInt8} {x:Nat} {r:List UInt8} (h:gI l=some (x,r)):x<18446744073709551616:=aOj 10 0 0 l x r rfl (by omega) h
def fP (l:List UInt8):Option (Nat × List UInt8):=match gI l with
 |none=>none
 |some (n,r)=>if n<=65536 then some (n,r)else none
theorem bEv (x:Nat) (r:List UInt8) (h:x<=65536):fP (uvarint x++r)=some (x,r):=by
 unfold fP;rw[aBj x r (by omega)];exact if_pos h
theorem jJ {l:List UInt8} {x:Nat} {r:List UInt8} (h:fP l=some (x,r)):r.length+1<=l.length/\x<=65536:=by
 unfold fP at h
 cases hu:gI l with
 |none=>rw[hu]at h;cases h
 | some p=>
  obtain⟨n,q⟩:=p;rw[hu]at h;simp only at h
  split at h
  ·cases h;exact⟨lL hu,by assumption⟩
  ·cases h
def wN (x:List UInt8):List UInt8:=uvarint x.length++x
def eT (l:List UInt8):Option (List UInt8 × List UInt8):=match gI l with
 |none=>none
 |some (n,r)=>if n<=r.length then some (r.take n,r.drop n)else none
theorem zL (x r:List UInt8) (h:x.length<18446744073709551616):eT (wN x++r)=some (x,r):=by
 unfold eT wN;rw[List.append_assoc,aBj _ _ h];simp
theorem iJ {l x r:List UInt8} (h:eT l=some (x,r)):x.length+r.length+1<=l.length:=by
 unfold eT at h
 cases hu:gI l with
 |none=>rw[hu]at h;cases h
 | some p=>
  obtain⟨n,q⟩:=p;rw[hu]at h;simp only at h
  split at h
  ·cases h;have:=lL hu;simp;omega
  ·cases h
def uW (l:List UInt8):Option (E × List UInt8):=match fP l with
 |none=>none
 | some (a,l1)=>match fP l1 with
  |none=>none
  | some (n,l2)=>match fP l2 with
   |none=>none
   |some (s,l3)=>some (⟨a,n,s⟩,l3)
def encI (n:Int):List UInt8:=uvarint (n%18446744073709551616).toNat
theorem aRw (n:Nat) (h:n<18446744073709551616):encI n=uvarint n:=by
 unfold encI;have:((n:Int)%18446744073709551616).toNat=n:=by omega
 rw[this]
theorem bJi {n:Int} (h0:0<=n) (h1:n<=65536):∃ k:Nat,n=k/\k<=65536/\encI n=uvarint k:=by
 obtain⟨k,rfl⟩:=Int.eq_ofNat_of_zero_le h0;exact⟨k,rfl,by omega,aRw k (by omega)⟩
def numsL (l:List Int):List UInt8:=l.flatMap encI
def aEh (x:E):List UInt8:=numsL [x.a,x.n,x.s]
def iZ (l:List E):List UInt8:=l.flatMap aEh
theorem kT {n:Int} (h0:0<=n) (h1:n<=65536) (r:List UInt8):fP (encI n++r)=some (n.toNat,r):=by
 obtain⟨k,rfl,hk,he⟩:=bJi h0 h1;rw[he];exact bEv k r hk
theorem bGk {x:E} (h:okB x=true) (r:List UInt8):uW (aEh x++r)=some (x,r):=by
 obtain ⟨h1,h2,h3,h4,h5⟩:=(aD x).1 h;unfold uW aEh numsL;simp only[List.flatMap_cons,List.flatMap_nil,List.append_nil,List.append_assoc];rw[kT h2 (by omega)];simp only;rw[kT (by omega) (by omega)];simp only;rw[kT h3 (by omega)];simp only;have:(⟨(x.a.toNat:Int),(x.n.toNat:Int),(x.s.toNat:Int)⟩:E)=x:=by
  rw[Int.toNat_of_nonneg h2,Int.toNat_of_nonneg (by omega),Int.toNat_of_nonneg h3]
 rw[this]
theorem zF {l:List UInt8} {x:E} {r:List UInt8} (h:uW l=some (x,r)):r.length+3<=l.length/\(0<=x.a/\x.a<=65536)/\(0<=x.n/\x.n<=65536)/\(0<=x.s/\x.s<=65536):=by
 unfold uW at h
 cases h1:fP l with
 |none=>rw[h1]at h;cases h
 | some p=>
  obtain⟨a,l1⟩:=p;rw[h1]at h;simp only at h
  cases h2:fP l1 with
  |none=>rw[h2]at h;cases h
  | some p=>
   obtain⟨n,l2⟩:=p;rw[h2]at h;simp only at h
   cases h3:fP l2 with
   |none=>rw[h3]at h;cases h
   | some p=>
    obtain⟨s,l3⟩:=p;rw[h3]at h;cases h;have:=jJ h1;have:=jJ h2;have:=jJ h3;refine⟨by omega,⟨?_,?_⟩,⟨?_,?_⟩,⟨?_,?_⟩⟩ <;> simp only <;> omega
def pG (k:Nat) (nm:List UInt8):List UInt8:=uvarint k++wN nm
def iU (nm:List UInt8) (l:List E):List UInt8:=pG 1 nm++encI l.length++iZ l
def pE (nm:List UInt8) (p n:Int):List UInt8:=pG 2 nm++numsL [p,n]
def kE (nm:List UInt8) (n r:Int):List UInt8:=pG 3 nm++numsL [n,r]
def vW (nm ot:List UInt8):List UInt8:=pG 4 nm++wN ot
def pF (nm:List UInt8):List UInt8:=pG 5 nm
def wT:Nat->Fam->List UInt8->List UInt8->Option (Fam × Int × List UInt8)
 |0,F,_,l=>some (F,0,l)
 | k+1,F,nm,l=>match uW l with
  |none=>none
  |some (x,r)=>if (aQ F nm x).2.2=0 then wT k (aQ F nm x).1 nm r else some ((aQ F nm x).1,(aQ F nm x).2.2,r)
def asP (F:Fam) (l:List UInt8):Option (Fam × Int × List UInt8):=match eT l with
  |none=>none
  | some (nm,l1)=>if (eP F nm).2=0 then (match fP l1 with
      |none=>none
      |some (k,l2)=>wT k F nm l2)else some (F,(eP F nm).2,l1)
def unP (F:Fam) (l:List UInt8):Option (Fam × Int × List UInt8):=match eT l with
 |none=>none
 | some (nm,l1)=>match fP l1 with
  |none=>none
  | some (p,l2)=>match fP l2 with
   |none=>none
   |some (n,l3)=>some ((bY F nm p n).1,(bY F nm p n).2.2,l3)
def crP (F:Fam) (l:List UInt8):Option (Fam × Int × List UInt8):=match eT l with
 |none=>none
 | some (nm,l1)=>match fP l1 with
  |none=>none
  | some (n,l2)=>match fP l2 with
   |none=>none
   |some (r,l3)=>some ((aU F nm n r).1,(aU F nm n r).2,l3)
def clP (F:Fam) (l:List UInt8):Option (Fam × Int × List UInt8):=match eT l with
 |none=>none
 | some (nm,l1)=>match eT l1 with
  |none=>none
  |some (ot,l2)=>some ((bJ F nm ot).1,(bJ F nm ot).2,l2)
def deP (F:Fam) (l:List UInt8):Option (Fam × Int × List UInt8):=match eT l with
 |none=>none
 |some (nm,l1)=>some ((bC F nm).1,(bC F nm).2.2,l1)
def aEj (k:Nat) (F:Fam) (l:List UInt8):Option (Fam × Int × List UInt8):=
 if k=1 then asP F l else if k=2 then unP F l else if k=3 then crP F l else if k=4 then clP F l else deP F l
def aEg (F G:Fam) (e:Int) (l:List UInt8):Fam × Int:=
 if e≠0 then (F,e)else if l≠ []then (F,5)else if cB G<0 then (F,11)else (G,0)
def fO (F:Fam) (l:List UInt8):Fam × Int:=
  if 256 <l.length then (F,5)else match gI l with
    |none=>(F,5)
    | some (k,r)=>if 1<=k/\k<=5 then (match aEj k F r with
        |none=>(F,5)
        |some (G,e,q)=>aEg F G e q)else (F,5)
theorem wF (k:Nat) (nm r:List UInt8) (hk:k<=5) (hn:nm.length<=65536):gI (pG k nm++r)=some (k,wN nm++r)/\eT (wN nm++r)=some (nm,r):=by
 unfold pG;rw[List.append_assoc];exact⟨aBj _ _ (by omega),zL _ _ (by omega)⟩
theorem aQc {p n:Int} (hp:0<=p/\p<=65536) (hn:0<=n/\n<=65536) (r:List UInt8):fP (numsL [p,n]++r)=some (p.toNat,encI n++r)/\fP (encI n++r)=some (n.toNat,r):=by
 unfold numsL;simp only[List.flatMap_cons,List.flatMap_nil,List.append_nil,List.append_assoc];exact⟨kT hp.1 hp.2 _,kT hn.1 hn.2 _⟩
theorem aSr (F:Fam) (nm:List UInt8) (p n:Int) (h:(pE nm p n).length<=256) (hn:nm.length<=65536) (hp:0<=p/\p<=65536) (hq:0<=n/\n<=65536):
  fO F (pE nm p n)=aEg F (bY F nm p n).1 (bY F nm p n).2.2 []:=by
 unfold fO;rw[if_neg (by omega)];obtain⟨h1,h2⟩:=wF 2 nm (numsL [p,n]) (by omega) hn;obtain⟨h3,h4⟩:=aQc hp hq [];rw[List.append_nil]at h3 h4;unfold pE;rw[h1];simp only[aEj,unP,h2,h3,h4,List.append_nil];simp[Int.toNat_of_nonneg hp.1,Int.toNat_of_nonneg hq.1]
theorem aIj (F:Fam) (nm:List UInt8) (p n:Int) (h:(kE nm p n).length<=256) (hn:nm.length<=65536) (hp:0<=p/\p<=65536) (hq:0<=n/\n<=65536):
  fO F (kE nm p n)=aEg F (aU F nm p n).1 (aU F nm p n).2 []:=by
 unfold fO;rw[if_neg (by omega)];obtain⟨h1,h2⟩:=wF 3 nm (numsL [p,n]) (by omega) hn;obtain⟨h3,h4⟩:=aQc hp hq [];rw[List.append_nil]at h3 h4;unfold kE;rw[h1];simp only[aEj,crP,h2,h3,h4,List.append_nil];simp[Int.toNat_of_nonneg hp.1,Int.toNat_of_nonneg hq.1]
theorem bHj (F:Fam) (nm ot:List UInt8) (h:(vW nm ot).length<=256) (hn:nm.length<=65536) (ho:ot.length<=65536):
  fO F (vW nm ot)=aEg F (bJ F nm ot).1 (bJ F nm ot).2 []:=by
 unfold fO;rw[if_neg (by omega)];obtain⟨h1,h2⟩:=wF 4 nm (wN ot) (by omega) hn;have h3:=zL ot [] (by omega);rw[List.append_nil]at h3;unfold vW;rw[h1];simp only[aEj,clP,h2,h3];simp
theorem aSs (F:Fam) (nm:List UInt8) (h:(pF nm).length<=256) (hn:nm.length<=65536):
  fO F (pF nm)=aEg F (bC F nm).1 (bC F nm).2.2 []:=by
 unfold fO;rw[if_neg (by omega)];obtain⟨h1,h2⟩:=wF 5 nm [] (by omega) hn;rw[List.append_nil]at h1 h2;unfold pF;rw[h1];simp only[aEj,deP,h2,List.append_nil];simp
def aCu (F:Fam) (nm:List UInt8):List E->Fam
 | []=>F
 |x::r=>aCu (aQ F nm x).1 nm r
def aIi (F:Fam) (nm:List UInt8):List E->Prop
 | []=>True
 |x::r=>(aQ F nm x).2.2=0/\aIi (aQ F nm x).1 nm r
theorem aIh (nm r:List UInt8):∀ (l:List E) (F:Fam),(∀x∈l,okB x=true)->aIi F nm l->wT l.length F nm (iZ l++r)=some (aCu F nm l,0,r)
 | [],F,_,_=>rfl
 | x::l,F,hl,h=>by
  show wT (l.length+1) F nm (iZ (x::l)++r)=_;unfold wT iZ;rw[List.flatMap_cons,List.append_assoc,bGk (hl x (by simp))];simp only;rw[if_pos h.1];exact aIh nm r l _ (fun y hy=>hl y (by simp[hy])) h.2
theorem bHk (F:Fam) (nm:List UInt8) (l:List E) (h:(iU nm l).length<=256) (hn:nm.length<=65536) (hi:(eP F nm).2=0) (hl:∀ x∈l,okB x=true) (ho:aIi F nm l):
  fO F (iU nm l)=aEg F (aCu F nm l) 0 []:=by
 have hll:l.length<=65536:=by
  have:l.length<=(iZ l).length:=by
   clear h hi hl ho
   induction l with
   |nil=>simp
   | cons x r ih=>
    unfold iZ at ih ⊢;rw[List.flatMap_cons,List.length_append,List.length_cons];have h1:1<=(aEh x).length:=by
     unfold aEh numsL encI;simp only[List.flatMap_cons,List.length_append];have:=uvarint_pos (x.a%18446744073709551616).toNat;omega
    omega
  unfold iU at h;simp only[List.length_append]at h;omega
 unfold fO;rw[if_neg (by omega)];unfold iU;rw[List.append_assoc];obtain⟨h1,h2⟩:=wF 1 nm (encI l.length++iZ l) (by omega) hn;have h3:=kT (n:=l.length) (by omega) (by omega) (iZ l);have h4:=aIh nm [] l F hl ho;rw[List.append_nil]at h4;rw[h1];simp only[aEj,asP,h2,h3,hi];simp[h4]
def wL (v:Vol):List UInt8:=wN v.nm++numsL [v.n,v.r,v.l.length]++iZ v.l
def jG (F:Fam):List UInt8:=encI F.vs.length++F.vs.flatMap wL
def bKw (F :Fam) (l:List UInt8):Option (Fam × List UInt8):=match eT l with
  |none=>none
  | some (nm,l1)=>match fP l1 with
    |none=>none
    | some (n,l2)=>match fP l2 with
      |none=>none
      | some (r,l3)=>if (aU F nm n r).2=0 then (match fP l3 with
          |none=>none
          | some (k,l4)=>match wT k (aU F nm n r).1 nm l4 with
            |none=>none
            |some (G,e,l5)=>if e=0 then some (G,l5)else none)else none
def aOd:Nat->Fam->List UInt8->Option (Fam × List UInt8)
 |0,F,l=>some (F,l)
 | k+1,F,l=>match bKw F l with
  |none=>none
  |some (G,r)=>aOd k G r
def bKj (N:Nat) (l:List UInt8):Option Fam:=match fP l with
 |none=>none
 | some (k,r)=>match aOd k ⟨N,[]⟩ r with
  |none=>none
  |some (F,q)=>if q=[]then some F else none
theorem qD:∀ (a b:List UInt8),bytesBefore a b=true->bytesBefore b a=false
 | [],[],h=>by simp[bytesBefore]at h
 | [],_::_,_=>rfl
 |_::_,[],h=>by simp[bytesBefore]at h
 | x::r,y::s,h=>by
  simp only[bytesBefore,Bool.or_eq_true,decide_eq_true_eq,Bool.and_eq_true,beq_iff_eq]at h;simp only[bytesBefore,Bool.or_eq_false_iff,Bool.and_eq_false_iff];rcases h with h|⟨rfl,h2⟩
  ·have h0:¬ y<x:=fun h'=>by have h1:=UInt8.lt_iff_toNat_lt.1 h;have h2:=UInt8.lt_iff_toNat_lt.1 h';omega
   have h3:y≠x:=fun e=>by subst e;have h1:=UInt8.lt_iff_toNat_lt.1 h;omega
   exact⟨by simpa using h0,.inl (by simpa using h3)⟩
  ·exact⟨by simp,.inr (qD r s h2)⟩
theorem before_irrefl (a:List UInt8):bytesBefore a a=false:=by
 cases h:bytesBefore a a
 ·rfl
 ·rw[<-qD a a h,h]
end Go.Proofs.YtaiklhbakldfhaaGreat
