/-
  Notes and states as bytes: how they are written, how they are read, and that what was written is read back.
  The order of names: plain laws.
  Conditions: as each theorem says.
-/
import Derived.Test.YtpjlignclchgiaaGreatGI
import Derived.Lib.Varint
import Derived.Test.YtpjlignclchgiaaGreatGH
namespace Go.Proofs.YtpjlignclchgiaaGreat
set_option linter.unusedSimpArgs false
set_option linter.unusedVariables false
set_option maxRecDepth 100000
set_option maxHeartbeats 16000000
open Go.Lib (uvarint uvarint_small uvarint_big uvarint_pos uvarint_length64)
def uintG:Nat→Nat→Nat→List UInt8→Option (Nat × List UInt8)
 |0,_,_,_=>none
 |_+1,_,_,[]=>none
 | f+1,i,n,c::r=>
  if i=9∧1<c.toNat then none
  else if c.toNat<128 then (if c.toNat=0∧0<i then none else some (n+c.toNat*128 ^ i,r))
  else uintG f (i+1) (n+c.toNat%128*128 ^ i) r
def uintP (l:List UInt8):Option (Nat × List UInt8):=uintG 10 0 0 l
theorem toUInt8_nat {n:Nat} (h:n<256):n.toUInt8.toNat=n:=by simp;omega
theorem uintG_enc (r:List UInt8):∀ (f i n x:Nat),f+i=10→x*128 ^ i<18446744073709551616→(i=0∨1≤x)→
  uintG f i n (uvarint x++r)=some (n+x*128 ^ i,r)
 | 0,i,n,x,hf,hx,h1=>by
  exfalso;obtain rfl:i=10:=by omega
  have:1≤x:=by omega
  have h2:1*128 ^ 10≤x*128 ^ 10:=Nat.mul_le_mul_right _ this;omega
 | f +1,i,n,x,hf,hx,h1=>by
  by_cases hs:x<128
  ·rw [uvarint_small hs];show uintG (f+1) i n (x.toUInt8::r)=_;unfold uintG;rw[toUInt8_nat (by omega)];rw[if_neg (by
    rintro⟨rfl,h2⟩;have h3:2*128 ^ 9≤x*128 ^ 9:=Nat.mul_le_mul_right _ h2
    omega),if_pos hs,if_neg (by omega)]
  ·rw [uvarint_big (by omega)];show uintG (f+1) i n ((x%128+128).toUInt8::(uvarint (x/128)++r))=_;unfold uintG;have hm:x%128<128:=Nat.mod_lt _ (by omega);rw[toUInt8_nat (by omega)];have hi:i≠9:=by
    rintro rfl;have h3:128*128 ^ 9≤x*128 ^ 9:=Nat.mul_le_mul_right _ (by omega);omega
   rw[if_neg (by omega),if_neg (by omega)];have e1:128*(x/128)+x%128=x:=Nat.div_add_mod x 128;have e2:x/128*128 ^ (i+1)=128*(x/128)*128 ^ i:=by rw[Nat.pow_succ,Nat.mul_comm (128 ^ i) 128,←Nat.mul_assoc,Nat.mul_comm (x/128) 128]
   have e3:x*128 ^ i=128*(x/128)*128 ^ i+x%128*128 ^ i:=by rw[←Nat.add_mul,e1]
   rw[uintG_enc r f (i+1) _ (x/128) (by omega) (by rw[e2];omega) (.inr (by omega))];have:(x%128+128)%128=x%128:=by omega
   rw[this,e2];have e4:n+x%128*128 ^ i+128*(x/128)*128 ^ i=n+x*128 ^ i:=by omega
   rw[e4]
theorem uintP_enc (x:Nat) (r:List UInt8) (h:x<18446744073709551616):uintP (uvarint x++r)=some (x,r):=by
 have:=uintG_enc r 10 0 0 x rfl (by omega) (.inl rfl);unfold uintP;rw[this];simp
theorem uintG_short:∀ (f i n:Nat) (l:List UInt8) (x:Nat) (r:List UInt8),uintG f i n l=some (x,r)→r.length+1≤l.length
 |0,_,_,_,_,_,h=>by cases h
 |_+1,_,_,[],_,_,h=>by cases h
 | f +1,i,n,c::q,x,r,h=>by
  unfold uintG at h
  split at h
  ·cases h
  ·split at h
   ·split at h
    ·cases h
    ·cases h;simp
   ·have:=uintG_short f (i+1) _ q x r h;simp;omega
theorem uintP_short {l:List UInt8} {x:Nat} {r:List UInt8} (h:uintP l=some (x,r)):r.length+1≤l.length:=uintG_short _ _ _ _ _ _ h
theorem uintG_tail:∀ (f i n:Nat) (l:List UInt8) (x:Nat) (r:List UInt8),uintG f i n l=some (x,r)→r=l.drop (l.length-r.length)
 |0,_,_,_,_,_,h=>by cases h
 |_+1,_,_,[],_,_,h=>by cases h
 | f +1,i,n,c::q,x,r,h=>by
  have hs:=uintG_short _ _ _ _ _ _ h;unfold uintG at h
  split at h
  ·cases h
  ·split at h
   ·split at h
    ·cases h
    ·cases h;simp
   ·have h1:=uintG_short _ _ _ _ _ _ h;have:=uintG_tail f (i+1) _ q x r h;rw[List.length_cons,show q.length+1-r.length=(q.length-r.length)+1 by omega,List.drop_succ_cons];exact this
theorem uintG_lt:∀ (f i n:Nat) (l:List UInt8) (x:Nat) (r:List UInt8),f+i=10→n<128 ^ i→uintG f i n l=some (x,r)→x<18446744073709551616
 |0,_,_,_,_,_,_,_,h=>by cases h
 |_+1,_,_,[],_,_,_,_,h=>by cases h
 | f + 1,i,n,c::q,x,r,hf,hn,h=>by
  unfold uintG at h;have hc:c.toNat<256:=c.toNat_lt
  split at h
  ·cases h
  ·rename_i h9
   split at h
   ·split at h
    ·cases h
    ·cases h
     rename_i h1 _
     by_cases h8:i=9
     ·subst h8;have h2:c.toNat≤1:=by omega
      have h3:c.toNat*128 ^ 9≤1*128 ^ 9:=Nat.mul_le_mul_right _ h2;omega
     ·have h2:128 ^ (i+1)≤128 ^ 9:=Nat.pow_le_pow_right (by omega) (by omega);have h3:c.toNat*128 ^ i≤127*128 ^ i:=Nat.mul_le_mul_right _ (by omega);rw[Nat.pow_succ]at h2;omega
   ·refine uintG_lt f (i+1) _ q x r (by omega) ?_ h;have h3:c.toNat%128*128 ^ i≤127*128 ^ i:=Nat.mul_le_mul_right _ (by omega);rw[Nat.pow_succ];omega
theorem uintP_lt {l:List UInt8} {x:Nat} {r:List UInt8} (h:uintP l=some (x,r)):x<18446744073709551616:=uintG_lt 10 0 0 l x r rfl (by omega) h
def numP (l:List UInt8):Option (Nat × List UInt8):=match uintP l with
 |none=>none
 |some (n,r)=>if n≤65536 then some (n,r)else none
theorem numP_enc (x:Nat) (r:List UInt8) (h:x≤65536):numP (uvarint x++r)=some (x,r):=by
 unfold numP;rw[uintP_enc x r (by omega)];exact if_pos h
theorem numP_short {l:List UInt8} {x:Nat} {r:List UInt8} (h:numP l=some (x,r)):r.length+1≤l.length∧x≤65536:=by
 unfold numP at h
 cases hu:uintP l with
 |none=>rw[hu]at h;cases h
 | some p=>
  obtain⟨n,q⟩:=p;rw[hu]at h;simp only at h
  split at h
  ·cases h;exact⟨uintP_short hu,by assumption⟩
  ·cases h
def encB (x:List UInt8):List UInt8:=uvarint x.length++x
def bytesP (l:List UInt8):Option (List UInt8 × List UInt8):=match uintP l with
 |none=>none
 |some (n,r)=>if n≤r.length then some (r.take n,r.drop n)else none
theorem bytesP_enc (x r:List UInt8) (h:x.length<18446744073709551616):bytesP (encB x++r)=some (x,r):=by
 unfold bytesP encB;rw[List.append_assoc,uintP_enc _ _ h];simp
theorem bytesP_short {l x r:List UInt8} (h:bytesP l=some (x,r)):x.length+r.length+1≤l.length:=by
 unfold bytesP at h
 cases hu:uintP l with
 |none=>rw[hu]at h;cases h
 | some p=>
  obtain⟨n,q⟩:=p;rw[hu]at h;simp only at h
  split at h
  ·cases h;have:=uintP_short hu;simp;omega
  ·cases h
def extP (l:List UInt8):Option (E × List UInt8):=match numP l with
 |none=>none
 | some (a,l1)=>match numP l1 with
  |none=>none
  | some (n,l2)=>match numP l2 with
   |none=>none
   |some (s,l3)=>some (⟨a,n,s⟩,l3)
def encI (n:Int):List UInt8:=uvarint (n%18446744073709551616).toNat
theorem encI_nat (n:Nat) (h:n<18446744073709551616):encI n=uvarint n:=by
 unfold encI;have:((n:Int)%18446744073709551616).toNat=n:=by omega
 rw[this]
theorem encI_of {n:Int} (h0:0≤n) (h1:n≤65536):∃ k:Nat,n=k∧k≤65536∧encI n=uvarint k:=by
 obtain⟨k,rfl⟩:=Int.eq_ofNat_of_zero_le h0;exact⟨k,rfl,by omega,encI_nat k (by omega)⟩
def numsL (l:List Int):List UInt8:=l.flatMap encI
def encX (x:E):List UInt8:=numsL [x.a,x.n,x.s]
def encXs (l:List E):List UInt8:=l.flatMap encX
theorem numP_int {n:Int} (h0:0≤n) (h1:n≤65536) (r:List UInt8):numP (encI n++r)=some (n.toNat,r):=by
 obtain⟨k,rfl,hk,he⟩:=encI_of h0 h1;rw[he];exact numP_enc k r hk
theorem extP_enc {x:E} (h:okB x=true) (r:List UInt8):extP (encX x++r)=some (x,r):=by
 obtain ⟨h1,h2,h3,h4,h5⟩:=(okB_iff x).1 h;unfold extP encX numsL;simp only[List.flatMap_cons,List.flatMap_nil,List.append_nil,List.append_assoc];rw[numP_int h2 (by omega)];simp only;rw[numP_int (by omega) (by omega)];simp only;rw[numP_int h3 (by omega)];simp only;have:(⟨(x.a.toNat:Int),(x.n.toNat:Int),(x.s.toNat:Int)⟩:E)=x:=by
  rw[Int.toNat_of_nonneg h2,Int.toNat_of_nonneg (by omega),Int.toNat_of_nonneg h3]
 rw[this]
theorem extP_short {l:List UInt8} {x:E} {r:List UInt8} (h:extP l=some (x,r)):r.length+3≤l.length∧(0≤x.a∧x.a≤65536)∧(0≤x.n∧x.n≤65536)∧(0≤x.s∧x.s≤65536):=by
 unfold extP at h
 cases h1:numP l with
 |none=>rw[h1]at h;cases h
 | some p=>
  obtain⟨a,l1⟩:=p;rw[h1]at h;simp only at h
  cases h2:numP l1 with
  |none=>rw[h2]at h;cases h
  | some p=>
   obtain⟨n,l2⟩:=p;rw[h2]at h;simp only at h
   cases h3:numP l2 with
   |none=>rw[h3]at h;cases h
   | some p=>
    obtain⟨s,l3⟩:=p;rw[h3]at h;cases h;have:=numP_short h1;have:=numP_short h2;have:=numP_short h3;refine⟨by omega,⟨?_,?_⟩,⟨?_,?_⟩,⟨?_,?_⟩⟩ <;> simp only <;> omega
def hdrL (k:Nat) (nm:List UInt8):List UInt8:=uvarint k++encB nm
def noteAs (nm:List UInt8) (l:List E):List UInt8:=hdrL 1 nm++encI l.length++encXs l
def noteUn (nm:List UInt8) (p n:Int):List UInt8:=hdrL 2 nm++numsL [p,n]
def noteCr (nm:List UInt8) (n r:Int):List UInt8:=hdrL 3 nm++numsL [n,r]
def noteCl (nm ot:List UInt8):List UInt8:=hdrL 4 nm++encB ot
def noteDe (nm:List UInt8):List UInt8:=hdrL 5 nm
def asgP:Nat→Fam→List UInt8→List UInt8→Option (Fam × Int × List UInt8)
 |0,F,_,l=>some (F,0,l)
 | k+1,F,nm,l=>match extP l with
  |none=>none
  |some (x,r)=>if (assignF F nm x).2.2=0 then asgP k (assignF F nm x).1 nm r else some ((assignF F nm x).1,(assignF F nm x).2.2,r)
def asP (F:Fam) (l:List UInt8):Option (Fam × Int × List UInt8):=match bytesP l with
  |none=>none
  | some (nm,l1)=>if (infoF F nm).2=0 then (match numP l1 with
      |none=>none
      |some (k,l2)=>asgP k F nm l2)else some (F,(infoF F nm).2,l1)
def unP (F:Fam) (l:List UInt8):Option (Fam × Int × List UInt8):=match bytesP l with
 |none=>none
 | some (nm,l1)=>match numP l1 with
  |none=>none
  | some (p,l2)=>match numP l2 with
   |none=>none
   |some (n,l3)=>some ((unmapF F nm p n).1,(unmapF F nm p n).2.2,l3)
def crP (F:Fam) (l:List UInt8):Option (Fam × Int × List UInt8):=match bytesP l with
 |none=>none
 | some (nm,l1)=>match numP l1 with
  |none=>none
  | some (n,l2)=>match numP l2 with
   |none=>none
   |some (r,l3)=>some ((createF F nm n r).1,(createF F nm n r).2,l3)
def clP (F:Fam) (l:List UInt8):Option (Fam × Int × List UInt8):=match bytesP l with
 |none=>none
 | some (nm,l1)=>match bytesP l1 with
  |none=>none
  |some (ot,l2)=>some ((cloneF F nm ot).1,(cloneF F nm ot).2,l2)
def deP (F:Fam) (l:List UInt8):Option (Fam × Int × List UInt8):=match bytesP l with
 |none=>none
 |some (nm,l1)=>some ((deleteF F nm).1,(deleteF F nm).2.2,l1)
def chgP (k:Nat) (F:Fam) (l:List UInt8):Option (Fam × Int × List UInt8):=
 if k=1 then asP F l else if k=2 then unP F l else if k=3 then crP F l else if k=4 then clP F l else deP F l
def endP (F G:Fam) (e:Int) (l:List UInt8):Fam × Int:=
 if e≠0 then (F,e)else if l≠ []then (F,5)else if roomF G<0 then (F,11)else (G,0)
def applyP (F:Fam) (l:List UInt8):Fam × Int:=
  if 256 <l.length then (F,5)else match uintP l with
    |none=>(F,5)
    | some (k,r)=>if 1≤k∧k≤5 then (match chgP k F r with
        |none=>(F,5)
        |some (G,e,q)=>endP F G e q)else (F,5)
theorem hdr_read (k:Nat) (nm r:List UInt8) (hk:k≤5) (hn:nm.length≤65536):uintP (hdrL k nm++r)=some (k,encB nm++r)∧bytesP (encB nm++r)=some (nm,r):=by
 unfold hdrL;rw[List.append_assoc];exact⟨uintP_enc _ _ (by omega),bytesP_enc _ _ (by omega)⟩
theorem nums_two {p n:Int} (hp:0≤p∧p≤65536) (hn:0≤n∧n≤65536) (r:List UInt8):numP (numsL [p,n]++r)=some (p.toNat,encI n++r)∧numP (encI n++r)=some (n.toNat,r):=by
 unfold numsL;simp only[List.flatMap_cons,List.flatMap_nil,List.append_nil,List.append_assoc];exact⟨numP_int hp.1 hp.2 _,numP_int hn.1 hn.2 _⟩
theorem apply_un (F:Fam) (nm:List UInt8) (p n:Int) (h:(noteUn nm p n).length≤256) (hn:nm.length≤65536) (hp:0≤p∧p≤65536) (hq:0≤n∧n≤65536):
  applyP F (noteUn nm p n)=endP F (unmapF F nm p n).1 (unmapF F nm p n).2.2 []:=by
 unfold applyP;rw[if_neg (by omega)];obtain⟨h1,h2⟩:=hdr_read 2 nm (numsL [p,n]) (by omega) hn;obtain⟨h3,h4⟩:=nums_two hp hq [];rw[List.append_nil]at h3 h4;unfold noteUn;rw[h1];simp only[chgP,unP,h2,h3,h4,List.append_nil];simp[Int.toNat_of_nonneg hp.1,Int.toNat_of_nonneg hq.1]
theorem apply_cr (F:Fam) (nm:List UInt8) (p n:Int) (h:(noteCr nm p n).length≤256) (hn:nm.length≤65536) (hp:0≤p∧p≤65536) (hq:0≤n∧n≤65536):
  applyP F (noteCr nm p n)=endP F (createF F nm p n).1 (createF F nm p n).2 []:=by
 unfold applyP;rw[if_neg (by omega)];obtain⟨h1,h2⟩:=hdr_read 3 nm (numsL [p,n]) (by omega) hn;obtain⟨h3,h4⟩:=nums_two hp hq [];rw[List.append_nil]at h3 h4;unfold noteCr;rw[h1];simp only[chgP,crP,h2,h3,h4,List.append_nil];simp[Int.toNat_of_nonneg hp.1,Int.toNat_of_nonneg hq.1]
theorem apply_cl (F:Fam) (nm ot:List UInt8) (h:(noteCl nm ot).length≤256) (hn:nm.length≤65536) (ho:ot.length≤65536):
  applyP F (noteCl nm ot)=endP F (cloneF F nm ot).1 (cloneF F nm ot).2 []:=by
 unfold applyP;rw[if_neg (by omega)];obtain⟨h1,h2⟩:=hdr_read 4 nm (encB ot) (by omega) hn;have h3:=bytesP_enc ot [] (by omega);rw[List.append_nil]at h3;unfold noteCl;rw[h1];simp only[chgP,clP,h2,h3];simp
theorem apply_de (F:Fam) (nm:List UInt8) (h:(noteDe nm).length≤256) (hn:nm.length≤65536):
  applyP F (noteDe nm)=endP F (deleteF F nm).1 (deleteF F nm).2.2 []:=by
 unfold applyP;rw[if_neg (by omega)];obtain⟨h1,h2⟩:=hdr_read 5 nm [] (by omega) hn;rw[List.append_nil]at h1 h2;unfold noteDe;rw[h1];simp only[chgP,deP,h2,List.append_nil];simp
def asgL (F:Fam) (nm:List UInt8):List E→Fam
 | []=>F
 |x::r=>asgL (assignF F nm x).1 nm r
def asgOk (F:Fam) (nm:List UInt8):List E→Prop
 | []=>True
 |x::r=>(assignF F nm x).2.2=0∧asgOk (assignF F nm x).1 nm r
theorem asgP_enc (nm r:List UInt8):∀ (l:List E) (F:Fam),(∀x∈l,okB x=true)→asgOk F nm l→asgP l.length F nm (encXs l++r)=some (asgL F nm l,0,r)
 | [],F,_,_=>rfl
 | x::l,F,hl,h=>by
  show asgP (l.length+1) F nm (encXs (x::l)++r)=_;unfold asgP encXs;rw[List.flatMap_cons,List.append_assoc,extP_enc (hl x (by simp))];simp only;rw[if_pos h.1];exact asgP_enc nm r l _ (fun y hy=>hl y (by simp[hy])) h.2
theorem apply_as (F:Fam) (nm:List UInt8) (l:List E) (h:(noteAs nm l).length≤256) (hn:nm.length≤65536) (hi:(infoF F nm).2=0) (hl:∀ x∈l,okB x=true) (ho:asgOk F nm l):
  applyP F (noteAs nm l)=endP F (asgL F nm l) 0 []:=by
 have hll:l.length≤65536:=by
  have:l.length≤(encXs l).length:=by
   clear h hi hl ho
   induction l with
   |nil=>simp
   | cons x r ih=>
    unfold encXs at ih ⊢;rw[List.flatMap_cons,List.length_append,List.length_cons];have h1:1≤(encX x).length:=by
     unfold encX numsL encI;simp only[List.flatMap_cons,List.length_append];have:=uvarint_pos (x.a%18446744073709551616).toNat;omega
    omega
  unfold noteAs at h;simp only[List.length_append]at h;omega
 unfold applyP;rw[if_neg (by omega)];unfold noteAs;rw[List.append_assoc];obtain⟨h1,h2⟩:=hdr_read 1 nm (encI l.length++encXs l) (by omega) hn;have h3:=numP_int (n:=l.length) (by omega) (by omega) (encXs l);have h4:=asgP_enc nm [] l F hl ho;rw[List.append_nil]at h4;rw[h1];simp only[chgP,asP,h2,h3,hi];simp[h4]
def encV (v:Vol):List UInt8:=encB v.nm++numsL [v.n,v.r,v.l.length]++encXs v.l
def stateP (F:Fam):List UInt8:=encI F.vs.length++F.vs.flatMap encV
def volP (F :Fam) (l:List UInt8):Option (Fam × List UInt8):=match bytesP l with
  |none=>none
  | some (nm,l1)=>match numP l1 with
    |none=>none
    | some (n,l2)=>match numP l2 with
      |none=>none
      | some (r,l3)=>if (createF F nm n r).2=0 then (match numP l3 with
          |none=>none
          | some (k,l4)=>match asgP k (createF F nm n r).1 nm l4 with
            |none=>none
            |some (G,e,l5)=>if e=0 then some (G,l5)else none)else none
def volsP:Nat→Fam→List UInt8→Option (Fam × List UInt8)
 |0,F,l=>some (F,l)
 | k+1,F,l=>match volP F l with
  |none=>none
  |some (G,r)=>volsP k G r
def loadP (N:Nat) (l:List UInt8):Option Fam:=match numP l with
 |none=>none
 | some (k,r)=>match volsP k ⟨N,[]⟩ r with
  |none=>none
  |some (F,q)=>if q=[]then some F else none
theorem before_asymm:∀ (a b:List UInt8),bytesBefore a b=true→bytesBefore b a=false
 | [],[],h=>by simp[bytesBefore]at h
 | [],_::_,_=>rfl
 |_::_,[],h=>by simp[bytesBefore]at h
 | x::r,y::s,h=>by
  simp only[bytesBefore,Bool.or_eq_true,decide_eq_true_eq,Bool.and_eq_true,beq_iff_eq]at h;simp only[bytesBefore,Bool.or_eq_false_iff,Bool.and_eq_false_iff];rcases h with h|⟨rfl,h2⟩
  ·have h0:¬ y<x:=fun h'=>by have h1:=UInt8.lt_iff_toNat_lt.1 h;have h2:=UInt8.lt_iff_toNat_lt.1 h';omega
   have h3:y≠x:=fun e=>by subst e;have h1:=UInt8.lt_iff_toNat_lt.1 h;omega
   exact⟨by simpa using h0,.inl (by simpa using h3)⟩
  ·exact⟨by simp,.inr (before_asymm r s h2)⟩
theorem before_irrefl (a:List UInt8):bytesBefore a a=false:=by
 cases h:bytesBefore a a
 ·rfl
 ·rw[←before_asymm a a h,h]
end Go.Proofs.YtpjlignclchgiaaGreat
