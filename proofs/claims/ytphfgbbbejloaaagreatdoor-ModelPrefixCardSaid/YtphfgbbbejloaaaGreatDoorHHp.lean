/- Notes and states as bytes: how they are written, how they are read, and that what was written is read back. Conditions: as each theorem says. -/
import Derived.Lib.Varint
import Derived.Test.YtphfgbbbejloaaaGreatDoorHAp
import Derived.Lib.VarintBits
set_option linter.unusedSimpArgs false
set_option linter.unusedVariables false
set_option linter.unusedSectionVars false
set_option maxRecDepth 100000
set_option maxHeartbeats 16000000
namespace Go.Proofs.YtphfgbbbejloaaaGreatDoor
open Go.RowKit Go.Maps
open Go.Proofs.Tryz
open Go.Lib (uvarint uvarint_small uvarint_big uvarint_pos uvarint_length64)
variable[Gst]
theorem Ry{P:Prop}(h:P:=by have h9:=hB.size;simp only[World.size_alloc];omega):P:=h
theorem yE{P:Prop}(h:P:=by
  clear h0 hb9 hzz hz;rcases h9b with h9|⟨h9,h1n⟩
  all_goals
   go_wp2_with fail;go_ret2;rw[HOR.o,HV.o];unfold FK;rw[hq.o];exact⟨rfl,HR1.o,HG1.o⟩
  ):P:=h
theorem aEw{P:Prop}(h:P:=by
  go_wp2_with fail;refine(LB _).m ?_;rintro e w2 ⟨rfl,rfl⟩;go_wp2_with fail;go_ret;exact⟨rfl,H1.o,H2.o⟩
  ):P:=h
theorem aEv{P:Prop}(h:P:=by
  by_cases hj0:j=0
  ·subst hj0;simpa [Addr.add]using this
  ·simpa [Addr.add,hj0]using this
  ):P:=h
def nN:Nat->Nat->Nat->LU->Option (Nat × LU)
 |0,_,_,_=>none
 |_+1,_,_,[]=>none
 | f+1,i,n,c::r=>
  if i=9/\1<c.toNat then none
  else if c.toNat<128 then (if c.toNat=0/\0<i then none else some (n+c.toNat*128 ^ i,r))
  else nN f (i+1) (n+c.toNat%128*128 ^ i) r
def iG(l:LU):Option (Nat × LU):=nN 10 0 0 l
theorem qZ{n:Nat}(h:n<256):n.toUInt8.toNat=n:=by simp;omega
theorem Gs(r:LU):∀(f i n x:Nat),f+i=10->x*128 ^ i<18446744073709551616->(i=0∨1<=x)->
  nN f i n (uvarint x++r)=some (n+x*128 ^ i,r)
 | 0,i,n,x,hf,hx,h1=>by
  exfalso;obtain rfl:i=10:=oM
  have:1<=x:=oM
  have h2:1*128 ^ 10<=x*128 ^ 10:=Nat.mul_le_mul_right _ this;omega
 | f +1,i,n,x,hf,hx,h1=>by
  by_cases hs:x<128
  ·rw [uvarint_small hs];show nN (f+1) i n (x.toUInt8::r)=_;unfold nN;rw[qZ oM];rw[Qe (by
    rintro⟨rfl,h2⟩;have h3:2*128 ^ 9<=x*128 ^ 9:=Nat.mul_le_mul_right _ h2
    omega),Qf hs,Qe oM]
  ·rw [uvarint_big oM];show nN (f+1) i n ((x%128+128).toUInt8::(uvarint (x/128)++r))=_;unfold nN;have hm:x%128<128:=Nat.mod_lt _ oM;rw[qZ oM];have hi:i≠9:=by
    rintro rfl;have h3:128*128 ^ 9<=x*128 ^ 9:=Nat.mul_le_mul_right _ oM;omega
   rw[Qe oM,Qe oM];have e1:128*(x/128)+x%128=x:=Nat.div_add_mod x 128;have e2:x/128*128 ^ (i+1)=128*(x/128)*128 ^ i:=by rw[Nat.pow_succ,Nat.mul_comm (128 ^ i) 128,<-Nat.mul_assoc,Nat.mul_comm (x/128) 128]
   have e3:x*128 ^ i=128*(x/128)*128 ^ i+x%128*128 ^ i:=by rw[<-Nat.add_mul,e1]
   rw[Gs r f (i+1) _ (x/128) oM (by rw[e2];omega) (.inr oM)];have:(x%128+128)%128=x%128:=oM
   rw[this,e2];have e4:n+x%128*128 ^ i+128*(x/128)*128 ^ i=n+x*128 ^ i:=oM
   rw[e4]
theorem Bo(x:Nat)(r:LU)(h:x<18446744073709551616):iG (uvarint x++r)=some (x,r):=by
 have:=Gs r 10 0 0 x rfl oM (.inl rfl);unfold iG;rw[this];simp
theorem Cr:∀(f i n:Nat) (l:LU) (x:Nat) (r:LU),nN f i n l=some (x,r)->r.length+1<=l.length
 |0,_,_,_,_,_,h=>by cases h
 |_+1,_,_,[],_,_,h=>by cases h
 | f +1,i,n,c::q,x,r,h=>by
  unfold nN at h
  split at h
  ·cases h
  ·split at h
   ·split at h
    ·cases h
    ·cases h;simp
   ·have:=Cr f (i+1) _ q x r h;simp;omega
theorem qY{l:LU}{x:Nat}{r:LU}(h:iG l=some (x,r)):r.length+1<=l.length:=Cr _ _ _ _ _ _ h
theorem Kj:∀(f i n:Nat) (l:LU) (x:Nat) (r:LU),f+i=10->n<128 ^ i->nN f i n l=some (x,r)->x<18446744073709551616
 |0,_,_,_,_,_,_,_,h=>by cases h
 |_+1,_,_,[],_,_,_,_,h=>by cases h
 | f + 1,i,n,c::q,x,r,hf,hn,h=>by
  unfold nN at h;have hc:c.toNat<256:=c.toNat_lt
  split at h
  ·cases h
  ·rename_i h9
   split at h
   ·split at h
    ·cases h
    ·cases h
     rename_i h1 _
     by_cases h8:i=9
     ·subst h8;have h2:c.toNat<=1:=oM
      have h3:c.toNat*128 ^ 9<=1*128 ^ 9:=Nat.mul_le_mul_right _ h2;omega
     ·have h2:128 ^ (i+1)<=128 ^ 9:=Nat.pow_le_pow_right oM oM;have h3:c.toNat*128 ^ i<=127*128 ^ i:=Nat.mul_le_mul_right _ oM;rw[Nat.pow_succ]at h2;omega
   ·refine Kj f (i+1) _ q x r oM ?_ h;have h3:c.toNat%128*128 ^ i<=127*128 ^ i:=Nat.mul_le_mul_right _ oM;rw[Nat.pow_succ];omega
theorem VA{l:LU}{x:Nat}{r:LU}(h:iG l=some (x,r)):x<18446744073709551616:=Kj 10 0 0 l x r rfl oM h
def jB(l:LU):Option (Nat × LU):=match iG l with
 |none=>none
 |some (n,r)=>if n<=65536 then some (n,r)else none
theorem Xu(x:Nat)(r:LU)(h:x<=65536):jB (uvarint x++r)=some (x,r):=by
 unfold jB;rw[Bo x r oM];exact Qf h
theorem iU{l:LU}{x:Nat}{r:LU}(h:jB l=some (x,r)):r.length+1<=l.length/\x<=65536:=by
 unfold jB at h
 cases hu:iG l with
 |none=>rw[hu]at h;cases h
 | some p=>
  obtain⟨n,q⟩:=p;rw[hu]at h;simp only at h
  split at h
  ·cases h;exact⟨qY hu,aS⟩
  ·cases h
def AV(x:LU):LU:=uvarint x.length++x
def fO(l:LU):Option (LU × LU):=match iG l with
 |none=>none
 |some (n,r)=>if n<=r.length then some (r.take n,r.drop n)else none
theorem Fx(x r:LU)(h:x.length<18446744073709551616):fO (AV x++r)=some (x,r):=by
 unfold fO AV;rw[Yc,Bo _ _ h];simp
theorem iD{l x r:LU}(h:fO l=some (x,r)):x.length+r.length+1<=l.length:=by
 unfold fO at h
 cases hu:iG l with
 |none=>rw[hu]at h;cases h
 | some p=>
  obtain⟨n,q⟩:=p;rw[hu]at h;simp only at h
  split at h
  ·cases h;have:=qY hu;simp;omega
  ·cases h
def zG(l:LU):Option (E × LU):=match jB l with
 |none=>none
 | some (a,l1)=>match jB l1 with
  |none=>none
  | some (n,l2)=>match jB l2 with
   |none=>none
   |some (s,l3)=>some (⟨a,n,s⟩,l3)
def encI(n:Int):LU:=uvarint (n%18446744073709551616).toNat
theorem Zk(n:Nat)(h:n<18446744073709551616):encI n=uvarint n:=by
 unfold encI;have:((n:Int)%18446744073709551616).toNat=n:=oM
 rw[this]
theorem aBx{n:Int}(h0:0<=n)(h1:n<=65536):∃k:Nat,n=k/\k<=65536/\encI n=uvarint k:=by
 obtain⟨k,rfl⟩:=Qr h0;exact⟨k,rfl,oM,Zk k oM⟩
def numsL(l:List Int):LU:=l.flatMap encI
def Gj(x:E):LU:=numsL [x.a,x.n,x.s]
def kG(l:List E):LU:=l.flatMap Gj
theorem sG{n:Int}(h0:0<=n)(h1:n<=65536)(r:LU):jB (encI n++r)=some (n.toNat,r):=by
 obtain⟨k,rfl,hk,he⟩:=aBx h0 h1;rw[he];exact Xu k r hk
theorem Zd{x:E}(h:okB x=true)(r:LU):zG (Gj x++r)=some (x,r):=by
 obtain ⟨h1,h2,h3,h4,h5⟩:=(aB x).1 h;unfold zG Gj numsL;simp only[List.flatMap_cons,List.flatMap_nil,List.append_nil,Yc];rw[sG h2 oM];simp only;rw[sG oM oM];simp only;rw[sG h3 oM];simp only;have:(⟨(x.a.toNat:Int),(x.n.toNat:Int),(x.s.toNat:Int)⟩:E)=x:=by
  rw[Int.toNat_of_nonneg h2,Int.toNat_of_nonneg oM,Int.toNat_of_nonneg h3]
 rw[this]
theorem zF{l:LU}{x:E}{r:LU}(h:zG l=some (x,r)):r.length+3<=l.length/\(0<=x.a/\x.a<=65536)/\(0<=x.n/\x.n<=65536)/\(0<=x.s/\x.s<=65536):=by
 unfold zG at h
 cases h1:jB l with
 |none=>rw[h1]at h;cases h
 | some p=>
  obtain⟨a,l1⟩:=p;rw[h1]at h;simp only at h
  cases h2:jB l1 with
  |none=>rw[h2]at h;cases h
  | some p=>
   obtain⟨n,l2⟩:=p;rw[h2]at h;simp only at h
   cases h3:jB l2 with
   |none=>rw[h3]at h;cases h
   | some p=>
    obtain⟨s,l3⟩:=p;rw[h3]at h;cases h;have:=iU h1;have:=iU h2;have:=iU h3;refine⟨oM,⟨?_,?_⟩,⟨?_,?_⟩,⟨?_,?_⟩⟩ <;> simp only <;> omega
def qO(k:Nat)(nm:LU):LU:=uvarint k++AV nm
def lT(nm:LU)(l:List E):LU:=qO 1 nm++encI l.length++kG l
def uD(nm:LU)(p n:Int):LU:=qO 2 nm++numsL [p,n]
def uF(nm:LU)(n r:Int):LU:=qO 3 nm++numsL [n,r]
def uG(nm ot:LU):LU:=qO 4 nm++AV ot
def uE(nm:LU):LU:=qO 5 nm
def yB:Nat->Fam->LU->LU->Option (Fam × Int × LU)
 |0,F,_,l=>some (F,0,l)
 | k+1,F,nm,l=>match zG l with
  |none=>none
  |some (x,r)=>if (aV F nm x).2.2=0 then yB k (aV F nm x).1 nm r else some ((aV F nm x).1,(aV F nm x).2.2,r)
def asP(F:Fam)(l:LU):Option (Fam × Int × LU):=match fO l with
  |none=>none
  | some (nm,l1)=>if (dW F nm).2=0 then (match jB l1 with
      |none=>none
      |some (k,l2)=>yB k F nm l2)else some (F,(dW F nm).2,l1)
def unP(F:Fam)(l:LU):Option (Fam × Int × LU):=match fO l with
 |none=>none
 | some (nm,l1)=>match jB l1 with
  |none=>none
  | some (p,l2)=>match jB l2 with
   |none=>none
   |some (n,l3)=>some ((bS F nm p n).1,(bS F nm p n).2.2,l3)
def crP(F:Fam)(l:LU):Option (Fam × Int × LU):=match fO l with
 |none=>none
 | some (nm,l1)=>match jB l1 with
  |none=>none
  | some (n,l2)=>match jB l2 with
   |none=>none
   |some (r,l3)=>some ((aW F nm n r).1,(aW F nm n r).2,l3)
def clP(F:Fam)(l:LU):Option (Fam × Int × LU):=match fO l with
 |none=>none
 | some (nm,l1)=>match fO l1 with
  |none=>none
  |some (ot,l2)=>some ((bJ F nm ot).1,(bJ F nm ot).2,l2)
def deP(F:Fam)(l:LU):Option (Fam × Int × LU):=match fO l with
 |none=>none
 |some (nm,l1)=>some ((aZ F nm).1,(aZ F nm).2.2,l1)
def Dm(k:Nat)(F:Fam)(l:LU):Option (Fam × Int × LU):=
 if k=1 then asP F l else if k=2 then unP F l else if k=3 then crP F l else if k=4 then clP F l else deP F l
def Dl(F G:Fam)(e:Int)(l:LU):Fam × Int:=
 if e≠0 then (F,e)else if l≠ []then (F,5)else if dC G<0 then (F,11)else (G,0)
def lH(F:Fam)(l:LU):Fam × Int:=
  if 256 <l.length then (F,5)else match iG l with
    |none=>(F,5)
    | some (k,r)=>if 1<=k/\k<=5 then (match Dm k F r with
        |none=>(F,5)
        |some (G,e,q)=>Dl F G e q)else (F,5)
theorem wH(k:Nat)(nm r:LU)(hk:k<=5)(hn:nm.length<=65536):iG (qO k nm++r)=some (k,AV nm++r)/\fO (AV nm++r)=some (nm,r):=by
 unfold qO;rw[Yc];exact⟨Bo _ _ oM,Fx _ _ oM⟩
theorem Lr{p n:Int}(hp:0<=p/\p<=65536)(hn:0<=n/\n<=65536)(r:LU):jB (numsL [p,n]++r)=some (p.toNat,encI n++r)/\jB (encI n++r)=some (n.toNat,r):=by
 unfold numsL;simp only[List.flatMap_cons,List.flatMap_nil,List.append_nil,Yc];exact⟨sG hp.1 hp.2 _,sG hn.1 hn.2 _⟩
theorem ZI(F:Fam)(nm:LU)(p n:Int)(h:(uD nm p n).length<=256)(hn:nm.length<=65536)(hp:0<=p/\p<=65536)(hq:0<=n/\n<=65536):
  lH F (uD nm p n)=Dl F (bS F nm p n).1 (bS F nm p n).2.2 []:=by
 unfold lH;rw[Qe oM];obtain⟨h1,h2⟩:=wH 2 nm (numsL [p,n]) oM hn;obtain⟨h3,h4⟩:=Lr hp hq [];rw[List.append_nil]at h3 h4;unfold uD;rw[h1];simp only[Dm,unP,h2,h3,h4,List.append_nil];simp[Int.toNat_of_nonneg hp.1,Int.toNat_of_nonneg hq.1]
theorem ZL(F:Fam)(nm:LU)(p n:Int)(h:(uF nm p n).length<=256)(hn:nm.length<=65536)(hp:0<=p/\p<=65536)(hq:0<=n/\n<=65536):
  lH F (uF nm p n)=Dl F (aW F nm p n).1 (aW F nm p n).2 []:=by
 unfold lH;rw[Qe oM];obtain⟨h1,h2⟩:=wH 3 nm (numsL [p,n]) oM hn;obtain⟨h3,h4⟩:=Lr hp hq [];rw[List.append_nil]at h3 h4;unfold uF;rw[h1];simp only[Dm,crP,h2,h3,h4,List.append_nil];simp[Int.toNat_of_nonneg hp.1,Int.toNat_of_nonneg hq.1]
theorem ZM(F:Fam)(nm ot:LU)(h:(uG nm ot).length<=256)(hn:nm.length<=65536)(ho:ot.length<=65536):
  lH F (uG nm ot)=Dl F (bJ F nm ot).1 (bJ F nm ot).2 []:=by
 unfold lH;rw[Qe oM];obtain⟨h1,h2⟩:=wH 4 nm (AV ot) oM hn;have h3:=Fx ot [] oM;rw[List.append_nil]at h3;unfold uG;rw[h1];simp only[Dm,clP,h2,h3];simp
theorem ZK(F:Fam)(nm:LU)(h:(uE nm).length<=256)(hn:nm.length<=65536):
  lH F (uE nm)=Dl F (aZ F nm).1 (aZ F nm).2.2 []:=by
 unfold lH;rw[Qe oM];obtain⟨h1,h2⟩:=wH 5 nm [] oM hn;rw[List.append_nil]at h1 h2;unfold uE;rw[h1];simp only[Dm,deP,h2,List.append_nil];simp
def FI(F:Fam)(nm:LU):List E->Fam
 | []=>F
 |x::r=>FI (aV F nm x).1 nm r
def Nl(F:Fam)(nm:LU):List E->Prop
 | []=>True
 |x::r=>(aV F nm x).2.2=0/\Nl (aV F nm x).1 nm r
theorem Nk(nm r:LU):∀(l:List E) (F:Fam),(∀x∈l,okB x=true)->Nl F nm l->yB l.length F nm (kG l++r)=some (FI F nm l,0,r)
 | [],F,_,_=>rfl
 | x::l,F,hl,h=>by
  show yB (l.length+1) F nm (kG (x::l)++r)=_;unfold yB kG;rw[List.flatMap_cons,Yc,Zd (hl x sM)];simp only;rw[Qf h.1];exact Nk nm r l _ (λy hy=>hl y (by simp[hy])) h.2
theorem ZN(F:Fam)(nm:LU)(l:List E)(h:(lT nm l).length<=256)(hn:nm.length<=65536)(hi:(dW F nm).2=0)(hl:∀x∈l,okB x=true)(ho:Nl F nm l):
  lH F (lT nm l)=Dl F (FI F nm l) 0 []:=by
 have hll:l.length<=65536:=by
  have:l.length<=(kG l).length:=by
   clear h hi hl ho
   induction l with
   |nil=>simp
   | cons x r ih=>
    unfold kG at ih ⊢;rw[List.flatMap_cons,Qg,List.length_cons];have h1:1<=(Gj x).length:=by
     unfold Gj numsL encI;simp only[List.flatMap_cons,Qg];have:=uvarint_pos (x.a%18446744073709551616).toNat;omega
    omega
  unfold lT at h;simp only[Qg]at h;omega
 unfold lH;rw[Qe oM];unfold lT;rw[Yc];obtain⟨h1,h2⟩:=wH 1 nm (encI l.length++kG l) oM hn;have h3:=sG (n:=l.length) oM oM (kG l);have h4:=Nk nm [] l F hl ho;rw[List.append_nil]at h4;rw[h1];simp only[Dm,asP,h2,h3,hi];simp[h4]
theorem uZ:∀(a b:LU),bytesBefore a b=true->bytesBefore b a=false
 | [],[],h=>by simp[bytesBefore]at h
 | [],_::_,_=>rfl
 |_::_,[],h=>by simp[bytesBefore]at h
 | x::r,y::s,h=>by
  simp only[bytesBefore,Bool.or_eq_true,Qc,Qd,beq_iff_eq]at h;simp only[bytesBefore,Bool.or_eq_false_iff,Yo];rcases h with h|⟨rfl,h2⟩
  ·have h0:¬ y<x:=λh'=>by have h1:=UInt8.lt_iff_toNat_lt.1 h;have h2:=UInt8.lt_iff_toNat_lt.1 h';omega
   have h3:y≠x:=λe=>by subst e;have h1:=UInt8.lt_iff_toNat_lt.1 h;omega
   exact⟨by simpa using h0,.inl (by simpa using h3)⟩
  ·exact⟨sM,.inr (uZ r s h2)⟩
theorem before_irrefl(a:LU):bytesBefore a a=false:=by
 cases h:bytesBefore a a
 ·rfl
 ·rw[<-uZ a a h,h]
theorem YB:(prog.info? 5).map (λi=>(i.zero,i.size,i.bytes))=some (some (.int .u8 0),1,1):=kR
abbrev byV(c:UInt8):Value:= .int .u8 (c.toNat:Int)
def RdY(w:Wd)(a:OA)(l:LU):Prop:=
 l.length<=1000000000/\(l=[]∨ ∃b o,a=cw b o/\ ∀k c,l[k]? =some c->w (cw b (o+k))=some (byV c))
def mJ(w:Wd)(B:Nat)(v:Value)(l:LU):Prop:=w.ownsRow B 5 1 v l.length (l.map byV)
theorem RdY.keep{w w':Wd}(h:Below w w w'){a:OA}{l:LU}(hr:RdY w a l):RdY w' a l:=
 ⟨hr.1,hr.2.imp id λ⟨b,o,ha,hat⟩=>⟨b,o,ha,λk x hk=>h.keep (hat k x hk)⟩⟩
theorem RdY.at{w:Wd}{a:OA}{l:LU}(hr:RdY w a l)(h:0<l.length):∃b o,a=cw b o/\ ∀k c,l[k]? =some c->w (cw b (o+k))=some (byV c):=
 hr.2.resolve_left (by intro e;rw[e]at h;simp at h)
theorem RdY.nil(w:Wd):RdY w none []:=⟨sM,.inl rfl⟩
theorem mJ.nil(w:Wd)(B:Nat):mJ w B sn []:=World.ownsRow_nil _ _ _ _
theorem mJ.lt{w:Wd}{B:Nat}{v:Value}{l:LU}(h:mJ w B v l):∀k,v.ownBlock=some k->B<=k/\k<w.heap.size:=World.ownsRow.lt h
theorem mJ.mono{w:Wd}{B B':Nat}{v:Value}{l:LU}(h:mJ w B v l)(hB:B'<=B):mJ w B' v l:=
 ⟨h.1,h.2.imp id λ⟨g,cap,cur,hv,hg,r⟩=>⟨g,cap,cur,hv,Nat.le_trans hB hg,r⟩⟩
theorem mJ.form{w:Wd}{B:Nat}{v:Value}{l:LU}(h:mJ w B v l):
  (v=sn/\l=[])∨ ∃g c,v= .slice (cw g 0) l c/\B<=g/\g<w.heap.size/\l.length<=c/\c<=maxLen/\(∀k x,l[k]? =some x->w (cw g k)=some (byV x))/\ ∀i,w.frozen? (cw g i)=false:=by
 rcases h.2 with ⟨rfl,hn⟩|⟨g,cap,cur,rfl,hb,hg,hn,hc,hs,ht⟩
 ·exact .inl ⟨rfl,Qz hn⟩
 ·refine .inr ⟨g,cap,rfl,hb,(Array.getElem?_eq_some_iff.1 hg).1,hn,hc,λk x hk=> ?_,λi=>World.ownsRow.frozenAt h i⟩;have hk':k<l.length:=(Qx.1 hk).1;rw[Ys (cap:=cap) h k oM,Yw,hk];rfl
theorem mJ.rd{w:Wd}{B:Nat}{v:Value}{l:LU}(h:mJ w B v l)(hl:l.length<=1000000000):∃a c,v= .slice a l c/\l.length<=c/\c<=maxLen/\RdY w a l:=by
 rcases h.form with ⟨rfl,rfl⟩|⟨g,c,rfl,_,_,h3,h4,hat,_⟩
 ·exact⟨_,_,rfl,sM,sM,RdY.nil w⟩
 ·exact⟨_,_,rfl,h3,h4,hl,.inr ⟨g,0,rfl,λk x hk=>by rw[Nat.zero_add];exact hat k x hk⟩⟩
theorem RdY.source{w:Wd}{a:OA}{l:LU}(h:RdY w a l):w.source 1 a l.length (l.map byV):=by
 refine⟨sM,λu hu=>by obtain⟨x,_,rfl⟩:=Yd.1 hu;rfl,?_⟩;rcases h.2 with rfl|⟨b,o,rfl,hat⟩
 ·cases a with
  |none=>exact .inl ⟨rfl,rfl⟩
  |some ad=>exact .inr ⟨ad,rfl,λj u hu=>by simp at hu⟩
 ·refine .inr ⟨_,rfl,λj u hu=> ?_⟩;rw[Yw]at hu;obtain⟨x,hx,rfl⟩:=Option.map_eq_some_iff.1 hu;have:=hat j x hx;exact aEv
theorem mJ.empty(w:Wd)(B:Nat)(hB:B<=w.heap.size):mJ (w.alloc (cq #[] 5)) B (.slice (cw w 0) 0 0) []:=
 World.ownsRow_lit w #[] 0 hB sM rfl
theorem mJ.append{w:Wd}{B n:Nat}{v:Value}{l r:LU}(h:w.ownsRow B 5 1 v n (l.map byV++r.map byV))(hn:n=l.length+r.length):mJ w B v (l++r):=by
 subst hn;unfold mJ;rw[Yz,Qg];exact h
theorem RdY.drop{w:Wd}{b o:Nat}{l:LU}(h:RdY w (cw b o) l)(k:Nat):RdY w (cw b (o+k)) (l.drop k):=by
 refine⟨by rw[List.length_drop];have:=h.1;omega,?_⟩;rcases h.2 with rfl|⟨b',o',e,hat⟩
 ·exact .inl sM
 ·injection e with e;injection e with e1 e2;subst e1 e2;refine .inr ⟨b,o+k,rfl,λj c hj=> ?_⟩;rw[List.getElem?_drop]at hj;have:=hat (k+j) c hj
  rwa [show o+k+j=o+(k+j) by omega]
theorem RdY.take{w:Wd}{a:OA}{l:LU}(h:RdY w a l)(k:Nat):RdY w a (l.take k):=by
 refine⟨by rw[Yp];have:=h.1;omega,?_⟩;rcases h.2 with rfl|⟨b,o,ha,hat⟩
 ·exact .inl sM
 ·refine .inr ⟨b,o,ha,λj c hj=>hat j c ?_⟩;rw[List.getElem?_take]at hj
  split at hj
  ·exact hj
  ·cases hj
theorem Fw(nm:LU)(w:Wd):∃cap W1,(convert 9 72 (nmV nm)).run prog w= .ok (.slice (cw w 0) nm cap) W1/\
  (∀k (h:k<nm.length),W1 (cw w k)=some (.int .u8 (nm[k].toNat:Int)))/\Below w w W1:=by
 have h:=run_bytes_of_string (P:=prog) w 9 72 5 ⟨nm.toArray⟩ underlying9 underlying72 underlying5;have hsz:(ByteArray.mk nm.toArray).size=nm.length:=by simp[ByteArray.size]
 rw [hsz]at h;refine⟨_,_,h,λk hk=> ?_,Below.aIw (Below.drew bR) _⟩;have h1:∀(C:Array Value) (e:TypeId) (fr:Nat × Nat),(w.drew.alloc (.cells C e fr)).cell? (cw w k)=C[k]? :=λC e fr=>by
  have:(w.drew.alloc (.cells C e fr)).heap[w.heap.size]? =some (.cells C e fr):=World.alloc_heap_new w.drew _;unfold World.cell?;rw[this];rfl
 rw[h1];unfold bytesRow;rw[Array.getElem?_append_left (by simp;exact hk)];simp[hk]
theorem Nc(nm:LU)(w:Wd)(h:nm.length<=1000000000):∃cap W1,(convert 9 72 (nmV nm)).run prog w= .ok (.slice (cw w 0) nm cap) W1/\
  RdY W1 (cw w 0) nm/\Below w w W1:=by
 obtain⟨cap,W1,h1,h2,h3⟩:=Fw nm w;refine⟨cap,W1,h1,⟨h,.inr ⟨_,_,rfl,λk c hk=> ?_⟩⟩,h3⟩;obtain⟨hk1,hk2⟩:=Qx.1 hk;rw[Nat.zero_add,h2 k hk1,hk2]
theorem DL(l:LU)(a:OA)(c:Nat)(w:Wd)(hr:RdY w a l):
  ep 172 #[.slice a l c] w λe w'=>∃v,e= .returned v/\mJ w' w v l/\Below w w w':=by
 obtain⟨i0,hi,hz0,hz1,hz2⟩:=info_parts YB;have hl:=hr.1;have q22:∀(w:Wd) (a:OA) (n c n' c':Nat),(binOp .eql 72 (.slice a n c) (.slice none n' c')).run prog w= .ok (.bool a.isNone) w:=λw a n c n' c'=>Lib.run_eql_slice_nil w _ _ a n c n' c' underlying72
 cases a with
 | none=>
  have h0:l=[]:=by
   rcases hr.2 with h|⟨b,o,h,_⟩
   ·exact h
   ·cases h
  subst h0;go_enter func172,ntmps172;go_wp2_with fail;go_ret;exact⟨_,rfl,mJ.nil _ _,bR⟩
 | some ad=>
  have H0:=hD (mJ.empty w w.heap.size (Ye _));have HS:=hD ((hr.keep (bR.aIw (cq #[] 5))).source);go_enter func172,ntmps172
  go_wp2_with (at_builtin;refine dB _ rfl _ _ 72 rfl w.heap.size 5 i0 (.int .u8 0) 1 1 underlying72 hi hz0 hz1 hz2 rfl dE _ _ _ rfl H0.o _ _ _ _ rfl HS.o pO (by simp[maxLen];omega) sM ?_;intro v1 w1 hown1 hgrow1 hwhere1)
  go_ret;refine⟨_,rfl,?_,(bR.aIw _).aJa hgrow1 λj hj=>(H0.o.lt j hj).1⟩;exact mJ.append (l:=[]) hown1 sM
structure Odd(W:Wd)(X:Nat):Prop where
 two:∀i,2<=i->W (cw X i)=none
 ty:∃t,3≠t/\jH W X t
 nob:∀i c,W (cw X i)≠some (byV c)
theorem Odd.lt{W:Wd}{X:Nat}(h:Odd W X):X<W.heap.size:=by
 obtain⟨t,_,cs,s,h⟩:=h.ty;exact(Array.getElem?_eq_some_iff.1 h).1
theorem Bx.odd{W:Wd}{T:Nat}{t:TypeId}{u v:Value}(h:Bx W T t u v)(ht:3≠t)(hu:∀c,u≠byV c)(hv:∀c,v≠byV c):Odd W T:=by
 refine⟨h.c2,⟨t,ht,h.ty⟩,λi c=> ?_⟩
 match i with
 |0=>rw[h.c0];intro e;exact hu c (Qv e)
 |1=>rw[h.c1];intro e;exact hv c (Qv e)
 |i+2=>rw[h.c2 _ oM];intro e;cases e
section
variable{W W':Wd}{X:Nat}
theorem aA(hg:W.grownBy W' (some X)){a:Addr}{v:Value}(h:W.cell? a=some v)(hne:a.block≠X):W'.cell? a=some v:=
 hg.cell h (λe=>hne (Qv e))
theorem RdY.grown(hX:Odd W X)(hg:W.grownBy W' (some X)){a:OA}{l:LU}(h:RdY W a l):RdY W' a l:=
 ⟨h.1,h.2.imp id λ⟨b,o,ha,hat⟩=>⟨b,o,ha,λk c hk=>aA hg (hat k c hk) λe=>by
  have:=hat k c hk;simp only at e;subst e
  exact hX.nob _ _ this⟩⟩
theorem jH.grown(hg:W.grownBy W' (some X)){b:Nat}{t:TypeId}(h:jH W b t)(hne:b≠X):jH W' b t:=by
 obtain⟨cs,s,h⟩:=h;exact⟨cs,s,(hg.block b (Array.getElem?_eq_some_iff.1 h).1 (λe=>hne (Qv e))).trans h⟩
theorem RdI.grown(hX:Odd W X)(hg:W.grownBy W' (some X)){a:OA}{C:List Int}(h:RdI W a C):RdI W' a C:=by
 refine ⟨h.1,h.2.imp id λ⟨b,o,ha,ht,hat⟩=> ?_⟩;have hne:b≠X:=by
  obtain⟨t,h1,h2⟩:=hX.ty;exact ht.ne h2 h1
 exact⟨b,o,ha,ht.grown hg hne,λk c hk=>aA hg (hat k c hk) hne⟩
theorem aD.grown(hX:Odd W X)(hg:W.grownBy W' (some X))(t:Tr):∀{v:Value},aD W v t->aD W' v t:=by
 induction t with
 |nil=>exactλhv=>hv
 | node l x r ihl ihr=>
  rintro v ⟨b,vl,vr,hv,hn,hl,hr⟩;have hne:b≠X:=λe=>by
   subst e;have:=hn.m;rw[hX.two 7 oM]at this;cases this
  have k:∀{j u},W (cw b j)=some u->W' (cw b j)=some u:=λh=>aA hg h hne;exact⟨b,vl,vr,hv,⟨k hn.a,k hn.n,k hn.s,k hn.l,k hn.r,k hn.d,k hn.c,k hn.m⟩,ihl hl,ihr hr⟩
theorem bG.grown(hX:Odd W X)(hg:W.grownBy W' (some X)){fv:Value}{F:Fam}(hf:bG W fv F):bG W' fv F:=by
 obtain⟨a,c,mb,h1,h2,ts,h3,h4,h5⟩:=hf;refine⟨a,c,mb,h1,⟨h2.1.grown hX hg,h2.2.le hg.size⟩,ts,h3,λp hp=>(h4 p hp).grown hX hg,h5.elim .inl λ⟨b,q1,q2⟩=> .inr ⟨b,q1,?_⟩⟩;refine World.ownsMap.kept q2 hg ?_;obtain⟨es,clock,hb,r⟩:=q2;obtain⟨t,_,cs,s,hty⟩:=hX.ty;intro e;injection e with e;subst e;rw[hb]at hty;cases hty
theorem jQ(hg:W.grownBy W' (some X)){b i:Nat}{v:Value}(h:W (cw b i)=some v)(hne:b≠X):W' (cw b i)=some v:=aA hg h hne
theorem oF(hg:W.grownBy W' (some X)){b i:Nat}{v:Value}(h:W (cw b i)=some v){q:Bool}(hf:W.frozen? (cw b i)=q)(hne:b≠X):W'.frozen? (cw b i)=q:=
 zA hg h hf (λe=>hne (Qv e))
end
structure iJ(W:Wd)(X:Nat)(l:LU):Prop where
 bx:∃a c,Bx W X 263 (.slice a l c) false/\RdY W a l/\l.length<=c/\c<=maxLen
theorem aHz:3≠263:=dE
theorem Bx.oddR{W:Wd}{X:Nat}{a:OA}{n c:Nat}{b:Bool}(h:Bx W X 263 (.slice a n c) (.bool b)):Odd W X:=h.odd aHz (λc e=>by cases e) (λc e=>by cases e)
theorem iJ.odd{W:Wd}{X:Nat}{l:LU}(h:iJ W X l):Odd W X:=by
 obtain⟨a,c,h,_⟩:=h.bx;exact h.oddR
theorem iJ.aIx{W W':Wd}{X:Nat}{l:LU}(h:iJ W X l)(hb:Below W W W'):iJ W' X l:=by
 obtain⟨a,c,h1,h2,h3⟩:=h.bx;exact⟨a,c,h1.aIx hb,h2.keep hb,h3⟩
theorem iJ.other{W W':Wd}{X Y:Nat}{l:LU}(h:iJ W X l)(hY:Odd W Y)(hg:W.grownBy W' (some Y))(hne:X≠Y):iJ W' X l:=by
 obtain⟨a,c,h1,h2,h3⟩:=h.bx;exact⟨a,c,h1.grown hg (λe=>hne (Qv e).symm),h2.grown hY hg,h3⟩
theorem iE(W:Wd)(X:Nat)(u v:Value):W.grownBy (fP W X u v) (some X):=
 World.grownBy.next (aJ W (cw X 0) u) (aJ _ (cw X 1) v)
open Go.Lib (uvarint uvarint_small uvarint_big uvarint_pos uvarint_length64 u8_or128_any)
theorem newY(W:Wd)(n:Nat)(hn:n=W.heap.size)(x:Value)(t:TypeId):∀j u,([x]:List Value)[j]? =some u->(W.alloc (cq #[x] t)).cell? (((cw n 0):Addr).add j)=some u:=by
 subst hn;intro j u hj
 cases j with
 |zero=>simp at hj;subst hj;simp[Addr.add]
 |succ j=>simp at hj
theorem FE(n:Nat)(l:LU)(a:OA)(c:Nat)(w:Wd)(hr:RdY w a l)(hn:n<18446744073709551616)(hl:l.length<=900000000):
  ep 218 #[.slice a l c,.int .u64 n] w λe w'=>∃v,e= .returned v/\mJ w' w v (l++uvarint n)/\Below w w w':=by
 obtain⟨i0,hi,hz0,hz1,hz2⟩:=info_parts YB;go_enter func218,ntmps218;go_wp2_with fail;refine(DL l a c w hr).m ?_;rintro e w1 ⟨v,rfl,ho,hb⟩;have HO:=hD ho;have HB:=hD hb;have HU:Hid ((uvarint n).length<=10):=hD (uvarint_length64 hn);have HN:=hD hn;clear ho hb hn hr;go_wp2_with fail;go_loopw [1,5] (λx o wr=>∃(m:Nat) (pre:LU),Hid (m<18446744073709551616)/\x= .int .u64 m/\mJ wr w o (l++pre)/\Hid (pre++uvarint m=uvarint n)/\Below w w wr) (λx _ _=>(intOf x).toNat)
 case atStart=>exact⟨n,[],HN,rfl,by rw[List.append_nil];exact HO.o,hD rfl,HB.o⟩
 case round=>
  obtain ⟨m,pre,hm,rfl,ho,hp,hB⟩:=hrel;have hpl:pre.length+1<=10:=by
   have h1:=congrArg List.length hp.o;rw[Qg]at h1;have h2:=uvarint_pos m;have h3:=HU.o;omega
  have HO:=hD ho;clear ho;by_cases hlt:128<=m
  ·have HC:Hid (Value.int .u8 (bits .or .u8 ((m:Int)%256) 128)=byV (m%128+128).toUInt8):=hD (by
    have h1:=u8_or128_any ((m:Int)%256) oM oM;rw[h1];show Value.int .u8 _=Value.int .u8 _;rw[qZ oM];congr 1
    omega)
   go_wp2_with (at_builtin;refine aO _ rfl _ _ 72 rfl w.heap.size 5 i0 (.int .u8 0) 1 1 underlying72 hi hz0 hz1 hz2 rfl dE _ _ _ rfl (Qu HO.o _) (cw wr.heap.size 0) 1 1 [_] rfl rfl (newY _ _ rfl _ _) (by intro u hu;simp at hu;subst hu;rfl) pO (by simp[maxLen];omega) Ry ?_;intro v1 w2 hown1 hgrow1 hwhere1)
   rw[HC.o]at hown1;have ho:=mJ.append (r:=[(m%128+128).toUInt8]) hown1 rfl;have HB2:=hD ((hB.aIw _).aJa hgrow1 λj hj=>(HO.o.lt j hj).1);have HO2:=hD ho;clear hown1 hgrow1 hwhere1 ho;go_wp2;go_roundw
   case rel=>exact⟨m/128,pre++[(m%128+128).toUInt8],hD (by have:=hm.o;omega),by first|rfl|go_num,by rw[<-Yc];exact HO2.o,hD (by rw[<-hp.o,uvarint_big hlt];simp),HB2.o⟩
   case measure=>simp[intOf];omega
  ·have HC:Hid (Value.int .u8 (m:Int)=byV m.toUInt8):=hD (by
    show Value.int .u8 _=Value.int .u8 _
    rw[qZ oM])
   go_wp2_with (at_builtin;refine aO _ rfl _ _ 72 rfl w.heap.size 5 i0 (.int .u8 0) 1 1 underlying72 hi hz0 hz1 hz2 rfl dE _ _ _ rfl (Qu HO.o _) (cw wr.heap.size 0) 1 1 [_] rfl rfl (newY _ _ rfl _ _) (by intro u hu;simp at hu;subst hu;rfl) pO (by simp[maxLen];omega) Ry ?_;intro v1 w2 hown1 hgrow1 hwhere1)
   rw[HC.o]at hown1;have ho:=mJ.append (r:=[m.toUInt8]) hown1 rfl;have HB2:=hD ((hB.aIw _).aJa hgrow1 λj hj=>(HO.o.lt j hj).1);have HO2:=hD ho;clear hown1 hgrow1 hwhere1 ho;go_wp2;go_ret;exact⟨_,rfl,by rw[<-hp.o,uvarint_small oM,<-Yc];exact HO2.o,HB2.o⟩
theorem aCs(x:Int)(l:LU)(a:OA)(c:Nat)(w:Wd)(hr:RdY w a l)(hl:l.length<=900000000):
  ep 218 #[.slice a l c,.int .u64 (x%18446744073709551616)] w λe w'=>∃v,e= .returned v/\mJ w' w v (l++encI x)/\Below w w w':=by
 have h:=FE (x%18446744073709551616).toNat l a c w hr oM hl;rw[Int.toNat_of_nonneg oM]at h;exact h
theorem ES(x:Int):1<=(encI x).length/\(encI x).length<=10:=⟨uvarint_pos _,uvarint_length64 oM⟩
theorem He(l:List Int):(numsL l).length<=10*l.length:=by
 induction l with
 |nil=>simp[numsL]
 | cons x r ih=>
  unfold numsL at *;rw[List.flatMap_cons,Qg,List.length_cons];have:=(ES x).2;omega
theorem OU(l:List Int)(k:Nat)(h:k<l.length):numsL (l.take (k+1))=numsL (l.take k)++encI l[k]:=by
 unfold numsL;rw[Qh h,List.flatMap_append];simp
theorem ET(x:LU)(h:x.length<18446744073709551616):(AV x).length<=x.length+10:=by
 unfold AV;rw[Qg];have:=uvarint_length64 h;omega
theorem IQ(x l:LU)(a ax:OA)(c cx:Nat)(w:Wd)(hr:RdY w a l)(hx:RdY w ax x)(hl:l.length<=800000000)(hxl:x.length<=100000000):
  ep 170 #[.slice a l c,.slice ax x cx] w λe w'=>∃v,e= .returned v/\mJ w' w v (l++AV x)/\Below w w w':=by
 obtain⟨i0,hi,hz0,hz1,hz2⟩:=info_parts YB;have HU:Hid ((uvarint x.length).length<=10):=hD (uvarint_length64 oM);go_enter func170,ntmps170;go_wp2_with fail;refine(FE x.length l a c w hr oM oM).m ?_;rintro e w1 ⟨v,rfl,ho,hb⟩;have HO:=hD ho;have HB:=hD hb;have HX:=hD (hx.keep hb);have hub:=HU.o;clear ho hb hr hx
 go_wp2_with (at_builtin;refine dB _ rfl _ _ 72 rfl w.heap.size 5 i0 (.int .u8 0) 1 1 underlying72 hi hz0 hz1 hz2 rfl dE _ _ _ rfl HO.o _ _ _ _ rfl HX.o.source (by simp only[Qg];omega) (by simp only[Qg,maxLen];omega) (by have:=HB.o.size;omega) ?_;intro v1 w2 hown1 hgrow1 hwhere1)
 go_ret;refine⟨_,rfl,?_,HB.o.aJa hgrow1 λj hj=>(HO.o.lt j hj).1⟩;have:=mJ.append hown1 rfl;unfold AV;rw[<-Yc];exact this
theorem sQ(k:Nat)(nm:LU)(w:Wd)(hk:k<128)(hn:nm.length<=1000000):
  ep 163 #[.int .u64 k,nmV nm] w λe w'=>∃v,e= .returned v/\mJ w' w v (qO k nm)/\Below w w w':=by
 go_enter func163,ntmps163;go_wp2_with fail;refine(FE k [] none 0 w (RdY.nil w) oM sM).m ?_;rintro e w1 ⟨v,rfl,ho,hb⟩;have hul:(uvarint k).length<=10:=uvarint_length64 oM;obtain⟨va,vc,rfl,_,_,hrd⟩:=ho.rd pO;obtain⟨cap,W1,hconv,hcell,hbel⟩:=Nc nm w1 oM;have HA:=hD (IQ nm ([]++uvarint k) va _ vc cap W1 (hrd.keep hbel) hcell pO oM);have HB:=hD (hb.on hbel);clear ho hb hrd hcell hbel;go_wp2_with fail;refine HA.o.m ?_;rintro e w2 ⟨v2,rfl,ho,hb⟩;have HO:=hD ho;have HB2:=hD (HB.o.on hb);have hle:=HB.o.size;clear ho hb;go_wp2_with fail;go_ret;exact⟨_,rfl,HO.o.mono hle,HB2.o⟩
theorem Ls(L:List Int)(l:LU)(a al:OA)(c0 cl:Nat)(w:Wd)(hr:RdY w a l)(hL:RdI w al L)(hl:l.length<=800000000)(hLl:L.length<=100):
  ep 162 #[.slice a l c0,.slice al L cl] w λe w'=>∃v,e= .returned v/\(∃a c,v= .slice a (l++numsL L).length c/\RdY w' a (l++numsL L)/\(l.length<=c0->(l++numsL L).length<=c))/\Below w w w':=by
 have HL:=hD hL;have HR:=hD hr;clear hL hr;go_enter func162,ntmps162;go_wp2_with fail;go_loopw [0,9] (λb i wr=>∃(k:Nat) (ab:OA) (cb:Nat) (P:LU),k<=L.length/\i= .int .i64 k/\b= .slice ab P cb/\Hid (P=l++numsL (L.take k))/\Hid (RdY wr ab P)/\Hid (l.length<=c0->P.length<=cb)/\Below w w wr) (λ_ i _=>L.length-(intOf i).toNat)
 case atStart=>exact⟨0,a,c0,l,Yf _,rfl,rfl,hD (by simp[numsL]),HR,hD id,bR⟩
 case round=>
  obtain⟨k,ab,cb,P,hk,rfl,rfl,hP,hY,hQ,hB⟩:=hrel;by_cases hlt:k<L.length
  ·obtain ⟨b,o,rfl,hat⟩:=(HL.o.keep hB).at oM;have h1:=hat k _ (Qa hlt);have hk0:(0:Int)<=k:=oM
   have hk1:(k:Int)<L.length:=oM
   have HE:=hD (OU L k hlt);have hT:P.length<=900000000:=by
    have hq:=He (L.take k);have hq2:=List.length_take_le k L;have:=congrArg List.length hP.o;rw[Qg]at this;omega
   have HA:=hD (λW (h:RdY W ab P)=>aCs L[k] P ab cb W h hT);have HB:=hD hB;generalize L[k]=x at *;clear hat hB;go_wp2_with fail;refine(HA.o _ hY.o).m ?_;rintro e w2 ⟨v2,rfl,ho,hb⟩;obtain⟨va,vc,rfl,hvc,_,hrd⟩:=ho.rd (by have:=(ES x).2;rw[Qg];omega);have HY:=hD hrd;have HVC:=hD hvc;have HB2:=hD (HB.o.on hb);clear ho hb hrd hvc;go_wp2_with fail;go_roundw
   case rel=>exact⟨k+1,va,vc,P++encI x,oM,by go_num,by rw[Qg],hD (by rw[HE.o,hP.o,Yc]),HY,hD λ_=>HVC.o,HB2.o⟩
   case measure=>simp[intOf];omega
  ·obtain rfl:k=L.length:=oM
   have HB:=hD hB;have hP2:=hP.o;rw[List.take_length]at hP2;have HP:=hD hP2;clear hB hP2 hP;go_wp2_with fail;go_ret;exact⟨.slice ab P cb,rfl,⟨ab,cb,by rw[HP.o],by rw[<-HP.o];exact hY.o,by rw[<-HP.o];exact hQ.o⟩,HB.o⟩
theorem yU(L:List Int)(l:LU)(a al:OA)(c cl:Nat)(w:Wd)(hr:RdY w a l)(hL:RdI w al L)(hl:l.length<=800000000)(hLl:L.length<=100):
  ep 162 #[.slice a l c,.slice al L cl] w λe w'=>∃v,e= .returned v/\(∃a c,v= .slice a (l++numsL L).length c/\RdY w' a (l++numsL L))/\Below w w w':=
 (Ls L l a al c cl w hr hL hl hLl).mono λ_ _ ⟨v,h1,⟨a,c,h2,h3,_⟩,h4⟩=>⟨v,h1,⟨a,c,h2,h3⟩,h4⟩
theorem Lu(v:Value)(w:Wd):ep 164 #[v,oo] w λe w'=>e= .returned (.tuple #[v,oo])/\w=w':=by
 go_enter func164,ntmps164;go_wp2;go_ret2;exact⟨rfl,rfl⟩
theorem aAx(v:Value)(x:Int)(hx:(x==0)=false)(w:Wd):ep 164 #[v,x] w λe w'=>e= .returned (.tuple #[sn,x])/\w=w':=by
 have hx2:(x != 0)=true:=by simp[bne,hx]
 go_enter func164,ntmps164;go_wp2;go_ret2;exact⟨rfl,rfl⟩
theorem sp:(∀{α:Type} (l:List α) (i:Nat) (x:α),l.toArray.setIfInBounds i x=(l.set i x).toArray)/\(∀{α:Type} (x y:α) (l:List α),(y::l).set 0 x=x::l)/\(∀{α:Type} (x y:α) (i:Nat) (l:List α),(y::l).set (i+1) x=y::l.set i x):=
 ⟨λl i x=>by simp,λ_ _ _=>rfl,λ_ _ _ _=>rfl⟩
theorem sg:(∀{α:Type} (l:List α) (i:Nat) (h:i<l.toArray.size),l.toArray[i]=l[i]'(by simpa using h))/\(∀{α:Type} (y:α) (l:List α) (i:Nat) (h:i+1<(y::l).length),(y::l)[i+1]=l[i]'(by simpa using h))/\(∀{α:Type} (y:α) (l:List α) (h:0<(y::l).length),(y::l)[0]=y):=
 ⟨λl i h=>by simp,λ_ _ _ _=>rfl,λ_ _ _=>rfl⟩
section
variable{P:Program}{md:Region.Mode}{ops:Array Oper}{Q:Exit->Act->Wd->Prop}{S:Wd->Prop}{fuel:Nat}{listed:Array Bool}{a:Act}{w:Wd}{G:Prop}
abbrev TkB(md:Region.Mode)(ops:Array Oper)(Q:Exit->Act->Wd->Prop)(listed:Array Bool)(i:Nat)(oi:Oper)(v:Value):Prop:=
 Region.noSelect ops=true/\Region.free md ops listed i=true/\(Region.ready md ops listed).contains i=true/\ ∀c (a:Act) w,Q (.panic c) (a.put oi.dst v) w->Q (.panic c) a w
theorem tk(i:Nat){oi:Oper}{v:Value}(g:G)(hi:ops[i]? =some oi:=by rfl)(hw:Region.wanted oi (yielded ops a.tmps)=true:=by rfl)
  (y:∀w,S w->(execOp a.eval oi).run P w= .ok (.value v) w:=by intro w hSw;(try dsimp only at hSw);go_simp;try with_reducible rfl)
  (k:G->wpAnyH P md ops Q S fuel (listed.setIfInBounds i true) (a.put oi.dst v) w:=by intro g;(try simp only[Act.put,sp]);exact g)
  (b:TkB md ops Q listed i oi v:=by exact⟨by kernel_rfl,by kernel_rfl,by kernel_rfl,λ_ _ _ h=>h⟩) (hS:S w:=by assumption):wpAnyH P md ops Q S (fuel+1) listed a w:=
 wpAnyH_take hi b.1 b.2.1 b.2.2.1 b.2.2.2 (Or.inl ⟨hw,y⟩) hS (k g)
theorem etk(i:Nat){oi:Oper}{v:Value}(g:G)(hi:ops[i]? =some oi:=by rfl)(hw:Region.wanted oi (yielded ops a.tmps)=true:=by rfl)
  (y:∀w,S w->(execOp a.eval oi).run P w= .ok (.value v) w:=by intro w hSw;have k0:=hSw.c0;have k1:=hSw.c1;have k2:=hSw.c2;have k3:=hSw.c3;have k4:=hSw.c4;have k5:=hSw.c5;have k6:=hSw.c6;have k7:=hSw.c7;have k8:=hSw.c8;simp only at k0 k1 k2 k3 k4 k5 k6 k7 k8;clear hSw;go_simp;try with_reducible rfl)
  (k:G->wpAnyH P md ops Q S fuel (listed.setIfInBounds i true) (a.put oi.dst v) w:=by intro g;(try simp only[Act.put,sp]);exact g)
  (b:TkB md ops Q listed i oi v:=by exact⟨by kernel_rfl,by kernel_rfl,by kernel_rfl,λ_ _ _ h=>h⟩) (hS:S w:=by assumption):wpAnyH P md ops Q S (fuel+1) listed a w:=
 tk i g hi hw y k b hS
theorem ftk(i:Nat){oi:Oper}{v:Value}(g:G)(hi:ops[i]? =some oi:=by rfl)(hw:Region.wanted oi (yielded ops a.tmps)=true:=by rfl)
  (y:∀w,S w->(execOp a.eval oi).run P w= .ok (.value v) w:=by intro w hSw;have k0:=hSw.1.c0;have k1:=hSw.1.c1;have k2:=hSw.1.c2;have k3:=hSw.1.c3;have k4:=hSw.1.c4;have k5:=hSw.1.c5;have k6:=hSw.1.c6;have k7:=hSw.1.c7;have k8:=hSw.1.c8;have k9:=hSw.2.c0;have k10:=hSw.2.c1;have k11:=hSw.2.c2;simp only at k0 k1 k2 k3 k4 k5 k6 k7 k8 k9 k10 k11;clear hSw;go_simp;try with_reducible rfl)
  (k:G->wpAnyH P md ops Q S fuel (listed.setIfInBounds i true) (a.put oi.dst v) w:=by intro g;(try simp only[Act.put,sp]);exact g)
  (b:TkB md ops Q listed i oi v:=by exact⟨by kernel_rfl,by kernel_rfl,by kernel_rfl,λ_ _ _ h=>h⟩) (hS:S w:=by assumption):wpAnyH P md ops Q S (fuel+1) listed a w:=
 tk i g hi hw y k b hS
theorem gtk(i:Nat){oi:Oper}{v:Value}(g:G)(hi:ops[i]? =some oi:=by rfl)(hw:Region.wanted oi (yielded ops a.tmps)=true:=by rfl)
  (y:∀w,S w->(execOp a.eval oi).run P w= .ok (.value v) w:=by intro w hSw;have k0:=hSw.c0;have k1:=hSw.c1;have k2:=hSw.c2;have k3:=hSw.c3;clear hSw;go_simp;try with_reducible rfl)
  (k:G->wpAnyH P md ops Q S fuel (listed.setIfInBounds i true) (a.put oi.dst v) w:=by intro g;(try simp only[Act.put,sp]);exact g)
  (b:TkB md ops Q listed i oi v:=by exact⟨by kernel_rfl,by kernel_rfl,by kernel_rfl,λ_ _ _ h=>h⟩) (hS:S w:=by assumption):wpAnyH P md ops Q S (fuel+1) listed a w:=
 tk i g hi hw y k b hS
theorem rtk(i:Nat){oi:Oper}{v:Value}(g:G)(hi:ops[i]? =some oi:=by rfl)(hw:Region.wanted oi (yielded ops a.tmps)=true:=by rfl)
  (y:∀w,S w->(execOp a.eval oi).run P w= .ok (.value v) w:=by intro w hSw;have k0:=hSw.bx.c0;have k1:=hSw.bx.c1;have k2:=hSw.bx.c2;have k4:=hSw.cb.c4;have k6:=hSw.cb.c6;have k8:=hSw.cb.c8;simp only at k4 k6 k8;clear hSw;go_simp;try with_reducible rfl)
  (k:G->wpAnyH P md ops Q S fuel (listed.setIfInBounds i true) (a.put oi.dst v) w:=by intro g;(try simp only[Act.put,sp]);exact g)
  (b:TkB md ops Q listed i oi v:=by exact⟨by kernel_rfl,by kernel_rfl,by kernel_rfl,λ_ _ _ h=>h⟩) (hS:S w:=by assumption):wpAnyH P md ops Q S (fuel+1) listed a w:=
 tk i g hi hw y k b hS
theorem ntk(i:Nat){oi:Oper}{v:Value}(g:G)(hi:ops[i]? =some oi:=by rfl)(hw:Region.wanted oi (yielded ops a.tmps)=true:=by rfl)
  (y:∀w,S w->(execOp a.eval oi).run P w= .ok (.value v) w:=by intro w hSw;have k0:=hSw.c0;have k1:=hSw.c1;clear hSw;go_simp;try with_reducible rfl)
  (k:G->wpAnyH P md ops Q S fuel (listed.setIfInBounds i true) (a.put oi.dst v) w:=by intro g;(try simp only[Act.put,sp]);exact g)
  (b:TkB md ops Q listed i oi v:=by exact⟨by kernel_rfl,by kernel_rfl,by kernel_rfl,λ_ _ _ h=>h⟩) (hS:S w:=by assumption):wpAnyH P md ops Q S (fuel+1) listed a w:=
 tk i g hi hw y k b hS
theorem mtk(i:Nat){oi:Oper}{v:Value}(g:G)(hi:ops[i]? =some oi:=by rfl)(hw:Region.wanted oi (yielded ops a.tmps)=true:=by rfl)
  (y:∀w,S w->(execOp a.eval oi).run P w= .ok (.value v) w:=by intro w hSw;have k0:=hSw.1.c0;have k1:=hSw.1.c1;have k2:=hSw.1.c2;have k3:=hSw.1.c3;have k4:=hSw.2.c0;have k5:=hSw.2.c1;have k6:=hSw.2.c2;(try simp only at k4 k5 k6);clear hSw;go_simp;try with_reducible rfl)
  (k:G->wpAnyH P md ops Q S fuel (listed.setIfInBounds i true) (a.put oi.dst v) w:=by intro g;(try simp only[Act.put,sp]);exact g)
  (b:TkB md ops Q listed i oi v:=by exact⟨by kernel_rfl,by kernel_rfl,by kernel_rfl,λ_ _ _ h=>h⟩) (hS:S w:=by assumption):wpAnyH P md ops Q S (fuel+1) listed a w:=
 tk i g hi hw y k b hS
theorem atk(i:Nat){oi:Oper}{v:Value}(g:G)(hi:ops[i]? =some oi:=by rfl)(hw:Region.wanted oi (yielded ops a.tmps)=true:=by rfl)
  (y:∀w,S w->(execOp a.eval oi).run P w= .ok (.value v) w:=by intro w hSw;have k0:=hSw.mb.c0;have k1:=hSw.mb.c1;have k2:=hSw.mb.c2;have k3:=hSw.mb.c3;clear hSw;(try simp only at k0 k1 k2 k3);go_simp;try with_reducible rfl)
  (k:G->wpAnyH P md ops Q S fuel (listed.setIfInBounds i true) (a.put oi.dst v) w:=by intro g;(try simp only[Act.put,sp]);exact g)
  (b:TkB md ops Q listed i oi v:=by exact⟨by kernel_rfl,by kernel_rfl,by kernel_rfl,λ_ _ _ h=>h⟩) (hS:S w:=by assumption):wpAnyH P md ops Q S (fuel+1) listed a w:=
 tk i g hi hw y k b hS
theorem rdy(i:Nat){o:Oper}(h:∀K':Act->Wd->Prop,Shut (∀a w,S w->(S w->wpAnyH P md ops Q S fuel (listed.setIfInBounds i true) a w)->K' a w)->if Region.wanted o (yielded ops a.tmps)=true then Oper.wp P o a w K' Q else K' (a.put o.dst undef) w)
  (ho:ops[i]? =some o:=by rfl) (hr:Region.ready md ops listed=[i]:=by kernel_rfl):wpAnyH P md ops Q S (fuel+1) listed a w:=
 wpAnyH_ready hr sM (AllReadyH.cons ho h AllReadyH.nil)
theorem TJ(i j:Nat){o q:Oper}(h:∀K':Act->Wd->Prop,Shut (∀a w,S w->(S w->wpAnyH P md ops Q S fuel (listed.setIfInBounds i true) a w)->K' a w)->if Region.wanted o (yielded ops a.tmps)=true then Oper.wp P o a w K' Q else K' (a.put o.dst undef) w)(h':∀K':Act->Wd->Prop,Shut (∀a w,S w->(S w->wpAnyH P md ops Q S fuel (listed.setIfInBounds j true) a w)->K' a w)->if Region.wanted q (yielded ops a.tmps)=true then Oper.wp P q a w K' Q else K' (a.put q.dst undef) w)
  (ho:ops[i]? =some o:=by rfl) (hq:ops[j]? =some q:=by rfl) (hr:Region.ready md ops listed=[i,j]:=by kernel_rfl):wpAnyH P md ops Q S (fuel+1) listed a w:=
 wpAnyH_ready hr sM (AllReadyH.cons ho h (AllReadyH.cons hq h' AllReadyH.nil))
theorem rdy3(i j k:Nat){o q r:Oper}(h:∀K':Act->Wd->Prop,Shut (∀a w,S w->(S w->wpAnyH P md ops Q S fuel (listed.setIfInBounds i true) a w)->K' a w)->if Region.wanted o (yielded ops a.tmps)=true then Oper.wp P o a w K' Q else K' (a.put o.dst undef) w)(h':∀K':Act->Wd->Prop,Shut (∀a w,S w->(S w->wpAnyH P md ops Q S fuel (listed.setIfInBounds j true) a w)->K' a w)->if Region.wanted q (yielded ops a.tmps)=true then Oper.wp P q a w K' Q else K' (a.put q.dst undef) w)(h'':∀K':Act->Wd->Prop,Shut (∀a w,S w->(S w->wpAnyH P md ops Q S fuel (listed.setIfInBounds k true) a w)->K' a w)->if Region.wanted r (yielded ops a.tmps)=true then Oper.wp P r a w K' Q else K' (a.put r.dst undef) w)
  (ho:ops[i]? =some o:=by rfl) (hq:ops[j]? =some q:=by rfl) (hk:ops[k]? =some r:=by rfl) (hr:Region.ready md ops listed=[i,j,k]:=by kernel_rfl):wpAnyH P md ops Q S (fuel+1) listed a w:=
 wpAnyH_ready hr sM (AllReadyH.cons ho h (AllReadyH.cons hq h' (AllReadyH.cons hk h'' AllReadyH.nil)))
end
def RdrX(W:Wd)(X:Nat):Prop:=Bx W X 263 sn true
def Sz(w:Wd)(X:Nat)(x r:LU)(e:Ending)(w':Wd):Prop:=
 ∃a c,e= .returned (.tuple #[.slice a x c,oo])/\RdY w' a x/\iJ w' X r/\w.grownBy w' (some X)
theorem Bx.put0{W:Wd}{T:Nat}{t:TypeId}{u v:Value}(h:Bx W T t u v)(x:Value):Bx (W.setCell (cw T 0) x) T t x v:=by
 refine⟨Qi _ _ _ h.c0,?_,by rw[Qb];exact h.f0,by rw[Qb];exact h.f1,λi hi=>dL oM (h.c2 i hi),h.ty.set _ _⟩;rw[Qk _ _ _ _ sM];exact h.c1
theorem SX{w:Wd}{X n c:Nat}{a a':OA}{l:LU}(hb:Bx w X 263 (.slice a l c) false)(hr:RdY w a l)(hlc:l.length<=c)(hcm:c<=maxLen)(hn:n<=l.length)(h:RdY w a' (l.drop n)):
  Sz w X (l.take n) (l.drop n) (.returned (.tuple #[.slice a n n,oo])) (w.setCell (cw X 0) (.slice a' (l.length-n) (c-n))):=by
 have hO:=hb.oddR;have hg:=aJ w (cw X 0) (.slice a' (l.length-n) (c-n));refine⟨a,n,by rw[Yp,Yv hn],(hr.take n).grown hO hg,⟨a',c-n,?_,h.grown hO hg,by rw[List.length_drop];omega,oM⟩,hg⟩;rw[List.length_drop];exact hb.put0 _
theorem RdY.from{w:Wd}{ad:Addr}{l:LU}(h:RdY w (some ad) l)(n:Nat):RdY w (some (ad.add n)) (l.drop n):=by
 rcases h.2 with rfl|⟨b,o,e,hat⟩
 ·exact⟨sM,.inl sM⟩
 ·injection e with e;subst e;by_cases h0:n=0
  ·subst h0
   simpa [Addr.add]using h
  ·have:=h.drop n
   simpa [Addr.add,h0]using this
theorem RdY.none{w:Wd}{a:OA}{l:LU}(h:l=[]):RdY w a l:=by
 subst h;exact⟨sM,.inl rfl⟩
theorem GI(X n:Nat)(l:LU)(w:Wd)(h:iJ w X l)(hn:n<=l.length):
    ep 173 #[.pointer (cw X 0),.int .u64 n] w (Sz w X (l.take n) (l.drop n)):=by
  obtain⟨a,c,hb,hr,hlc,hcm⟩:=h.bx;have hlm:=hr.1;have c0:=hb.c0;have c1:=hb.c1;have f0:=hb.f0;have f1:=hb.f1;have HE:Hid (∀a',RdY w a' (l.drop n)->Sz w X (l.take n) (l.drop n) (.returned (.tuple #[.slice a n n,oo])) (w.setCell (cw X 0) (.slice a' (l.length-n) (c-n)))):=hD λa' h'=>SX hb hr hlc hcm hn h';simp only[maxLen]at hcm;have hnb:decide (l.length<n)=false:=by simp;omega
  have HR:=hD hr;clear hb hr h;have HN:Hid (c-n=0->l.drop n=[]):=hD λh=>List.drop_eq_nil_of_le oM
  cases a with
  | none=>
    have HL:Hid (l=[]):=hD (by
      rcases HR.o.2 with h|⟨b,o,h,_⟩
      · exact h
      · cases h)
    go_enter func173,ntmps173;go_wp2
    all_goals
      go_ret2;exact HE.o _ (RdY.none (by rw[HL.o];simp))
  | some ad =>
    go_enter func173,ntmps173;go_wp2
    all_goals
      go_ret2
      first
        |exact HE.o _ (HR.o.from n)
        | (have hcn:c=n:=oM
           have q:=HE.o (some ad) (RdY.none (HN.o oM));rw[hcn,Nat.sub_self]at q
           exact q)
theorem OG(k:Nat):(2:Nat) ^ (7*k)=128 ^ k:=by rw[Nat.pow_mul]
theorem Xk(m z k:Nat)(hm:m<128 ^ k)(hk:k<=9)(hz:z<256)(h9:k=9->z<=1):
  bits .or .u64 (m:Int) (IntKind.u64.wrap (bits .and .u64 (z:Int) 127*2 ^ (7*k)))=((m+z%128*128 ^ k:Nat):Int):=by
 have e1:bits .and .u64 (z:Int) 127=((z%128:Nat):Int):=by
  have:bits .and .u64 (z:Int) 127=(z:Int)%128:=bits_mask .u64 64 dE wraps_u64 7 dE (z:Int) oM oM;omega
 have hp:(128:Nat) ^ k<=128 ^ 9:=Nat.pow_le_pow_right oM hk;have hlt:z%128*128 ^ k<18446744073709551616:=by
  by_cases h:k=9
  ·subst h;have:z%128*128 ^ 9<=1*128 ^ 9:=Nat.mul_le_mul_right _ (by have:=h9 rfl;omega);omega
  ·have h1:(128:Nat) ^ k<=128 ^ 8:=Nat.pow_le_pow_right oM oM;have h2:z%128*128 ^ k<=127*128 ^ 8:=Nat.mul_le_mul oM h1;omega
 have e2:bits .and .u64 (z:Int) 127*2 ^ (7*k)=((z%128*128 ^ k:Nat):Int):=by
  rw[e1,<-OG]
  push_cast
  rfl
 rw [e2];have e3:IntKind.u64.wrap ((z%128*128 ^ k:Nat):Int)=((z%128*128 ^ k:Nat):Int):=wraps_u64 _ oM oM;rw[e3];have hd:((z%128*128 ^ k:Nat):Int)%2 ^ (7*k)=0:=by
  have:((2:Int) ^ (7*k))=((128 ^ k:Nat):Int):=by rw[<-OG];push_cast;rfl
  rw[this]
  push_cast
  exact Int.mul_emod_left _ _
 have hm2:(m:Int)<2 ^ (7*k):=by
  have:((2:Int) ^ (7*k))=((128 ^ k:Nat):Int):=by rw[<-OG];push_cast;rfl
  rw[this]
  exact_mod_cast hm
 rw[bits_join_low .u64 64 dE wraps_u64 (7*k) (m:Int) _ oM hm2 oM oM hd oM]
 push_cast
 rfl
def aIt(X:Nat)(l:LU)(w wr:Wd)(n i:Value):Prop:=
 ∃(k m:Nat) (r:LU),k<=10/\i=k/\n= .int .u64 m/\Hid (m<128 ^ k)/\Hid (iG l=nN (10-k) k m r)/\Hid (iJ wr X r)/\Hid (w.grownBy wr (some X))/\Hid (k+r.length=l.length)
def aFl(w:Wd)(X n:Nat)(r:LU)(e:Ending)(w':Wd):Prop:=e= .returned (.tuple #[.int .u64 n,oo])/\iJ w' X r/\w.grownBy w' (some X)
def aIs(w:Wd)(X:Nat)(e:Ending)(w':Wd):Prop:=e= .returned (.tuple #[.int .u64 0,.int .i64 5])/\RdrX w' X/\w.grownBy w' (some X)
def FK(w:Wd)(X:Nat)(l:LU)(e:Ending)(w':Wd):Prop:=match iG l with
 |some (n,r)=>aFl w X n r e w'
 |none=>aIs w X e w'
theorem Wj(X:Nat)(l:LU)(w:Wd)(h:iJ w X l)(hne:iG l≠none):
  ep 116 #[.pointer (cw X 0)] w (FK w X l):=by
 have H0:=hD h;have HNE:=hD hne;clear hne;clear h;go_enter func116,ntmps116;go_wp2_with fail;go_loopw [4,9] (λn i wr=>aIt X l w wr n i) (λ_ i _=>10-(intOf i).toNat)
 case atStart=>exact⟨0,0,l,oM,rfl,rfl,hD oM,hD rfl,H0,hD (dD bR _),hD oM⟩
 case round=>
  obtain⟨k,m,r,hk,rfl,rfl,hm,hu,hR,hG,hL⟩:=hrel;by_cases hlt:k<10
  ·cases r with
   | nil=>
    have hz:Hid (iG l=none):=hD (by
     rw[hu.o,show 10-k=(9-k)+1 by omega]
     rfl)
    exact(HNE.o hz.o).elim
   | cons c q=>
    have hu2:Hid (iG l=if k=9/\1<c.toNat then none else if c.toNat<128 then (if c.toNat=0/\0<k then none else some (m+c.toNat*128 ^ k,q))else nN (10-(k+1)) (k+1) (m+c.toNat%128*128 ^ k) q):=hD (by
     rw[hu.o,show 10-k=(9-k)+1 by omega];show nN (9-k+1) k m (c::q)=_
     rw[nN,show 10-(k+1)=9-k by omega])
    go_wp2_with fail;refine(GI X 1 (c::q) _ hR.o sM).m ?_;rintro e w1 ⟨a1,c1,rfl,hy,hr1,hg1⟩;obtain⟨yb,yo,rfl,hat⟩:=hy.at sM;have hc:w1 (cw yb yo)=some (.int .u8 (c.toNat:Int)):=hat 0 c rfl;have hcl:c.toNat<256:=c.toNat_lt;have HR1:=hD hr1;have HG1:=hD (World.grownBy.next hG.o hg1);clear hy hr1 hg1 hat;generalize c.toNat=z at *;have hz0:(0:Int)<=z:=oM
    have hz1:(z:Int)<=255:=oM
    by_cases hb9:k=9/\1<z
    ·obtain⟨rfl,h1z⟩:=hb9;have hq:Hid (iG l=none):=hD (by rw[hu2.o,Qf ⟨rfl,h1z⟩]);exact(HNE.o hq.o).elim
    ·have hu3:Hid (iG l=if z<128 then (if z=0/\0<k then none else some (m+z*128 ^ k,q))else nN (10-(k+1)) (k+1) (m+z%128*128 ^ k) q):=hD (by rw[hu2.o,Qe hb9]);have hor:=Xk m z k hm.o oM oM oM;have h9b:((k:Int)==9)=false∨((k:Int)==9)=true/\ ¬((1:Int)<z):=by
      by_cases h:k=9
      ·exact .inr ⟨pO,oM⟩
      ·exact .inl pO
     have HOR:=hD hor;clear hor;by_cases hz:z<128
     ·have hz':(z:Int)<128:=oM
      by_cases h0:z=0/\0<k
      ·obtain⟨rfl,h0k⟩:=h0;have hk0:(0:Int)<k:=oM
       have hq:Hid (iG l=none):=hD (by rw[hu3.o,Qf oM,Qf ⟨rfl,h0k⟩]);exact(HNE.o hq.o).elim
      ·have hq:Hid (iG l=some (m+z*128 ^ k,q)):=hD (by rw[hu3.o,Qf hz,Qe h0]);have HZ:Hid (z%128=z):=hD oM;have HV:Hid (((m+z%128*128 ^ k:Nat):Int)=((m+z*128 ^ k:Nat):Int)):=hD (by rw[HZ.o]);by_cases hzz:z=0
       ·have hkn:¬ 0<k:=oM
        have hzb:((z:Int)==0)=true:=by simp;omega
        exact yE
       ·have hzb:((z:Int)==0)=false:=by simp;omega
        exact yE
     ·have hz':(128:Int)<=z:=oM
      rcases h9b with h9|⟨h9,h1n⟩
      ·have HU:Hid (iG l=nN (10-(k+1)) (k+1) (m+z%128*128 ^ k) q):=hD (by rw[hu3.o,Qe hz]);have HM:Hid (m+z%128*128 ^ k<128 ^ (k+1)):=hD (by
        have h1:z%128*128 ^ k<=127*128 ^ k:=Nat.mul_le_mul_right _ oM;have:=hm.o;rw[Nat.pow_succ]
        omega)
       have HLL:Hid (k+1+q.length=l.length):=hD (by have:=hL.o;simp at this;omega);clear hb9;go_wp2_with fail;rw[HOR.o];go_roundw
       case rel=>exact⟨k+1,m+z%128*128 ^ k,q,oM,by go_num,rfl,HM,HU,HR1,HG1,HLL⟩
       case measure=>simp[intOf];omega
      ·exfalso;omega
  ·have hk10:k=10:=oM
   subst hk10;have hq:Hid (iG l=none):=hD (by rw[hu.o];rfl);exact(HNE.o hq.o).elim
theorem Br{X n:Nat}{l r:LU}{w:Wd}(h:iJ w X l)(hu:iG l=some (n,r)):
  ep 116 #[.pointer (cw X 0)] w (aFl w X n r):=
 (Wj X l w h (by rw[hu];simp)).mono λe w' h=>by unfold FK at h;rw[hu]at h;exact h
def NumY(w:Wd)(X n:Nat)(r:LU)(e:Ending)(w':Wd):Prop:=e= .returned (.tuple #[n,oo])/\iJ w' X r/\w.grownBy w' (some X)
theorem Ot{X n:Nat}{l r:LU}{w:Wd}(h:iJ w X l)(hu:jB l=some (n,r)):
  ep 227 #[.pointer (cw X 0),.int .i64 65536] w (NumY w X n r):=by
 have hn:iG l=some (n,r)/\n<=65536:=by
  unfold jB at hu
  cases hq:iG l with
  |none=>rw[hq]at hu;cases hu
  | some p=>
   obtain⟨n',r'⟩:=p;rw[hq]at hu;simp only at hu
   split at hu
   ·cases hu;exact⟨rfl,aS⟩
   ·cases hu
 obtain⟨h1,hn⟩:=hn;have HU:=hD h1;clear h1 hu;go_enter func227,ntmps227;go_wp2_with fail;refine(Br h HU.o).m ?_;rintro e w1 ⟨rfl,h1,h2⟩;have H1:=hD h1;have H2:=hD h2;clear h h1 h2;go_wp2_with fail;go_ret2;exact⟨rfl,H1.o,H2.o⟩
theorem JN{l x r:LU}(h:fO l=some (x,r)):∃n q,iG l=some (n,q)/\n<=q.length/\x=q.take n/\r=q.drop n:=by
 unfold fO at h
 cases hq:iG l with
 |none=>rw[hq]at h;cases h
 | some p=>
  obtain⟨n,q⟩:=p;rw[hq]at h;simp only at h
  split at h
  ·cases h;exact⟨n,q,rfl,aS,rfl,rfl⟩
  ·cases h
theorem Ou{X:Nat}{l x r:LU}{w:Wd}(h:iJ w X l)(hu:fO l=some (x,r)):
  ep 226 #[.pointer (cw X 0)] w (Sz w X x r):=by
 obtain⟨n,q,h1,hn,rfl,rfl⟩:=JN hu;have HU:=hD h1;clear h1 hu;go_enter func226,ntmps226;go_wp2_with fail;refine(Br h HU.o).m ?_;rintro e w1 ⟨rfl,h1,h2⟩;have H1:=hD h1;have H2:=hD h2;clear h h1 h2;go_wp2_with fail;refine(GI X n q _ H1.o hn).m ?_;rintro e w2 ⟨a2,c2,rfl,h1,h2,h3⟩;have H3:=hD h1;have H4:=hD h2;have H5:=hD (World.grownBy.next H2.o h3);clear h1 h2 h3;go_wp2_with fail;go_ret2;exact⟨a2,c2,by rw[Yp,Yv hn];rfl,H3.o,H4.o,H5.o⟩
theorem WM{X:Nat}{l:LU}{w:Wd}(h:iJ w X l)(d:Int)(hd:d=if l=[]then 0 else 5):
  ep 119 #[.pointer (cw X 0)] w λe w'=>e= .returned (.int .i64 d)/\w=w':=by
 obtain⟨a,c,hb,hr,hlc,hcm⟩:=h.bx;have hlm:=hr.1;have c0:=hb.c0;have c1:=hb.c1;clear hb hr h;by_cases h0:l=[]
 ·rw[Qf h0]at hd;subst h0 hd;go_enter func119,ntmps119;go_wp2_with fail;go_ret;exact⟨rfl,rfl⟩
 ·rw[Qe h0]at hd;have hl:0<l.length:=List.length_pos_iff.2 h0;have hl2:decide ((0:Int)<l.length)=true:=by simp;omega
  have hl3:decide (0<l.length)=true:=by simp;omega
  subst hd;clear h0;go_enter func119,ntmps119;go_wp2_with fail;go_ret;exact⟨rfl,rfl⟩
theorem aAt(l:LU)(a:OA)(c:Nat)(w:Wd)(h:RdY w a l):
  ep 115 #[.slice a l c] w λe w'=>∃X,e= .returned (.pointer (cw X 0))/\w.heap.size<=X/\iJ w' X l/\Below w w w':=by
 have hl:=h.1;go_enter func115,ntmps115;go_wp2_with fail;refine(DL l a c w h).m ?_;rintro e w1 ⟨v,rfl,ho,hb⟩;obtain⟨va,vc,rfl,h1,h2,hrd⟩:=ho.rd hl;have hk:=(bQ w1).aIw (cq #[.slice va l vc,false] 263);have HR:=hD (iJ.mk ⟨va,vc,Bx.new w1 _ rfl (.slice va l vc) false 263,hrd.keep hk,h1,h2⟩);have HB:=hD (hb.on hk);have HS:=hD hb.size;clear hb hk ho hrd h;go_wp2_with fail;go_ret;exact⟨_,rfl,HS.o,HR.o,HB.o⟩
abbrev pan(x:Int):List PanicEntry:=[{v:= .iface 38 x,recovered:=false}]
theorem LB(w:Wd):ep 117 #[oo] w λe w'=>e= .returned (.tuple #[])/\w=w':=by
 go_enter func117,ntmps117;go_wp2
 go_end0
 exact⟨rfl,rfl⟩
def GotY(w:Wd)(X:Nat)(v:Value)(r:LU)(e:Ending)(w':Wd):Prop:=e= .returned v/\iJ w' X r/\w.grownBy w' (some X)
theorem nQ{X n:Nat}{l r:LU}{w:Wd}(h:iJ w X l)(hu:jB l=some (n,r)):
  ep 177 #[.agg #[.pointer (cw X 0)]] w (GotY w X n r):=by
 have hk:=(bQ w).aIw (cq #[.pointer (cw X 0)] 198);have H:=hD (h.aIx hk);have HG:=hD (dD hk (some X));clear h hk;have HU:=hD hu;clear hu;go_enter func177,ntmps177;go_wp2_with fail;refine(Ot H.o HU.o).m ?_;rintro e w1 ⟨rfl,h1,h2⟩;have H1:=hD h1;have H2:=hD (World.grownBy.next HG.o h2);clear h1 h2;exact aEw
theorem RdY.conv{w:Wd}{a:OA}{l:LU}{c:Nat}(h:RdY w a l)(h0:0<l.length):
  (convert 72 9 (.slice a l c)).run prog w= .ok (nmV l) w:=by
 obtain⟨b,o,rfl,hat⟩:=h.at h0;refine run_convert_bytes_back w 72 9 5 ⟨b,o,Option.none⟩ c l underlying72 underlying5 underlying9 λj hj=> ?_;have:=hat j _ (Qa hj);exact aEv
theorem QD(w:Wd)(a:OA)(c:Nat):(convert 72 9 (.slice a 0 c)).run prog w= .ok (nmV []) w:=by
 rw[run_convert_bytes_string w 72 9 5 a 0 c underlying72 underlying5 underlying9]
 cases a with
 |none=>rfl
 |some ad=>exact run_bytesToString w ad 0 c [] rfl
theorem RdY.conv_any{w:Wd}{a:OA}{l:LU}{c:Nat}(h:RdY w a l):
  (convert 72 9 (.slice a l c)).run prog w= .ok (nmV l) w:=by
 by_cases h0:l=[]
 ·subst h0;exact QD w a c
 ·exact h.conv (List.length_pos_iff.2 h0)
theorem pR{X:Nat}{l x r:LU}{w:Wd}(h:iJ w X l)(hu:fO l=some (x,r)):
  ep 176 #[.agg #[.pointer (cw X 0)]] w (GotY w X (nmV x) r):=by
 have hk:=(bQ w).aIw (cq #[.pointer (cw X 0)] 198);have H:=hD (h.aIx hk);have HG:=hD (dD hk (some X));clear h hk;have HU:=hD hu;clear hu;go_enter func176,ntmps176;go_wp2_with fail;refine(Ou H.o HU.o).m ?_;rintro e w1 ⟨a1,c1,rfl,h1,h2,h3⟩;have hcv:=h1.conv_any (c:=c1);have H1:=hD h2;have H2:=hD (World.grownBy.next HG.o h3);clear h1 h2 h3;exact aEw
theorem PV{l r:LU}{x:E}(h:zG l=some (x,r)):∃(a n s:Nat) (l1 l2:LU),jB l=some (a,l1)/\jB l1=some (n,l2)/\jB l2=some (s,r)/\x=⟨a,n,s⟩:=by
 unfold zG at h
 cases h1:jB l with
 |none=>rw[h1]at h;cases h
 | some p=>
  obtain⟨a,l1⟩:=p;rw[h1]at h;simp only at h
  cases h2:jB l1 with
  |none=>rw[h2]at h;cases h
  | some p=>
   obtain⟨n,l2⟩:=p;rw[h2]at h;simp only at h
   cases h3:jB l2 with
   |none=>rw[h3]at h;cases h
   | some p=>
    obtain⟨s,l3⟩:=p;rw[h3]at h;cases h;exact⟨a,n,s,l1,l2,rfl,h2,h3,rfl⟩
structure RB1(W:Wd)(B X:Nat)(l:LU):Prop where
 c:W (cw B 0)=some (.pointer (cw X 0))
 r:iJ W X l
 ne:B≠X
theorem RB1.went{W W':Wd}{B X:Nat}{l r:LU}(h:RB1 W B X l)(hr:iJ W' X r)(hg:W.grownBy W' (some X)):RB1 W' B X r:=
 ⟨jQ hg h.c h.ne,hr,h.ne⟩
theorem RB1.drew{W:Wd}{B X:Nat}{l:LU}(h:RB1 W B X l):RB1 W.drew B X l:=⟨h.c,h.r.aIx bR.drew,h.ne⟩
structure RX3(W:Wd)(T:Nat)(a n s:Int):Prop where
 t0:W (cw T 0)=a
 t1:W (cw T 1)=n
 t2:W (cw T 2)=s
 f0:W.frozen? (cw T 0)=false
 f1:W.frozen? (cw T 1)=false
 f2:W.frozen? (cw T 2)=false
 c3:∀i,3<=i->W (cw T i)=none
theorem RX3.new(W:Wd):RX3 (W.alloc (cq #[oo,oo,oo] 128)) W 0 0 0:=⟨sM,sM,sM,sM,sM,sM,λi hi=>by
 rw[World.cell?_alloc_new];simp
 omega⟩
theorem RX3.lt{W:Wd}{T:Nat}{a n s:Int}(h:RX3 W T a n s):T<W.heap.size:=Qj W (cw T 0) h.t0
theorem RX3.aIx{W W':Wd}{T:Nat}{a n s:Int}(h:RX3 W T a n s)(hb:Below W W W'):RX3 W' T a n s:=
 ⟨hb.keep h.t0,hb.keep h.t1,hb.keep h.t2,hb.aJc h.t0 h.f0,hb.aJc h.t1 h.f1,hb.aJc h.t2 h.f2,λi hi=>(hb.cell (p:=(cw T i)) h.lt).trans (h.c3 i hi)⟩
theorem RX3.went{W W':Wd}{T X:Nat}{a n s:Int}(h:RX3 W T a n s)(hne:T≠X)(hg:W.grownBy W' (some X)):RX3 W' T a n s:=
 ⟨jQ hg h.t0 hne,jQ hg h.t1 hne,jQ hg h.t2 hne,oF hg h.t0 h.f0 hne,oF hg h.t1 h.f1 hne,oF hg h.t2 h.f2 hne,λi hi=>(World.cell?_of_block (hg.block T h.lt (λe=>hne (Qv e)))).trans (h.c3 i hi)⟩
abbrev Tq(W:Wd)(T:Nat)(a n s:Int):Wd:=((W.setCell (cw T 0) a).setCell (cw T 1) n).setCell (cw T 2) s
theorem RX3.cells{W:Wd}{T:Nat}{a n s:Int}(h:RX3 W T a n s)(x y z:Int):(Tq W T x y z).cell? (cw T 0)=x/\(Tq W T x y z).cell? (cw T 1)=y/\(Tq W T x y z).cell? (cw T 2)=z:=by
 refine⟨?_,?_,?_⟩
 ·rw[Qk _ _ _ _ sM,Qk _ _ _ _ sM];exact Qi _ _ _ h.t0
 ·rw[Qk _ _ _ _ sM];refine Qi (u:=n) _ _ _ ?_;rw[Qk _ _ _ _ sM];exact h.t1
 ·refine Qi (u:=s) _ _ _ ?_;rw[Qk _ _ _ _ sM,Qk _ _ _ _ sM];exact h.t2
theorem PG{w W:Wd}{X T:Nat}(hg:w.grownBy W (some X))(hT:w.heap.size<=T)(x y z:Int):w.grownBy (Tq W T x y z) (some X):=by
 have hh:∀k,k≠T->(Tq W T x y z).heap[k]? =W.heap[k]? :=λk hk=>by
  rw[RowKit.Below.heap_setCell _ _ _ _ (by simpa using hk),RowKit.Below.heap_setCell _ _ _ _ (by simpa using hk),RowKit.Below.heap_setCell _ _ _ _ (by simpa using hk)]
 exact⟨hg.os,hg.tape,hg.output,by simpa [World.setCell]using hg.size,λk hk hne=>(hh k oM).trans (hg.block k hk hne)⟩
theorem iJ.set3{W:Wd}{X T:Nat}{l:LU}(h:iJ W X l){a n s:Int}(ht:RX3 W T a n s)(hne:X≠T)(x y z:Int):iJ (Tq W T x y z) X l:=by
 obtain ⟨a0,c0,h1,h2,h3⟩:=h.bx;have hc:∀k i,k≠T->(Proofs.YtphfgbbbejloaaaGreatDoor.Tq W T x y z).cell? (cw k i)=W (cw k i):=λk i hk=>by
  rw[cell_far (by simpa using hk),cell_far (by simpa using hk),cell_far (by simpa using hk)]
 refine ⟨a0,c0,⟨(hc _ _ hne).trans h1.c0,(hc _ _ hne).trans h1.c1,by simp only[Qb];exact h1.f0,by simp only[Qb];exact h1.f1,λi hi=>(hc _ _ hne).trans (h1.c2 i hi),((h1.ty.set _ _).set _ _).set _ _⟩,⟨h2.1,h2.2.imp id λ⟨b,o,ha,hat⟩=>⟨b,o,ha,λk c hk=> ?_⟩⟩,h3⟩;have hb:b≠T:=λe=>by
  have h9:=hat k c hk;subst e;by_cases h0:o+k=0
  ·rw[h0,ht.t0]at h9;cases h9
  ·by_cases h1:o+k=1
   ·rw[h1,ht.t1]at h9;cases h9
   ·by_cases h2:o+k=2
    ·rw[h2,ht.t2]at h9;cases h9
    ·rw[ht.c3 _ oM]at h9;cases h9
 exact(hc _ _ hb).trans (hat k c hk)
def GotE(w:Wd)(X:Nat)(x:E)(r:LU)(e:Ending)(w':Wd):Prop:=
 e= .returned (.agg #[x.a,x.n,x.s])/\iJ w' X r/\w.grownBy w' (some X)
theorem WF{X:Nat}{l r:LU}{x:E}{w:Wd}(h:iJ w X l)(hu:zG l=some (x,r)):
  ep 179 #[.agg #[.pointer (cw X 0)]] w (GotE w X x r):=by
 obtain⟨a,n,s,l1,l2,h1,h2,h3,rfl⟩:=PV hu;have hX:=h.odd.lt;have hk:=(bQ w).aIw (cq #[.pointer (cw X 0)] 198);have hk2:=hk.aIw (cq #[oo,oo,oo] 128);have H:=hD (RB1.mk (B:=w.heap.size) sM (h.aIx hk2) oM);have HB:=hD hk2;have HT:=hD (RX3.new (w.alloc (cq #[.pointer (cw X 0)] 198)));rw[World.size_alloc]at HT;have HNE:Hid (w.heap.size+1≠X):=hD oM;have U1:=hD h1;have U2:=hD h2;have U3:=hD h3;clear h hk hk2 h1 h2 h3 hu;go_enter func179,ntmps179;go_wp2_with fail;have HD:=hD H.o.drew;have hS0:=HD.o.c
 go_region_held3 (λw'=>w' (cw w 0)=some (.pointer (cw X 0)))
  (first
   |with_reducible exact H.o.c
   |with_reducible exact hS0
   |with_reducible exact hS1
   |with_reducible exact hS2)
  (first
   |(go_at_call 177;(with_reducible refine(nQ HD.o.r U1.o).m ?_);rintro e w1 ⟨rfl,hr1,hg1⟩;have H1:=hD (HD.o.went hr1 hg1);have hS1:=H1.o.c;have G1:=hD hg1;clear hr1 hg1)
   |(go_at_call 177;(with_reducible refine(nQ H1.o.r U2.o).m ?_);rintro e w2 ⟨rfl,hr2,hg2⟩;have H2:=hD (H1.o.went hr2 hg2);have hS2:=H2.o.c;have G2:=hD hg2;clear hr2 hg2))
 have HT:=hD (((HT.o.aIx bR.drew).went HNE.o G1.o).went HNE.o G2.o);have HGG:=hD (World.grownBy.next (World.grownBy.next (dD (HB.o.drew) (some X)) G1.o) G2.o);clear hS0 hS1;go_wp2_with fail;refine(nQ H2.o.r U3.o).m ?_;rintro e w3 ⟨rfl,hr3,hg3⟩;have HT:=hD (HT.o.went HNE.o hg3);have HGG:=hD (World.grownBy.next HGG.o hg3);have HR3:=hD hr3;have t0:=HT.o.t0;have t1:=HT.o.t1;have t2:=HT.o.t2;have f0:=HT.o.f0;have f1:=HT.o.f1;have f2:=HT.o.f2;clear hr3 hg3 hS2;go_wp2_with fail;obtain⟨j0,j1,j2⟩:=HT.o.cells a n s;refine br (.agg #[a,n,s]) ?_;exact⟨rfl,HR3.o.set3 HT.o (Ne.symm HNE.o) _ _ _,PG HGG.o oM _ _ _⟩
end Go.Proofs.YtphfgbbbejloaaaGreatDoor
