/-
  Plain laws: sums over slots; the exclusive blocks of a volume as the reference counts them; the accounts of a family.
  Plain laws: the steps of a script; families that few steps make.
  Plain laws: what a clone changes.
  Conditions: as each theorem says.
-/
import Derived.Test.YtaiklhbakldfhaaGreatGA
namespace Go.Proofs.YtaiklhbakldfhaaGreat
set_option linter.unusedSimpArgs false
set_option linter.unusedVariables false
set_option maxRecDepth 100000
set_option maxHeartbeats 16000000
def mU (f:Nat->Int):Nat->Int
 |0=>0
 |n+1=>mU f n+f n
theorem aTm {f g:Nat->Int} (n:Nat) (h:∀ i,i<n->f i=g i):mU f n=mU g n:=by
 induction n with
 |zero=>rfl
 |succ n ih=>simp only[mU];rw[ih fun i hi=>h i (by omega),h n (by omega)]
theorem bDe (f g:Nat->Int) (n:Nat):mU (fun i=>f i+g i) n=mU f n+mU g n:=by
 induction n with
 |zero=>rfl
 |succ n ih=>simp only[mU,ih];omega
theorem aBk {f:Nat->Int} (n:Nat) (h:∀ i,i<n->f i=0):mU f n=0:=by
 induction n with
 |zero=>rfl
 |succ n ih=>simp only[mU];rw[ih fun i hi=>h i (by omega),h n (by omega)];rfl
theorem aJn {f:Nat->Bool} {g:Nat->Int} (n:Nat) (h:∀ i,i<n->g i=if f i=true then 1 else 0):mU g n=aL f n:=by
 induction n with
 |zero=>rfl
 | succ n ih=>
  simp only[mU,aL];rw[ih fun i hi=>h i (by omega),h n (by omega)]
  split <;> omega
theorem aFm (f:Nat->Int) (s k:Nat):mU f (s+k)=mU f s+mU (fun j=>f (s+j)) k:=by
 induction k with
 |zero=>simp[mU]
 | succ k ih=>
  rw[<-Nat.add_assoc];simp only[mU,ih];omega
def aMr (C:List Int) (x:E):Int:=aL (fun j=>bB C (x.s.toNat+j)) x.n.toNat
def dQ (C:List Int) (l:List E):Int:=(l.map (aMr C)).sum
def yD (C:List Int) (g:Nat->Int) (i:Nat):Int:=if bB C i=true then g i else 0
theorem aXz {x:E} {i:Nat} (h:¬ (x.s<=(i:Int)/\(i:Int)<x.s+x.n)):uJ x i=0:=if_neg h
theorem bGv {x:E} {i:Nat} (h:x.s<=(i:Int)/\(i:Int)<x.s+x.n):uJ x i=1:=if_pos h
theorem aKd (C:List Int) {g:Nat->Int} {i:Nat} (h:g i=0):yD C g i=0:=by
 unfold yD;rw[h]
 split <;> rfl
theorem bEq (C:List Int) (x:E) (h:1<=x.n/\0<=x.s/\x.s+x.n<=C.length):aMr C x=mU (yD C (uJ x)) C.length:=by
 obtain⟨N,hN⟩:∃ N,C.length=N:=⟨_,rfl⟩;rw[hN]at h ⊢;have e:N=x.s.toNat+x.n.toNat+(N-(x.s.toNat+x.n.toNat)):=by omega
 rw[e,aFm,aFm,aBk x.s.toNat,aBk (N-(x.s.toNat+x.n.toNat))]
 ·unfold aMr;rw[aJn (f:=fun j=>bB C (x.s.toNat+j))]
  ·omega
  ·intro i hi;show yD C (uJ x) (x.s.toNat+i)=_;unfold yD;rw[bGv (by omega)]
 ·intro i hi;exact aKd C (g:=uJ x) (i:=x.s.toNat+x.n.toNat+i) (aXz (by omega))
 ·intro i hi;exact aKd C (aXz (by omega))
theorem bEr (C:List Int) (f g:Nat->Int) (n:Nat):mU (yD C fun i=>f i+g i) n=mU (yD C f) n+mU (yD C g) n:=by
 rw[<-bDe];refine aTm n fun i _=> ?_;simp only[yD]
 split <;> omega
theorem aRs (C:List Int) (l:List E):aS C.length l=true->dQ C l=mU (yD C (cnt l)) C.length:=by
 induction l with
 |nil=>intro _;rw[aBk _ fun i _=>by unfold yD cnt;split <;> rfl];rfl
 | cons x r ih=>
  intro h;have h':=(aO _ _).1 h;have:=ih ((aO _ _).2 fun y hy=>h' y (by simp[hy]));unfold dQ at this ⊢;rw[List.map_cons,List.sum_cons,this,bEq C x (h' x (by simp)),<-bEr];rfl
theorem qH {N:Nat} (l:List E) (h:aS N l=true) (i:Nat):iV l i=decide (0<cnt l i):=by
 rw[Bool.eq_iff_iff,decide_eq_true_eq,aNo];unfold iV aQm;simp only[List.any_eq_true,Bool.and_eq_true,decide_eq_true_eq,fJ];exact⟨fun⟨x,hx,_,h2⟩=>⟨x,hx,h2⟩,fun⟨x,hx,h2⟩=>⟨x,hx,((aO _ _).1 h x hx).1,h2⟩⟩
theorem aTu (C:List Int) (l:List E) (h:aS C.length l=true) (h1:∀ i,i<C.length->bB C i=true->cnt l i<=1):bF C l=mU (yD C (cnt l)) C.length:=by
 unfold bF;rw[<-aJn (g:=yD C (cnt l))];intro i hi;have hb:=bZ l i;unfold yD;rw[qH l h];by_cases ho:bB C i=true
 ·have:=h1 i hi ho;rw[if_pos ho,ho];simp only[Bool.and_true,decide_eq_true_eq]
  split <;> omega
 ·rw[if_neg ho,if_neg (by simp[ho])]
theorem aHq (vs:List Vol) (v:Vol) (h:v∈vs) (i:Nat):cnt v.l i<=jB vs i:=by
 have hn:∀ vs:List Vol,0<=jB vs i:=fun vs=>by
  induction vs with
  |nil=>simp[jB]
  | cons w r ih=>
   have:=(bZ w.l i).1;simp only[jB,List.map_cons,List.sum_cons]at ih ⊢;omega
 induction vs with
 |nil=>simp at h
 | cons w r ih=>
  have h0:=hn r;have h1:=(bZ w.l i).1;simp only[jB,List.map_cons,List.sum_cons]at ih h0 ⊢;rcases List.mem_cons.1 h with rfl|h
  ·omega
  ·have:=ih h;omega
theorem bLb {F:Fam} (hF:F.ok) {v:Vol} (hv:v∈F.vs) (i:Nat) (hi:i<F.C.length) (h:bB F.C i=true):cnt v.l i<=1:=by
 have h1:=aHq F.vs v hv i;have h2:=hF.get i (by rw[F.bMs]at hi;exact hi);have h3:F.C.getD i 0=1:=by simpa [bB]using h
 omega
theorem wK {F:Fam} (hF:F.ok) {v:Vol} (hv:v∈F.vs):dQ F.C v.l=bF F.C v.l:=by
 have hp:aS F.C.length v.l=true:=by rw[F.bMs];exact(hF.vol v hv).perm
 rw[aRs _ _ hp,aTu _ _ hp (bLb hF hv)]
theorem zH (C:List Int) (l:List E) (k:Nat) (h:k<l.length):dQ C (l.take (k+1))=dQ C (l.take k)+aMr C l[k]:=by
 unfold dQ;rw[List.take_succ_eq_append_getElem h,List.map_append,List.sum_append];simp only[List.map_cons,List.map_nil,List.sum_cons,List.sum_nil];omega
theorem aAv (C:List Int) (l:List E) (m:Nat) (h:∀ x∈l,x.n<=m):0<=dQ C l/\dQ C l<=m*l.length:=by
 induction l with
 |nil=>simp[dQ]
 | cons x r ih=>
  have h1:=ih fun y hy=>h y (by simp[hy]);have h2:=h x (by simp);have h3:=iP (fun j=>bB C (x.s.toNat+j)) x.n.toNat;unfold dQ at h1 ⊢;simp only[List.map_cons,List.sum_cons,List.length_cons];rw[show((r.length+1:Nat):Int)=r.length+1 by omega,Int.mul_add];unfold aMr;unfold aMr at h1;omega
structure aW where
 k:Int
 v:Int
 o:Int
 a:Int
 n:Int
 s:Int
structure aW.ok (s:aW):Prop where
 k:0<=s.k/\s.k<=255
 v:0<=s.v/\s.v<=255
 o:0<=s.o/\s.o<=255
 a:0<=s.a/\s.a<=255
 n:0<=s.n/\s.n<=255
 s:0<=s.s/\s.s<=255
def aMu:List UInt8:=[110,111,32,110,97,109,101]
def aY (n:Int):List UInt8:=if n%6=5 then aMu else [UInt8.ofNat (97+(n%6).toNat)]
theorem kP (n:Int):(aY n).length<=7:=by unfold aY aMu;split <;> simp
theorem xL (n:Int):(aY n).length<=maxLen:=Nat.le_trans (kP n) (by simp[maxLen])
def xO (s:List UInt8):Prop:= ∃j:Nat,j<5/\s=[UInt8.ofNat (97+j)]
theorem aAj {n:Int} (hn:0<=n) (h:gK (aY n)=true):xO (aY n):=by
 unfold aY at*
 split
 ·rename_i h5
  rw[if_pos h5]at h;have h9:gK aMu=false:=by decide
  rw[h9]at h;cases h
 ·rename_i h5
  exact⟨(n%6).toNat,by omega,rfl⟩
def iB (F:Fam) (s:aW):Fam × List E × Int:=
 if s.k%8=0 then ((aU F (aY s.v) s.n s.a).1,[],(aU F (aY s.v) s.n s.a).2)
 else if s.k%8=1 then ((bJ F (aY s.v) (aY s.o)).1,[],(bJ F (aY s.v) (aY s.o)).2)
 else if s.k%8=2 then bC F (aY s.v)
 else if s.k%8=3 then bY F (aY s.v) s.a s.n
 else aQ F (aY s.v) ⟨s.a,s.n,s.s⟩
def Fam.small (F:Fam):Prop:= ∀v∈F.vs,v.n<=255/\xO v.nm
theorem gB:dR.small:=fun v hv=>by simp[dR]at hv
theorem wY {F:Fam} (h:F.small) (v:Vol) (hv:v.n<=255/\xO v.nm):Fam.small ⟨F.N,eB F.vs v⟩:=fun w hw=>by
 rcases eF.1 hw with rfl|hw
 ·exact hv
 ·exact h w hw.1
theorem aTs {F:Fam} (h:F.small) (s:aW) (hs:s.ok):(iB F s).1.small:=by
 unfold iB
 split
 ·show (aU F (aY s.v) s.n s.a).1.small;unfold aU
  split
  ·exact gB
  rename_i hb
  have hb:gK (aY s.v)=true:=by
   cases hq:gK (aY s.v)
   ·rw[hq]at hb;exact absurd rfl hb
   ·rfl
  split
  ·exact gB
  split
  ·exact gB
  exact wY h _ ⟨hs.n.2,aAj hs.v.1 hb⟩
 split
 ·show(bJ F (aY s.v) (aY s.o)).1.small;unfold bJ
  split
  ·exact gB
  rename_i v hv
  split
  ·exact gB
  rename_i hb
  split
  ·exact gB
  split
  ·exact gB
  exact wY h _ ⟨(h v (aH hv).1).1,aAj hs.o.1 (by simpa using hb)⟩
 split
 ·unfold bC
  split
  ·exact gB
  exact fun w hw=>h w (gM.1 hw).1
 split
 ·unfold bY
  split
  ·exact gB
  rename_i v hv
  split
  ·exact gB
  exact wY h _ (h v (aH hv).1)
 unfold aQ
 split
 ·exact gB
 rename_i v hv
 split
 ·exact gB
 exact wY h _ (h v (aH hv).1)
def Fam.good (F:Fam):Prop:=F.ok/\F.small
theorem bFw (n:Nat) (hn:n<=65536):(⟨n,[]⟩:Fam).good:=⟨⟨hn,List.Pairwise.nil,Nat.zero_le _,by simp⟩,by simp[Fam.small]⟩
theorem aTo {F:Fam} (hF:F.ok) {s:aW} (he:(iB F s).2.2=0) {v:Vol} (hv:v∈F.vs) (hn:v.nm≠aY s.v∨s.k%8=1):aP (iB F s).1.vs v.nm=some v:=by
 have hg:=iO hF.sorted hv;unfold iB at *;by_cases h0:s.k%8=0
 ·rw[if_pos h0]at he ⊢;have hn:=hn.resolve_right (by omega);revert he;show(aU F (aY s.v) s.n s.a).2=0->aP (aU F (aY s.v) s.n s.a).1.vs v.nm=some v;unfold aU
  split
  ·intro h;simp at h
  split
  ·intro h;simp at h
  split
  ·intro h;simp at h
  intro _;show aP (eB F.vs ⟨aY s.v,s.n,s.a,[]⟩) v.nm=some v;rw[iX hF.sorted,if_neg hn,hg]
 rw[if_neg h0]at he ⊢;by_cases h1:s.k%8=1
 ·rw[if_pos h1]at he ⊢;revert he;show(bJ F (aY s.v) (aY s.o)).2=0->aP (bJ F (aY s.v) (aY s.o)).1.vs v.nm=some v;unfold bJ
  split
  ·intro h;simp at h
  split
  ·intro h;simp at h
  split
  ·intro h;simp at h
  split
  ·intro h;simp at h
  rename_i u _ _ hs _
  intro _;show aP (eB F.vs ⟨aY s.o,u.n,0,u.l⟩) v.nm=some v;rw[iX hF.sorted,if_neg,hg];intro e
  apply hs
  show(aP F.vs (aY s.o)).isSome=true;have e':v.nm=aY s.o:=e;rw[<-e',hg];rfl
 rw[if_neg h1]at he ⊢;have hn:=hn.resolve_right h1;by_cases h2:s.k%8=2
 ·rw[if_pos h2]at he ⊢;revert he;unfold bC
  split
  ·intro h;simp at h
  intro _;show aP (bP F.vs (aY s.v)) v.nm=some v;rw[aRe hF.sorted,if_neg hn,hg]
 rw[if_neg h2]at he ⊢;by_cases h3:s.k%8=3
 ·rw[if_pos h3]at he ⊢;revert he;unfold bY
  split
  ·intro h;simp at h
  rename_i u hu
  split
  ·intro h;simp at h
  intro _;show aP (eB F.vs (u.set _)) v.nm=some v;rw[iX hF.sorted,if_neg,hg];exact fun e=>hn (e.trans (aH hu).2)
 rw[if_neg h3]at he ⊢;revert he;unfold aQ
 split
 ·intro h;simp at h
 rename_i u hu
 split
 ·intro h;simp at h
 intro _;show aP (eB F.vs (u.set _)) v.nm=some v;rw[iX hF.sorted,if_neg,hg];exact fun e=>hn (e.trans (aH hu).2)
theorem aDg {F:Fam} (hF:F.ok) {v:Vol} (hv:aP F.vs v.nm=some v):fU F v.nm 0 v.n=(v.l,0):=by
 have hk:=hF.vol v (aH hv).1;unfold fU;rw[hv];show(if inB 0 v.n v.n=false then ([],(2:Int))else (inL v.l 0 v.n,0))=_;have h1:=hk.n1;rw[if_neg (by rw[(iN _ _ _).2 ⟨by omega,by omega,by omega,by omega⟩];decide),aVp hk.valid hk.norm hk.ins]
theorem bJj {u:Vol} {vs:List Vol} (h:∀ w∈vs,w.nm≠u.nm):bP (pX u vs) u.nm=vs:=by
 induction vs with
 |nil=>simp[pX,bP]
 | cons w r ih=>
  have h1:=h w (by simp);have h2:=ih fun x hx=>h x (by simp[hx]);have h3:bP r u.nm=r:=oQ (iY.2 fun x hx=>h x (by simp[hx]));unfold pX
  split
  ·unfold bP at h3 ⊢;rw[List.filter_cons_of_neg (by simp),List.filter_cons_of_pos (by simpa using h1),h3]
  ·unfold bP at h2 ⊢;rw[List.filter_cons_of_pos (by simpa using h1),h2]
theorem aUs (f:Nat->Bool) (n:Nat) (h:∀ i,i<n->f i=false):picks f n=[]:=by
 induction n with
 |zero=>rfl
 |succ n ih=>rw[aGb f n (h n (by omega)),ih fun i hi=>h i (by omega)]
section
variable {F:Fam} (hF:F.good) {v:Vol} (hv:v∈F.vs)
include hF
include hv
omit hv in
end
end Go.Proofs.YtaiklhbakldfhaaGreat
