/-
  Plain laws of chapter 37: claims, room, need, what is permitted.
  Plain laws of chapter 37: what creations, clones, deletions and trims make of the claims and the room.
  Plain laws of chapter 37: the exclusive blocks of a volume, and what a write of single blocks does.
  Plain laws of chapter 37: a whole write, permitted steps, sound families.
  Conditions: as each theorem says.
-/
import Derived.Test.YtaiklhbakldfhaaGreatGH
namespace Go.Proofs.YtaiklhbakldfhaaGreat
set_option linter.unusedSimpArgs false
set_option linter.unusedVariables false
set_option maxRecDepth 100000
set_option maxHeartbeats 16000000
def aX (C:List Int) (v:Vol):Int:=max 0 (v.r-bF C v.l)
def iC (F:Fam) (nm:List UInt8):Int × Int:=match aP F.vs nm with
 |none=>(0,9)
 |some v=>(aX F.C v,0)
def jO (F:Fam):Int:=(F.vs.map (aX F.C)).sum
def mV (F:Fam):Int:=aL (bS F.C) F.N
def cB (F:Fam):Int:=mV F-jO F
def lS (F:Fam) (nm:List UInt8) (p n:Int):Int × Int:=
 if (fU F nm p n).2=0 then (n-dQ F.C (fU F nm p n).1,0)else (0,(fU F nm p n).2)
def gP (want have':Int):Int:=if want>have' then 11 else 0
def eQ (F:Fam) (n r:Int):Int:=if aMt n r=false then 1 else gP r (cB F)
def fB (F:Fam) (nm:List UInt8):Int:=match aP F.vs nm with
 |none=>9
 |some v=>gP (v.r-aX F.C v) (cB F)
def fM (F:Fam) (nm:List UInt8) (p n:Int):Int:=
 if (lS F nm p n).2=0 then gP (lS F nm p n).1 ((iC F nm).1+max 0 (cB F))else (lS F nm p n).2
def sK (F:Fam) (s:aW):Fam:=if (iB F s).2.2=0 then (iB F s).1 else F
theorem bCd (C:List Int) (v:Vol) (h:0<=v.r):0<=aX C v/\aX C v<=v.r:=by
 unfold aX bF;omega
theorem bGb {F:Fam} (hF:F.ok):aT (jQ F.C)=mV F:=by
 unfold mV;rw[bBa F.C (by rw[F.bMs];exact hF.hN),F.bMs]
theorem bBl {F:Fam} (hF:F.ok):(F.N:Int)-pJ F.C=mV F:=by
 have:=aYr F.C 2097152 hF.range;rw[F.bMs]at this;unfold mV;omega
theorem aOb {F:Fam} {nm:List UInt8} {p n:Int} (h:(lS F nm p n).2=0) (hc:(lS F nm p n).1<=(iC F nm).1):fM F nm p n=0:=by
 unfold fM gP;rw[if_pos h,if_neg];omega
theorem aTl {α:Type} (f g:α->Int) (l:List α) (h:∀ x∈l,f x<=g x):(l.map f).sum<=(l.map g).sum:=by
 induction l with
 |nil=>simp
 | cons x r ih=>
  have h1:=h x (by simp);have h2:=ih fun y hy=>h y (by simp[hy]);simp only[List.map_cons,List.sum_cons];omega
theorem vC {α:Type} (f:α->Int) (l:List α) (h:∀ x∈l,0<=f x):0<=(l.map f).sum:=by
 induction l with
 |nil=>simp
 | cons x r ih=>
  have h1:=h x (by simp);have h2:=ih fun y hy=>h y (by simp[hy]);simp only[List.map_cons,List.sum_cons];omega
theorem aGd {C:List Int} {i:Nat} (h:bB C i=true):i<C.length/\C.getD i 0=1:=by
 have h1:C.getD i 0=1:=by simpa [bB]using h
 refine⟨?_,h1⟩;rcases Nat.lt_or_ge i C.length with h2|h2
 ·exact h2
 ·rw[List.getD_eq_getElem?_getD,List.getElem?_eq_none h2]at h1;simp at h1
theorem lU (vs:List Vol) (i:Nat):0<=jB vs i:=vC _ _ fun v _=>(bZ v.l i).1
theorem aBu {F:Fam} (hF:F.ok) {nm:List UInt8} {D:List Int} (hD:D.length=F.N) (h:∀ i,i<F.N->F.C.getD i 0=1->0<jB (bP F.vs nm) i->D.getD i 0=1):
  ((bP F.vs nm).map (aX D)).sum<=((bP F.vs nm).map (aX F.C)).sum:=by
 refine aTl _ _ _ fun w hw=> ?_;have hp:=(hF.vol w (gM.1 hw).1).perm;have h1:bF F.C w.l<=bF D w.l:=by
  unfold bF;rw[F.bMs,hD];have:=qM (fun i=>iV w.l i&&bB F.C i) (fun i=>iV w.l i&&bB D i) F.N fun i hi hf=>by
   simp only[Bool.and_eq_true]at hf ⊢;refine⟨hf.1,?_⟩;rw[qH w.l hp,decide_eq_true_eq]at hf;have h3:=aHq (bP F.vs nm) w hw i;have:=h i hi (aGd hf.2).2 (by omega)
   simpa [bB]using this
  omega
 unfold aX;omega
theorem bAo {F:Fam} (hF:F.ok) {nm:List UInt8} {D:List Int} (hD:D.length=F.N) (h:∀ i,i<F.N->0<jB (bP F.vs nm) i->(F.C.getD i 0=1↔D.getD i 0=1)):
  ((bP F.vs nm).map (aX D)).sum=((bP F.vs nm).map (aX F.C)).sum:=by
 congr 1;refine List.map_congr_left fun w hw=> ?_;have hp:=(hF.vol w (gM.1 hw).1).perm;have h1:bF D w.l=bF F.C w.l:=by
  unfold bF;rw[F.bMs,hD];congr 1;refine aN _ _ F.N fun i hi=> ?_;rw[qH w.l hp];by_cases hc:0<cnt w.l i
  ·have h3:=aHq (bP F.vs nm) w hw i;have:=h i hi (by omega);rw[decide_eq_true hc,Bool.true_and,Bool.true_and,Bool.eq_iff_iff];simp only[bB,decide_eq_true_eq];exact this.symm
  ·rw[decide_eq_false hc];rfl
 unfold aX;rw[h1]
theorem mK {F:Fam} (hF:F.ok) {v:Vol} (hv:aP F.vs v.nm=some v):jO F=((bP F.vs v.nm).map (aX F.C)).sum+aX F.C v:=(aEv _ hF.sorted hv).symm
theorem uL (F:Fam) (u:Vol):jO ⟨F.N,eB F.vs u⟩=aX (⟨F.N,eB F.vs u⟩:Fam).C u+((bP F.vs u.nm).map (aX (⟨F.N,eB F.vs u⟩:Fam).C)).sum:=aOm _ _ _
theorem nZ (C:List Int) (v:Vol):0<=aX C v:=by unfold aX;omega
theorem aJe (C:List Int) (vs:List Vol):0<=(vs.map (aX C)).sum:=vC _ _ fun v _=>nZ C v
theorem aPd {F:Fam} (hF:F.ok) {u:Vol} (hu:aP F.vs u.nm=none) (hl:u.l=[]) (hr:0<=u.r):cB ⟨F.N,eB F.vs u⟩=cB F-u.r:=by
 have hC:(⟨F.N,eB F.vs u⟩:Fam).C=F.C:=(aHv hF hu hl).symm;have h1:=uL F u;have h2:aX F.C u=u.r:=by
  unfold aX bF;rw[hl,dL _ _ fun i _=>by simp[iV]];omega
 rw[hC,h2,oQ hu]at h1;unfold cB mV;rw[hC,h1];show(aL (bS F.C) F.N:Int)-_=_-(F.vs.map (aX F.C)).sum-_;omega
theorem aUb {F:Fam} (hF:F.ok) {v u:Vol} (hv:aP F.vs v.nm=some v) (hu:aP F.vs u.nm=none) (hl:u.l=v.l) (hr:u.r=0):cB ⟨F.N,eB F.vs u⟩=cB F-(v.r-aX F.C v):=by
 have hm:=(aH hv).1;have hk:=hF.vol v hm;have hC:eZ F.C v.l 1=(⟨F.N,eB F.vs u⟩:Fam).C:=aLm hF hm hu hl;obtain⟨D,hD⟩:∃ D,(⟨F.N,eB F.vs u⟩:Fam).C=D:=⟨_,rfl⟩;have hDl:D.length=F.N:=by rw[<-hD,Fam.bMs]
 have hget:∀ i,i<F.N->D.getD i 0=F.C.getD i 0+cnt v.l i:=fun i hi=>by
  rw[<-hD,<-hC,mM v.l 1 _ (by rw[F.bMs];exact hk.perm) i (by rw[F.bMs];exact hi)];omega
 have hcn:∀ i,i<F.N->F.C.getD i 0=jB (bP F.vs v.nm) i+cnt v.l i:=fun i hi=>by rw[hF.get i hi,qX hF.sorted hv]
 have h1:=uL F u;rw[hD,oQ hu]at h1;have h2:aX D u=0:=by
  unfold aX bF;rw[hr];omega
 have h3:bF D v.l=0:=by
  unfold bF;rw[hDl,dL _ _ fun i hi=> ?_]
  ·rfl
  ·rw[qH v.l hk.perm];have g1:=hget i hi;have g2:=hcn i hi;have g3:=lU (bP F.vs v.nm) i;by_cases hc:0<cnt v.l i
   ·rw[decide_eq_true hc,Bool.true_and];exact decide_eq_false (by omega)
   ·rw[decide_eq_false hc];rfl
 have h4:aX D v=v.r:=by
  unfold aX;rw[h3];have:=hk.r0;omega
 have h5:=aEv (aX D) hF.sorted hv;have h6:=bAo hF (nm:=v.nm) hDl fun i hi hp=>by
  have g1:=hget i hi;have g2:=hcn i hi;have g3:=(bZ v.l i).1;omega
 have h7:=mK hF hv;have h8:aL (bS D) F.N=aL (bS F.C) F.N:=aN _ _ _ fun i hi=>by
  have g1:=hget i hi;have g2:=hcn i hi;have g3:=(bZ v.l i).1;have g4:=lU (bP F.vs v.nm) i;unfold bS;rw[Bool.eq_iff_iff,decide_eq_true_eq,decide_eq_true_eq];omega
 unfold cB mV;rw[hD,h1];show(aL (bS D) F.N:Int)-_=_;rw[h8,h7];omega
theorem aPc {F:Fam} (hF:F.ok) (nm:List UInt8):cB F<=cB ⟨F.N,bP F.vs nm⟩:=by
 cases hg:aP F.vs nm with
 |none=>rw[oQ hg];exact Int.le_refl _
 | some v=>
  obtain⟨hm,rfl⟩:=aH hg;obtain⟨D,hD⟩:∃ D,(⟨F.N,bP F.vs v.nm⟩:Fam).C=D:=⟨_,rfl⟩;have hDl:D.length=F.N:=by rw[<-hD,Fam.bMs]
  have hget:∀ i,i<F.N->D.getD i 0=jB (bP F.vs v.nm) i:=fun i hi=>by
   rw[<-hD];exact qL _ _ (fun w hw=>(hF.vol w (gM.1 hw).1).perm) i hi
  have hcn:∀ i,i<F.N->F.C.getD i 0=jB (bP F.vs v.nm) i+cnt v.l i:=fun i hi=>by rw[hF.get i hi,qX hF.sorted hg]
  have h1:=aBu hF (nm:=v.nm) hDl fun i hi h1 hp=>by
   have g1:=hget i hi;have g2:=hcn i hi;have g3:=(bZ v.l i).1;omega
  have h2:=mK hF hg;have h3:=nZ F.C v;have h4:aL (bS F.C) F.N<=aL (bS D) F.N:=qM _ _ _ fun i hi hz=>by
   have g1:=hget i hi;have g2:=hcn i hi;have g3:=(bZ v.l i).1;have g4:=lU (bP F.vs v.nm) i;unfold bS at hz ⊢;rw[decide_eq_true_eq]at hz ⊢;omega
  unfold cB mV;rw[hD,h2];show(aL (bS F.C) F.N:Int)-_<=(aL (bS D) F.N:Int)-((bP F.vs v.nm).map (aX (⟨F.N,bP F.vs v.nm⟩:Fam).C)).sum;rw[hD];omega
section
variable {F:Fam} {v:Vol} {l':List E}
theorem aFd (hF:F.ok) (hv:aP F.vs v.nm=some v) (hG:(F.with (v.set l')).ok) (i:Nat) (hi:i<F.N):(F.with (v.set l')).C.getD i 0+cnt v.l i=F.C.getD i 0+cnt l' i:=by
 rw[hG.get i hi,hF.get i hi];exact aCq hF hv i
theorem aYm (hG:(F.with (v.set l')).ok):aS F.N l'=true:=(hG.vol (v.set l') (eF.2 (.inl rfl))).perm
theorem bDo (hF:F.ok) (hv:aP F.vs v.nm=some v) (hG:(F.with (v.set l')).ok) (hle:∀ i,i<F.N->cnt l' i<=cnt v.l i):cB F<=cB (F.with (v.set l')):=by
 have hk:=hF.vol v (aH hv).1;have hp':=aYm hG;have hget:=aFd hF hv hG;obtain⟨D,hD⟩:∃ D,(F.with (v.set l')).C=D:=⟨_,rfl⟩;rw[hD]at hget;have hDl:D.length=F.N:=by rw[<-hD,Fam.bMs];rfl
 have hcn:∀ i,i<F.N->F.C.getD i 0=jB (bP F.vs v.nm) i+cnt v.l i:=fun i hi=>by rw[hF.get i hi,qX hF.sorted hv]
 have h0:∀ i,0<=cnt l' i:=fun i=>(bZ l' i).1;have h00:∀ i,0<=cnt v.l i:=fun i=>(bZ v.l i).1;have h1:=aBu hF (nm:=v.nm) hDl fun i hi h1 hp=>by
  have g1:=hget i hi;have g2:=hcn i hi;have g3:=h00 i;have g4:=h0 i;have g5:=hle i hi;omega
 have h2:=mK hF hv;have h3:jO (F.with (v.set l'))=aX D (v.set l')+((bP F.vs v.nm).map (aX D)).sum:=by
  have:=uL F (v.set l');rw[<-hD];exact this
 obtain⟨f,hf⟩:∃ f:Nat->Bool,f=fun i=>iV v.l i&&bB F.C i:=⟨_,rfl⟩;obtain⟨g,hg⟩:∃ g:Nat->Bool,g=fun i=>iV l' i&&bB D i:=⟨_,rfl⟩;have e1:bF F.C v.l=aL f F.N:=by unfold bF;rw[F.bMs,hf]
 have e2:bF D (v.set l').l=aL g F.N:=by unfold bF;rw[hDl,hg];rfl
 have e3:=uQ f g F.N;have e4:aL (fun i=>f i&&g i) F.N<=aL g F.N:=qM _ _ _ fun i _ h=>by
  simp only[Bool.and_eq_true]at h;exact h.2
 have e5:aL (fun i=>bS F.C i||(f i&& !g i)) F.N=aL (bS F.C) F.N+aL (fun i=>f i&& !g i) F.N:=rU _ _ _ fun i hi hz hb=>by
  simp only[Bool.and_eq_true]at hb;have hb:=hb.1;rw[hf]at hb;simp only[Bool.and_eq_true]at hb;have q1:=(aGd hb.2).2;have q2:F.C.getD i 0=0:=by simpa [bS]using hz
  omega
 have e6:aL (fun i=>bS F.C i||(f i&& !g i)) F.N<=aL (bS D) F.N:=qM _ _ _ fun i hi h=>by
  have g1:=hget i hi;have g2:=hcn i hi;have g3:=h0 i;have g4:=h00 i;have g5:=hle i hi;have g6:=lU (bP F.vs v.nm) i;have g7:0<=D.getD i 0:=by omega
  show decide (D.getD i 0=0)=true;rw[decide_eq_true_eq];simp only[Bool.or_eq_true,Bool.and_eq_true]at h;rcases h with h|⟨h,hn⟩
  ·have q2:F.C.getD i 0=0:=by simpa [bS]using h
   omega
  ·rw [hf]at h;simp only[Bool.and_eq_true]at h;have q1:=(aGd h.2).2;have q2:=h.1;rw[qH v.l hk.perm,decide_eq_true_eq]at q2;rcases(by omega:D.getD i 0=0∨D.getD i 0=1)with q|q
   ·exact q
   ·exfalso;have q3:0<cnt l' i:=by omega
    rw[hg]at hn;simp only[qH l' hp',decide_eq_true q3,Bool.true_and]at hn;have q4:bB D i=true:=by simpa [bB]using q
    rw[q4]at hn;simp at hn
 have e7:aX D (v.set l')<=aX F.C v+aL (fun i=>f i&& !g i) F.N:=by
  unfold aX;rw[e1,e2];show max 0 (v.r-_)<=_;omega
 unfold cB mV;rw[hD,h2,h3];show(aL (bS F.C) F.N:Int)-_<=(aL (bS D) F.N:Int)-_;omega
end
theorem rC (f:Nat->Bool) (s k:Nat):aL f (s+k)=aL f s+aL (fun j=>f (s+j)) k:=by
 induction k with
 |zero=>simp[aL]
 | succ k ih=>
  rw[<-Nat.add_assoc];simp only[aL,ih];omega
theorem aBg (s n:Nat) (h:s<n):aL (fun i=>decide (i=s)) n=1:=by
 rw [aN _ (fun i=>decide (s<=i)&&decide (i<s+1)) n fun i _=>by
  rw[Bool.eq_iff_iff];simp only[Bool.and_eq_true,decide_eq_true_eq];omega,xZ _ _ _ (by omega)]
 omega
def exB (C:List Int) (l:List E) (b:Int):Bool:=match aR l b with
 |none=>false
 |some s=>bB C s.toNat
theorem aXw (C:List Int) (b:Int):exB C [] b=false:=rfl
theorem bGl (C:List Int) (x:E) (r:List E) (b:Int):exB C (x::r) b=if hits b x then bB C (x.s+b-x.a).toNat else exB C r b:=by
 unfold exB aR;by_cases h:hits b x=true
 ·rw[List.find?_cons_of_pos h,if_pos h];rfl
 ·rw[List.find?_cons_of_neg h,if_neg h]
theorem aHl (C:List Int) (l:List E) (e b:Int) (h:bG e l=true) (hb:b<e):exB C l b=false:=by
 unfold exB;rw[lN l b fun x hx=> ?_];have:=((nX l e).1 h).2.2 x hx;unfold hits;rw[decide_eq_false (by omega)];rfl
theorem aRt (C:List Int) (l:List E):∀ e,0<=e->bG e l=true->dQ C l=aL (fun b=>exB C l b) 65536:=by
 induction l with
 |nil=>intro e _ _;rw[dL _ _ fun i _=>aXw C i];rfl
 | cons x r ih=>
  intro e h0 hv;have hv':=hv;simp only[bG,Bool.and_eq_true,decide_eq_true_eq]at hv';obtain⟨c1,c2,c3,c4,c5⟩:=(aD x).1 hv'.1;have hr:=hv'.2.2;have h1:=ih (x.a+x.n) (by omega) hr;have h2:dQ C (x::r)=aMr C x+dQ C r:=by simp[dQ]
  rw [h2,h1];have e1:aL (fun b:Nat=>exB C (x::r) b) 65536=aL (fun b:Nat=>(hits b x&&bB C (x.s+b-x.a).toNat)||exB C r b) 65536:=aN _ _ _ fun b _=>by
   rw[bGl];by_cases h:hits b x=true
   ·rw[if_pos h,h,aHl C r _ b hr]
    ·simp
    ·simp only[hits,Bool.and_eq_true,decide_eq_true_eq]at h;exact h.2
   ·rw[if_neg h];have h:hits b x=false:=by simpa using h
    rw[h];rfl
  rw [e1,rU _ _ _ fun b _ hb hc=>by
   simp only[Bool.and_eq_true,hits,decide_eq_true_eq]at hb;rw[aHl C r _ b hr hb.1.2]at hc
   cases hc]
  have e2:aL (fun b:Nat=>hits b x&&bB C (x.s+b-x.a).toNat) 65536=aL (fun j=>bB C (x.s.toNat+j)) x.n.toNat:=by
   have hs:65536=x.a.toNat+x.n.toNat+(65536-(x.a.toNat+x.n.toNat)):=by omega
   rw[hs,rC,rC,dL _ x.a.toNat fun i hi=> ?_,dL _ (65536-(x.a.toNat+x.n.toNat)) fun i hi=> ?_,Nat.zero_add,Nat.add_zero]
   ·refine aN _ _ _ fun j hj=> ?_;have:hits ((x.a.toNat+j:Nat):Int) x=true:=by simp only[hits,Bool.and_eq_true,decide_eq_true_eq];omega
    rw[this,Bool.true_and];congr 1;omega
   ·have:hits ((x.a.toNat+x.n.toNat+i:Nat):Int) x=false:=by
     simp only[hits,Bool.and_eq_false_iff,decide_eq_false_iff_not];omega
    rw[this];rfl
   ·have:hits (i:Int) x=false:=by
     simp only[hits,Bool.and_eq_false_iff,decide_eq_false_iff_not];omega
    rw[this];rfl
  rw[e2];unfold aMr;omega
theorem zG (C:List Int) (l:List E) (p n:Nat) (hv:aI l=true) (hp:p+n<=65536):dQ C (inL l p n)=aL (fun j=>exB C l ((p+j:Nat):Int)) n:=by
 have h1:bG 0 (inL l p n)=true:=xQ l p n hv;rw[aRt C _ 0 (Int.le_refl _) h1];have e:∀ b:Nat,exB C (inL l p n) b=if p<=b/\b<p+n then exB C l b else false:=fun b=>by
  unfold exB;rw[aZf l p n b hv];by_cases h:p<=b/\b<p+n
  ·rw[if_pos h,if_pos (by omega)]
  ·rw[if_neg h,if_neg (by omega)]
 have hs:65536=p+n+(65536-(p+n)):=by omega
 rw[hs,rC,rC,dL _ p fun i hi=> ?_,dL _ (65536-(p+n)) fun i hi=> ?_,Nat.zero_add,Nat.add_zero]
 ·rw[aN _ (fun j=>exB C l ((p+j:Nat):Int)) n fun j hj=>by rw[e,if_pos (by omega)]]
 ·rw[e,if_neg (by omega)]
 ·rw[e,if_neg (by omega)]
theorem yG {F:Fam} (hF:F.ok) {v:Vol} (hv:v∈F.vs):bF F.C v.l=aL (fun j:Nat=>exB F.C v.l j) v.n.toNat:=by
 have hk:=hF.vol v hv;have h1:=hk.n1;have h2:=hk.n2;rw[<-wK hF hv,<-aVp hk.valid hk.norm hk.ins];have:=zG F.C v.l 0 v.n.toNat hk.valid (by omega);rw[show((v.n.toNat:Nat):Int)=v.n by omega]at this;rw[show((0:Nat):Int)=0 from rfl]at this;rw[this,aVp hk.valid hk.norm hk.ins];exact congrArg Int.ofNat (aN _ _ _ fun j _=>by rw[Nat.zero_add])
def lZ (C:List Int) (l:List E) (p m:Nat):Int:=(m:Int)-aL (fun j=>exB C l ((p+j:Nat):Int)) m
theorem aMi (C:List Int) (l:List E) (p m:Nat):0<=lZ C l p m:=by
 have:=iP (fun j=>exB C l ((p+j:Nat):Int)) m;unfold lZ;omega
theorem vH (C:List Int) (l:List E) (p m:Nat):lZ C l p (m+1)=(if exB C l p=true then 0 else 1)+lZ C l (p+1) m:=by
 unfold lZ;rw[show m+1=1+m by omega,rC];have e1:aL (fun j=>exB C l ((p+j:Nat):Int)) 1=if exB C l p=true then 1 else 0:=by simp[aL]
 have e2:aL (fun j=>exB C l ((p+(1+j):Nat):Int)) m=aL (fun j=>exB C l ((p+1+j:Nat):Int)) m:=aN _ _ _ fun j _=>by rw[show p+(1+j)=p+1+j by omega]
 rw[e1,e2]
 split <;> omega
theorem aUd {C D:List Int} {l l':List E} (p m:Nat) (h:∀ b:Nat,p<=b->b<p+m->exB C l b=true->exB D l' b=true):lZ D l' p m<=lZ C l p m:=by
 have:=qM (fun j=>exB C l ((p+j:Nat):Int)) (fun j=>exB D l' ((p+j:Nat):Int)) m fun j hj he=>h (p+j) (by omega) (by omega) he;unfold lZ;omega
theorem aZw {C:List Int} {l:List E} (p m:Nat) (h:∀ b:Nat,p<=b->b<p+m->exB C l b=true):lZ C l p m=0:=by
 have h1:=bHg (fun j=>exB C l ((p+j:Nat):Int)) m;have h2:aL (fun j=> !exB C l ((p+j:Nat):Int)) m=0:=dL _ _ fun j hj=>by rw[h (p+j) (by omega) (by omega)];rfl
 unfold lZ;omega
theorem tX {F:Fam} (hF:F.ok) {v:Vol} (hv:aP F.vs v.nm=some v) (p n:Nat) (hb:((p+n:Nat):Int)<=v.n):lS F v.nm p n=(lZ F.C v.l p n,0):=by
 have hk:=hF.vol v (aH hv).1;have h2:=hk.n2;have hr:fU F v.nm p n=(inL v.l p n,0):=by
  unfold fU;rw[hv];show(if inB p n v.n=false then ([],(2:Int))else (inL v.l p n,0))=_;rw[if_neg (by rw[(iN _ _ _).2 ⟨by omega,by omega,by omega,by omega⟩];decide)]
 unfold lS;rw[hr];show(if (0:Int)=0 then ((n:Int)-dQ F.C (inL v.l p n),(0:Int))else _)=_;rw[if_pos rfl,zG F.C v.l p n hk.valid (by omega)];rfl
section
variable {F:Fam} {v:Vol} {k s:Nat}
theorem bFq (hF:F.ok) (hv:aP F.vs v.nm=some v) (hk:(k:Int)<v.n) (he:exB F.C v.l k=false) (i:Nat) (hi:i<F.N) (h1:F.C.getD i 0=1):cnt (inL v.l k 1) i=0:=by
 have hok:=hF.vol v (aH hv).1;have h2:=hok.n2;have hx:=zG F.C v.l k 1 hok.valid (by omega);rw[show((1:Nat):Int)=1 from rfl]at hx;have ha:aL (fun j=>exB F.C v.l ((k+j:Nat):Int)) 1=0:=by simp[aL,he]
 rw [ha,aRs _ _ (by rw[F.bMs];exact aEq _ _ hok.perm),F.bMs]at hx;have key:∀ (f:Nat->Int) (n:Nat),(∀j,0<=f j)->mU f n=0-> ∀j,j<n->f j=0:=by
  intro f n hf;have hnn:∀ n,0<=mU f n:=fun n=>by
   induction n with
   |zero=>simp[mU]
   |succ n ih=>have:=hf n;simp only[mU];omega
  induction n with
  |zero=>intro _ j hj;omega
  | succ n ih=>
   intro h j hj;simp only[mU]at h;have q1:=hnn n;have q2:=hf n;by_cases e:j=n
   ·subst e;omega
   ·exact ih (by omega) j (by omega)
 have:=key _ F.N (fun j=>by unfold yD;have:=(bZ (inL v.l k 1) j).1;split <;> omega) hx i hi;unfold yD at this;rw[if_pos (by simpa [bB]using h1)]at this;exact this
theorem bFp (hF:F.ok) (hv:aP F.vs v.nm=some v) (hk:(k:Int)<v.n) (i:Nat):cnt (inL v.l k 1) i<=1:=by
 have hok:=hF.vol v (aH hv).1;have h2:=hok.n2;have hvl:=xQ v.l k 1 hok.valid;have hrng:∀ x∈inL v.l k 1,(k:Int)<=x.a/\x.a+x.n<=(k:Int)+1:=fun x hx=>by
  rw[aEr v.l k 1 hok.valid hok.norm]at hx;exact iH _ _ _ x hx
 have h3:=yH (inL v.l k 1) (k+1) k (by omega) (fun x hx=>(hrng x hx).2) ((nX _ _).2 ⟨((bQ _).1 hvl).1,((bQ _).1 hvl).2,fun x hx=>(hrng x hx).1⟩);have:=(bZ (inL v.l k 1) i).2;omega
structure OneB (F:Fam) (v:Vol) (k s:Nat) (G:Fam):Prop where
 ok:G.ok
 is:G=F.with (v.set (bK v.l ⟨k,1,s⟩))
 asg:(aQ F v.nm ⟨k,1,s⟩).1=G/\(aQ F v.nm ⟨k,1,s⟩).2.2=0
 cnt:∀ i,i<F.N->F.C.getD i 0=1->G.C.getD i 0=1
 zero:∀ i,i<F.N->(bS G.C i=true↔bS F.C i=true/\i≠s)
 new:exB G.C (bK v.l ⟨k,1,s⟩) k=true
 old:∀ b:Nat,exB F.C v.l b=true->exB G.C (bK v.l ⟨k,1,s⟩) b=true
theorem bAq (hF:F.ok) (hv:aP F.vs v.nm=some v) (hk:(k:Int)<v.n) (he:exB F.C v.l k=false) (hs:s<F.N) (hz:F.C.getD s 0=0):OneB F v k s (F.with (v.set (bK v.l ⟨k,1,s⟩))):=by
 have hok:=hF.vol v (aH hv).1;have hN:=hF.hN;have hx:(inB (k:Int) 1 v.n&&qN F.N ⟨k,1,s⟩)=true:=by
  rw[Bool.and_eq_true];exact⟨(iN _ _ _).2 ⟨by omega,by omega,by omega,by omega⟩,decide_eq_true ⟨by simp,by simp,by simp only;omega⟩⟩
 have hasg:aQ F v.nm ⟨k,1,s⟩=(F.with (v.set (bK v.l ⟨k,1,s⟩)),dS F (F.with (v.set (bK v.l ⟨k,1,s⟩))),0):=by
  unfold aQ;rw[hv];show(if (inB (k:Int) 1 v.n&&qN F.N ⟨k,1,s⟩)=false then _ else _)=_;rw[if_neg (by rw[hx];decide)]
 have hG:(F.with (v.set (bK v.l ⟨k,1,s⟩))).ok:=by have:=nH hF v.nm ⟨k,1,s⟩;rwa [hasg]at this
 have hxo:okB ⟨k,1,s⟩=true:=(hok.put hN hx).1;have hget:∀ i,i<F.N->(F.with (v.set (bK v.l ⟨k,1,s⟩))).C.getD i 0+cnt (inL v.l k 1) i=F.C.getD i 0+uJ ⟨k,1,s⟩ i:=fun i hi=>by
  have h1:=aFd hF hv hG i hi;have h2:=aEw v.l ⟨k,1,s⟩ i hxo hok.valid;have h3:cnt (inL v.l (⟨k,1,s⟩:E).a (⟨k,1,s⟩:E).n) i=cnt (inL v.l k 1) i:=rfl;omega
 have hX:∀ i:Nat,uJ ⟨k,1,s⟩ i=if i=s then 1 else 0:=fun i=>aNd (by simp only;omega);have hcn:∀ i,i<F.N->F.C.getD i 0=jB (bP F.vs v.nm) i+cnt v.l i:=fun i hi=>by rw[hF.get i hi,qX hF.sorted hv]
 have hin:∀ i,i<F.N->cnt (inL v.l k 1) i<=F.C.getD i 0:=fun i hi=>by
  have h1:=hcn i hi;have h2:=lU (bP F.vs v.nm) i;have h3:=aEw v.l ⟨k,1,s⟩ i hxo hok.valid;have h4:=aCp v.l k (k+1) i (by omega) (by omega) (by have:=hok.n2;omega) (aK hok.valid);have h5:=aWm v.l k 1 i (aK hok.valid);have h6:=(bZ (aJ v.l 0 k) i).1;have h7:=(bZ (aJ v.l (k+1) 65536) i).1;omega
 obtain ⟨G,hGe⟩:∃ G,F.with (v.set (bK v.l ⟨k,1,s⟩))=G:=⟨_,rfl⟩;rw[hGe]at hasg hG hget ⊢;have hcnt:∀ i,i<F.N->F.C.getD i 0=1->G.C.getD i 0=1:=fun i hi h1=>by
  have g1:=hget i hi;rw[bFq hF hv hk he i hi h1,hX]at g1;rw[if_neg (by rintro rfl;omega)]at g1;omega
 have hsone:G.C.getD s 0=1:=by
  have g1:=hget s hs;rw[hX,if_pos rfl]at g1;have g2:=hin s hs;have g3:=(bZ (inL v.l k 1) s).1;omega
 have hslot:∀ b:Nat,aR (bK v.l ⟨k,1,s⟩) b=if b=k then some (s:Int)else aR v.l b:=fun b=>by
  rw[tK v.l ⟨k,1,s⟩ b hxo hok.valid];by_cases hb:b=k
  ·subst hb;rw[if_pos rfl,if_pos ⟨by simp,by simp only;omega⟩];congr 1;simp
  ·rw[if_neg hb,if_neg (by simp only;omega)]
 refine⟨hG,hGe.symm,by rw[hasg];exact⟨rfl,rfl⟩,hcnt,fun i hi=> ?_,?_,fun b hb=> ?_⟩
 ·have g1:=hget i hi;have g2:=hin i hi;have g3:=(bZ (inL v.l k 1) i).1;have g4:=bFp hF hv hk i;rw[hX]at g1;simp only[bS,decide_eq_true_eq];by_cases hi2:i=s
  ·subst hi2;rw[if_pos rfl]at g1;exact⟨fun h=>by omega,fun h=>absurd rfl h.2⟩
  ·rw[if_neg hi2]at g1;refine⟨fun h=>⟨?_,hi2⟩,fun h=>by omega⟩;by_cases h1:F.C.getD i 0=1
   ·rw[bFq hF hv hk he i hi h1]at g1;omega
   ·omega
 ·unfold exB;rw[hslot,if_pos rfl]
  simpa [bB]using hsone
 ·have hbk:b≠k:=by rintro rfl;rw[he]at hb;cases hb
  unfold exB at hb ⊢;rw[hslot,if_neg hbk]
  cases hsl:aR v.l b with
  |none=>rw[hsl]at hb;cases hb
  | some o=>
   rw[hsl]at hb;have hb:bB F.C o.toNat=true:=hb;obtain⟨q1,q2⟩:=aGd hb;rw[F.bMs]at q1;show bB G.C o.toNat=true
   simpa [bB]using hcnt _ q1 q2
theorem bEp {G:Fam} (hF:F.ok) (hv:aP F.vs v.nm=some v) (hk:(k:Int)<v.n) (he:exB F.C v.l k=false) (hs:s<F.N) (hz:F.C.getD s 0=0) (h:OneB F v k s G):
  cB F+aX F.C v-1<=cB G+aX G.C (v.set (bK v.l ⟨k,1,s⟩))/\aX G.C (v.set (bK v.l ⟨k,1,s⟩))<=max 0 (aX F.C v-1):=by
 have hok:=hF.vol v (aH hv).1;have hGN:G.N=F.N:=by rw[h.is];rfl
 have hGl:G.C.length=F.N:=by rw[G.bMs,hGN]
 have h1:=aBu hF (nm:=v.nm) hGl fun i hi h1 _=>h.cnt i hi h1;have h2:=mK hF hv;have h3:jO G=aX G.C (v.set (bK v.l ⟨k,1,s⟩))+((bP F.vs v.nm).map (aX G.C)).sum:=by
  have:=uL F (v.set (bK v.l ⟨k,1,s⟩));rw[show(⟨F.N,eB F.vs (v.set (bK v.l ⟨k,1,s⟩))⟩:Fam)=G from h.is.symm]at this;exact this
 have h4:aL (bS F.C) F.N=aL (bS G.C) F.N+1:=by
  rw[<-aBg s F.N hs,<-rU _ _ _ fun i hi ha hb=>((h.zero i hi).1 ha).2 (of_decide_eq_true hb)];refine aN _ _ _ fun i hi=> ?_;rw[Bool.eq_iff_iff,Bool.or_eq_true,h.zero i hi,decide_eq_true_eq];by_cases hi2:i=s
  ·subst hi2;exact⟨fun _=> .inr rfl,fun _=>decide_eq_true hz⟩
  ·exact⟨fun q=> .inl ⟨q,hi2⟩,fun q=>q.elim (fun q=>q.1) fun q=>absurd q hi2⟩
 have hm:v.set (bK v.l ⟨k,1,s⟩)∈G.vs:=by rw[h.is];exact eF.2 (.inl rfl)
 have h5:=yG h.ok hm;have h6:=yG hF (aH hv).1;have h7:aL (fun j:Nat=>exB F.C v.l j) v.n.toNat+1<=aL (fun j:Nat=>exB G.C (bK v.l ⟨k,1,s⟩) j) v.n.toNat:=by
  rw [<-aBg k v.n.toNat (by omega),<-rU _ _ _ fun i hi ha hb=>by
   have:i=k:=of_decide_eq_true hb;subst this;rw[he]at ha
   cases ha]
  refine qM _ _ _ fun i hi hb=> ?_;simp only[Bool.or_eq_true,decide_eq_true_eq]at hb;rcases hb with hb|rfl
  ·exact h.old i hb
  ·exact h.new
 have h8:bF G.C (v.set (bK v.l ⟨k,1,s⟩)).l=aL (fun j:Nat=>exB G.C (bK v.l ⟨k,1,s⟩) j) v.n.toNat:=h5;have h9:aX G.C (v.set (bK v.l ⟨k,1,s⟩))<=max 0 (aX F.C v-1):=by
  unfold aX;rw[h8,h6];show max 0 (v.r-_)<=_;omega
 refine⟨?_,h9⟩;unfold cB mV;rw[h3,h2,hGN,h4];omega
end
structure Fam.sound (F:Fam):Prop where
 ok:F.ok
 small:∀ v∈F.vs,v.n<=255
 room:0<=cB F
theorem Fam.sound.short {F:Fam} (h:F.sound):∀ v∈F.vs,v.l.length<=9000:=fun v hv=>by
 have h1:=(h.ok.vol v hv).short.2;have h2:=h.small v hv;omega
structure aIm (F G:Fam):Prop where
 N:G.N=F.N
 vol:∀ v∈F.vs,¬xO v.nm->aP G.vs v.nm=some v
theorem aIm.refl {F:Fam} (hF:F.ok):aIm F F:=⟨rfl,fun v hv _=>iO hF.sorted hv⟩
structure WrI (F:Fam) (v:Vol) (p n j:Nat) (G:Fam):Prop where
 ok:G.ok
 N:G.N=F.N
 get:∃ l,aP G.vs v.nm=some (v.set l)/\(∀b:Nat,p<=b->b<p+j->exB G.C l b=true)/\lZ G.C l (p+j) (n-j)<=aX G.C (v.set l)+cB G
 oth:∀ nm,nm≠v.nm->aP G.vs nm=aP F.vs nm
 room:0<=cB G
theorem Vol.set_self (v:Vol):v.set v.l=v:=rfl
theorem WrI.start {F:Fam} (hF:F.ok) {v:Vol} (hv:aP F.vs v.nm=some v) (p n:Nat) (hr:0<=cB F) (hn:lZ F.C v.l p n<=aX F.C v+cB F):WrI F v p n 0 F:=
 ⟨hF,rfl,⟨v.l,hv,fun b h1 h2=>by omega,hn⟩,fun _ _=>rfl,hr⟩
theorem bCc {F:Fam} (hF:F.ok) {v:Vol} (hv:aP F.vs v.nm=some v):aX F.C v<=jO F:=by
 have h1:=mK hF hv;have h2:=aJe F.C (bP F.vs v.nm);omega
theorem WrI.skip {F G:Fam} {v:Vol} {p n j:Nat} (h:WrI F v p n j G) (hj:j<n) {l:List E} (hl:aP G.vs v.nm=some (v.set l)) (he:exB G.C l ((p+j:Nat):Int)=true):WrI F v p n (j+1) G:=by
 obtain ⟨l',h1,h2,h3⟩:=h.get;obtain rfl:l'=l:=by
  have:=h1.symm.trans hl;have:=congrArg Vol.l (Option.some.inj this);exact this
 refine⟨h.ok,h.N,⟨l',h1,fun b q1 q2=> ?_,?_⟩,h.oth,h.room⟩
 ·by_cases e:b=p+j
  ·subst e;exact he
  ·exact h2 b q1 (by omega)
 ·rw[show n-j=n-(j+1)+1 by omega,vH,if_pos he]at h3;rw[show p+(j+1)=p+j+1 by omega];omega
theorem WrI.step {F G:Fam} {v:Vol} {p n j s:Nat} (h:WrI F v p n j G) (hj:j<n) {l:List E} (hl:aP G.vs v.nm=some (v.set l)) (he:exB G.C l ((p+j:Nat):Int)=false) (hb:((p+n:Nat):Int)<=v.n) (hs:s<G.N) (hz:G.C.getD s 0=0):
  ∃G',(aQ G v.nm ⟨((p+j:Nat):Int),1,s⟩).1=G'/\(aQ G v.nm ⟨((p+j:Nat):Int),1,s⟩).2.2=0/\WrI F v p n (j+1) G':=by
 obtain ⟨l',h1,h2,h3⟩:=h.get;obtain rfl:l'=l:=by
  have:=h1.symm.trans hl;have:=congrArg Vol.l (Option.some.inj this);exact this
 have hk:((p+j:Nat):Int)<(v.set l').n:=by show _<v.n;omega
 have hv':aP G.vs (v.set l').nm=some (v.set l'):=h1;have ho:=bAq h.ok hv' hk he hs hz;have hr:=bEp h.ok hv' hk he hs hz ho;refine⟨_,ho.asg.1,ho.asg.2,ho.ok,h.N,⟨bK l' ⟨((p+j:Nat):Int),1,s⟩,?_,fun b q1 q2=> ?_,?_⟩,fun nm hne=> ?_,?_⟩
 ·show aP (eB G.vs ((v.set l').set (bK l' ⟨((p+j:Nat):Int),1,s⟩))) v.nm=_;rw[iX h.ok.sorted,if_pos (show v.nm=((v.set l').set (bK l' ⟨((p+j:Nat):Int),1,s⟩)).nm from rfl)];rfl
 ·by_cases e:b=p+j
  ·subst e;exact ho.new
  ·exact ho.old b (h2 b q1 (by omega))
 ·rw [show n-j=n-(j+1)+1 by omega,vH,if_neg (by rw[he];decide)]at h3;have h4:=aUd (C:=G.C) (D:=(G.with ((v.set l').set (bK (v.set l').l ⟨((p+j:Nat):Int),1,s⟩))).C) (l:=l') (l':=bK l' ⟨((p+j:Nat):Int),1,s⟩) (p+j+1) (n-(j+1)) fun b _ _ hb=>ho.old b hb;rw[show p+(j+1)=p+j+1 by omega];have h5:aX G.C (v.set l')=aX G.C (v.set l'):=rfl;have h6:=hr.1;exact Int.le_trans h4 (by
   show _<=aX _ ((v.set l').set (bK (v.set l').l ⟨((p+j:Nat):Int),1,s⟩))+_
   omega)
 ·show aP (eB G.vs ((v.set l').set (bK l' ⟨((p+j:Nat):Int),1,s⟩))) nm=_;rw[iX h.ok.sorted,if_neg (show ¬nm=((v.set l').set (bK l' ⟨((p+j:Nat):Int),1,s⟩)).nm from hne)];exact h.oth nm hne
 ·rw[show n-j=n-(j+1)+1 by omega,vH,if_neg (by rw[he];decide)]at h3;have h4:=aMi G.C l' (p+j+1) (n-(j+1));have h5:=hr.1;have h6:=hr.2;have h7:=h.room;have h8:=nZ G.C (v.set l');omega
theorem WrI.sound {F G:Fam} {v:Vol} {p n j:Nat} (h:WrI F v p n j G) (hF:F.sound) (hv:aP F.vs v.nm=some v):G.sound:=by
 refine⟨h.ok,fun w hw=> ?_,h.room⟩;have hg:=iO h.ok.sorted hw;by_cases e:w.nm=v.nm
 ·obtain⟨l,h1,_⟩:=h.get;rw[e,h1]at hg;rw[<-Option.some.inj hg];exact hF.small v (aH hv).1
 ·rw[h.oth _ e]at hg;exact hF.small w (aH hg).1
theorem WrI.keeps {F G:Fam} {v:Vol} {p n j:Nat} (h:WrI F v p n j G) (hF:F.ok) (hl:xO v.nm):aIm F G:=by
 refine⟨h.N,fun w hw hn=> ?_⟩;rw[h.oth _ (by rintro e;rw[e]at hn;exact hn hl)];exact iO hF.sorted hw
theorem aNq {F:Fam} (hF:F.ok) (hs:∀ v∈F.vs,v.l.length<=9000) {nm:List UInt8} {p n:Int} (h:fM F nm p n=0) (hr:0<=cB F):
  ∃(v:Vol) (p0 n0:Nat),aP F.vs nm=some v/\v.nm=nm/\p=p0/\n=n0/\((p0+n0:Nat):Int)<=v.n/\lZ F.C v.l p0 n0<=aX F.C v+cB F/\lS F nm p n=(lZ F.C v.l p0 n0,0):=by
 have he:(lS F nm p n).2=0:=by
  unfold fM at h
  split at h
  ·assumption
  ·exact absurd h ‹_›
 have hre:(fU F nm p n).2=0:=by
  unfold lS at he
  split at he
  ·assumption
  ·exact absurd he ‹_›
 cases hg:aP F.vs nm with
 |none=>unfold fU at hre;rw[hg]at hre;cases hre
 | some v=>
  have hm:=aH hg;have hin:inB p n v.n=true:=by
   unfold fU at hre;rw[hg]at hre;cases hi:inB p n v.n
   ·have hre:(if inB p n v.n=false then (([]:List E),(2:Int))else (inL v.l p n,0)).2=0:=hre;rw[if_pos hi]at hre;cases hre
   ·rfl
  have h2:=(iN _ _ _).1 hin;obtain⟨p0,rfl⟩:=Int.eq_ofNat_of_zero_le h2.1;obtain⟨n0,rfl⟩:=Int.eq_ofNat_of_zero_le h2.2.1;obtain⟨_,rfl⟩:=hm;have hb:((p0+n0:Nat):Int)<=v.n:=by omega
  have hneed:=tX hF hg p0 n0 hb;refine⟨v,p0,n0,rfl,rfl,rfl,rfl,hb,?_,hneed⟩;unfold fM at h;rw[hneed,if_pos rfl]at h;have hc:(iC F v.nm).1=aX F.C v:=by unfold iC;rw[hg]
  unfold gP at h;rw[hc]at h
  split at h
  ·cases h
  ·omega
theorem uI {F:Fam} (hF:F.sound) {nm:List UInt8} {n r:Int} (hn:n<=255) (hc:eQ F n r=0) (he:(aU F nm n r).2=0):(aU F nm n r).1.sound:=by
 have hok:=aKe hF.ok nm n r;unfold aU at he hok ⊢
 split at he
 ·simp at he
 split at he
 ·simp at he
 split at he
 ·simp at he
 rename_i h1 h2 h3
 rw[if_neg h1,if_neg h2,if_neg h3]at hok ⊢;have hu:aP F.vs nm=none:=by simpa using h2
 have hb:gK nm=true/\aMt n r=true:=by simpa using h1
 have hnum:1<=n/\n<=65536/\0<=r/\r<=n:=of_decide_eq_true hb.2;refine⟨hok,fun w hw=> ?_,?_⟩
 ·rcases eF.1 hw with rfl|hw
  ·exact hn
  ·exact hF.small w hw.1
 ·show 0<=cB ⟨F.N,eB F.vs ⟨nm,n,r,[]⟩⟩;rw[aPd hF.ok (u:=⟨nm,n,r,[]⟩) hu rfl hnum.2.2.1];unfold eQ gP at hc;rw[hb.2,if_neg (by decide)]at hc
  split at hc
  ·cases hc
  ·show 0<=cB F-r;omega
theorem aSg {F:Fam} (hF:F.sound) {nm ot:List UInt8} (hc:fB F nm=0) (he:(bJ F nm ot).2=0):(bJ F nm ot).1.sound:=by
 have hok:=aQb hF.ok nm ot;unfold bJ at he hok ⊢;unfold fB at hc
 cases hg:aP F.vs nm with
 |none=>rw[hg]at he;cases he
 | some v=>
  rw[hg]at he hok hc;obtain⟨hm,rfl⟩:=aH hg;simp only at he hok hc ⊢
  split at he
  ·simp at he
  split at he
  ·simp at he
  split at he
  ·simp at he
  rename_i h1 h2 h3
  rw[if_neg h1,if_neg h2,if_neg h3]at hok ⊢;have hu:aP F.vs ot=none:=by simpa using h2
  refine⟨hok,fun w hw=> ?_,?_⟩
  ·rcases eF.1 hw with rfl|hw
   ·exact hF.small v hm
   ·exact hF.small w hw.1
  ·show 0<=cB ⟨F.N,eB F.vs ⟨ot,v.n,0,v.l⟩⟩;rw[aUb hF.ok (u:=⟨ot,v.n,0,v.l⟩) hg hu rfl rfl];unfold gP at hc
   split at hc
   ·cases hc
   ·omega
theorem aNk {F:Fam} (hF:F.sound) {nm:List UInt8} (he:(bC F nm).2.2=0):(bC F nm).1.sound:=by
 have hok:=xD hF.ok nm;unfold bC at he hok ⊢
 cases hg:aP F.vs nm with
 |none=>rw[hg]at he;cases he
 | some v=>
  rw[hg]at hok;simp only at hok ⊢;refine⟨hok,fun w hw=>hF.small w (gM.1 hw).1,?_⟩;have:=aPc hF.ok nm;have:=hF.room;omega
theorem aOh {F:Fam} (hF:F.sound) {nm:List UInt8} {p n:Int} (he:(bY F nm p n).2.2=0):(bY F nm p n).1.sound:=by
 have hok:=aAg hF.ok nm p n;unfold bY at he hok ⊢
 cases hg:aP F.vs nm with
 |none=>rw[hg]at he;cases he
 | some v=>
  rw[hg]at he hok;obtain⟨hm,rfl⟩:=aH hg;simp only at he hok ⊢
  split at he
  ·simp at he
  rename_i hi
  rw[if_neg hi]at hok ⊢;have hi:inB p n v.n=true:=by simpa using hi
  have hv:=hF.ok.vol v hm;have hw:=(hv.cut hi).1;refine⟨hok,fun w hw=> ?_,?_⟩
  ·rcases eF.1 hw with rfl|hw
   ·exact hF.small v hm
   ·exact hF.small w hw.1
  ·have h1:=bDo hF.ok hg hok fun i _=>by
    have h2:=aXy v.l p n i hw hv.valid;have h3:=(bZ (inL v.l p n) i).1;omega
   have:=hF.room;exact Int.le_trans this h1
theorem aTn {F:Fam} (hF:F.sound) {s:aW} (hs:s.ok) (h0:s.k%8=0->eQ F s.n s.a=0) (h1:s.k%8=1->fB F (aY s.v)=0) (h3:s.k%8<=3):(sK F s).sound:=by
 unfold sK
 split
 ·rename_i he
  unfold iB at he ⊢;by_cases e0:s.k%8=0
  ·rw[if_pos e0]at he ⊢;exact uI hF hs.n.2 (h0 e0) he
  rw[if_neg e0]at he ⊢;by_cases e1:s.k%8=1
  ·rw[if_pos e1]at he ⊢;exact aSg hF (h1 e1) he
  rw[if_neg e1]at he ⊢;by_cases e2:s.k%8=2
  ·rw[if_pos e2]at he ⊢;exact aNk hF he
  rw[if_neg e2]at he ⊢;rw[if_pos (by have:=hs.k;omega)]at he ⊢;exact aOh hF he
 ·exact hF
theorem aOn {F:Fam} (hF:F.ok) {s:aW} (hs:s.ok):aIm F (sK F s):=by
 unfold sK
 split
 ·rename_i he
  have hN:(iB F s).1.N=F.N:=by
   revert he;unfold iB
   split
   ·show(aU F (aY s.v) s.n s.a).2=0->(aU F (aY s.v) s.n s.a).1.N=F.N;unfold aU
    split
    ·intro h;simp at h
    split
    ·intro h;simp at h
    split
    ·intro h;simp at h
    intro _;rfl
   split
   ·show(bJ F (aY s.v) (aY s.o)).2=0->(bJ F (aY s.v) (aY s.o)).1.N=F.N;unfold bJ
    split
    ·intro h;simp at h
    split
    ·intro h;simp at h
    split
    ·intro h;simp at h
    split
    ·intro h;simp at h
    intro _;rfl
   split
   ·unfold bC
    split
    ·intro h;simp at h
    intro _;rfl
   split
   ·unfold bY
    split
    ·intro h;simp at h
    split
    ·intro h;simp at h
    intro _;rfl
   unfold aQ
   split
   ·intro h;simp at h
   split
   ·intro h;simp at h
   intro _;rfl
  refine⟨hN,fun v hv hn=>aTo hF he hv (.inl fun e=>hn ?_)⟩;have hb:=(hF.vol v hv).name;rw[e]at hb ⊢;exact aAj hs.v.1 hb
 ·exact aIm.refl hF
theorem aLz {F:Fam} (hF:F.ok) {v:Vol} {k:Int} (hk:0<=k) (hv:aP F.vs (aY k)=some v):xO v.nm:=by
 obtain⟨hm,he⟩:=aH hv;have hb:=(hF.vol v hm).name;rw[he]at hb ⊢;exact aAj hk hb
theorem xJ (N:Nat) (hN:N<=65536):(⟨N,[]⟩:Fam).sound:=by
 refine⟨(bFw N hN).1,fun v hv=>by simp at hv,?_⟩;unfold cB jO mV;simp
end Go.Proofs.YtaiklhbakldfhaaGreat
