/- Plain laws: sums over slots; the exclusive blocks of a volume as the reference counts them; the accounts.. Conditions: as each theorem says. -/
import Derived.Test.YtphfgbbbejloaaaGreatDoorGA
set_option linter.unusedSimpArgs false
set_option linter.unusedVariables false
set_option maxRecDepth 100000
set_option maxHeartbeats 16000000
namespace Go.Proofs.YtphfgbbbejloaaaGreatDoor
theorem sh56{P:Prop}(h:P:=by
  have:=h1.symm.trans hl;have:=congrArg Vol.l (Qv this);exact this
  ):P:=h
theorem sh57{P:Prop}(h:P:=by
  obtain⟨x,hx,rfl⟩:=Yd.1 h;obtain⟨h1,h2⟩:=List.mem_filter.1 hx;exact⟨x,h1,Qt h2,rfl⟩
  ):P:=h
theorem sh58{P:Prop}(h:P:=by
  have h1:=h x sM;have h2:=ih λy hy=>h y (by simp[hy]);simp only[List.map_cons,List.sum_cons];omega
  ):P:=h
theorem sh59{P:Prop}(h:P:=by
  rw[Bool.eq_false_iff];simp only[ne_eq,Qd,gB,Qc];omega
  ):P:=h
theorem sh60{P:Prop}(h:P:=by
  rcases dM.1 hw with rfl|hw
  ·exact hF.small v hm
  ·exact hF.small w hw.1
  ):P:=h
def mH(f:Nat->Int):Nat->Int
 |0=>0
 |n+1=>mH f n+f n
theorem NM{f g:Nat->Int}(n:Nat)(h:∀i,i<n->f i=g i):mH f n=mH g n:=by
 induction n with
 |zero=>rfl
 |succ n ih=>simp only[mH];rw[ih λi hi=>h i oM,h n oM]
theorem VF(f g:Nat->Int)(n:Nat):mH (λi=>f i+g i) n=mH f n+mH g n:=by
 induction n with
 |zero=>rfl
 |succ n ih=>simp only[mH,ih];omega
theorem Bp{f:Nat->Int}(n:Nat)(h:∀i,i<n->f i=0):mH f n=0:=by
 induction n with
 |zero=>rfl
 |succ n ih=>simp only[mH];rw[ih λi hi=>h i oM,h n oM];rfl
theorem Gy{f:Nat->Bool}{g:Nat->Int}(n:Nat)(h:∀i,i<n->g i=if f i=true then 1 else 0):mH g n=aK f n:=by
 induction n with
 |zero=>rfl
 | succ n ih=>
  simp only[mH,aK];rw[ih λi hi=>h i oM,h n oM]
  split <;> omega
theorem Eb(f:Nat->Int)(s k:Nat):mH f (s+k)=mH f s+mH (λj=>f (s+j)) k:=by
 induction k with
 |zero=>simp[mH]
 | succ k ih=>
  rw[<-Nat.add_assoc];simp only[mH,ih];omega
def Ji(C:List Int)(x:E):Int:=aK (λj=>bN C (x.s.toNat+j)) x.n.toNat
def dS(C:List Int)(l:List E):Int:=(l.map (Ji C)).sum
def xY(C:List Int)(g:Nat->Int)(i:Nat):Int:=if bN C i=true then g i else 0
theorem Sg{x:E}{i:Nat}(h:¬ (x.s<=(i:Int)/\(i:Int)<x.s+x.n)):uU x i=0:=Qe h
theorem Zu{x:E}{i:Nat}(h:x.s<=(i:Int)/\(i:Int)<x.s+x.n):uU x i=1:=Qf h
theorem Ha(C:List Int){g:Nat->Int}{i:Nat}(h:g i=0):xY C g i=0:=by
 unfold xY;rw[h]
 split <;> rfl
theorem Xm(C:List Int)(x:E)(h:1<=x.n/\0<=x.s/\x.s+x.n<=C.length):Ji C x=mH (xY C (uU x)) C.length:=by
 obtain⟨N,hN⟩:∃N,C.length=N:=⟨_,rfl⟩;rw[hN]at h ⊢;have e:N=x.s.toNat+x.n.toNat+(N-(x.s.toNat+x.n.toNat)):=oM
 rw[e,Eb,Eb,Bp x.s.toNat,Bp (N-(x.s.toNat+x.n.toNat))]
 ·unfold Ji;rw[Gy (f:=λj=>bN C (x.s.toNat+j))]
  ·omega
  ·intro i hi;show xY C (uU x) (x.s.toNat+i)=_;unfold xY;rw[Zu oM]
 ·intro i hi;exact Ha C (g:=uU x) (i:=x.s.toNat+x.n.toNat+i) (Sg oM)
 ·intro i hi;exact Ha C (Sg oM)
theorem Xn(C:List Int)(f g:Nat->Int)(n:Nat):mH (xY C λi=>f i+g i) n=mH (xY C f) n+mH (xY C g) n:=by
 rw[<-VF];refine NM n λi _=> ?_;simp only[xY]
 split <;> omega
theorem ME(C:List Int)(l:List E):aQ C.length l=true->dS C l=mH (xY C (cnt l)) C.length:=by
 induction l with
 |nil=>intro _;rw[Bp _ λi _=>by unfold xY cnt;split <;> rfl];rfl
 | cons x r ih=>
  intro h;have h':=(aP _ _).1 h;have:=ih ((aP _ _).2 λy hy=>h' y (by simp[hy]));unfold dS at this ⊢;rw[List.map_cons,List.sum_cons,this,Xm C x (h' x sM),<-Xn];rfl
theorem pW{N:Nat}(l:List E)(h:aQ N l=true)(i:Nat):oC l i=decide (0<cnt l i):=by
 rw[Qw,Qc,JG];unfold oC LP;simp only[List.any_eq_true,Qd,Qc,gB];exact⟨λ⟨x,hx,_,h2⟩=>⟨x,hx,h2⟩,λ⟨x,hx,h2⟩=>⟨x,hx,((aP _ _).1 h x hx).1,h2⟩⟩
theorem NV(C:List Int)(l:List E)(h:aQ C.length l=true)(h1:∀i,i<C.length->bN C i=true->cnt l i<=1):bF C l=mH (xY C (cnt l)) C.length:=by
 unfold bF;rw[<-Gy (g:=xY C (cnt l))];intro i hi;have hb:=bU l i;unfold xY;rw[pW l h];by_cases ho:bN C i=true
 ·have:=h1 i hi ho;rw[Qf ho,ho];simp only[Bool.and_true,Qc]
  split <;> omega
 ·rw[Qe ho,Qe (by simp[ho])]
theorem wN(vs:List Vol)(v:Vol)(h:v∈vs)(i:Nat):cnt v.l i<=iI vs i:=by
 have hn:∀vs:List Vol,0<=iI vs i:=λvs=>by
  induction vs with
  |nil=>simp[iI]
  | cons w r ih=>
   have:=(bU w.l i).1;simp only[iI,List.map_cons,List.sum_cons]at ih ⊢;omega
 induction vs with
 |nil=>simp at h
 | cons w r ih=>
  have h0:=hn r;have h1:=(bU w.l i).1;simp only[iI,List.map_cons,List.sum_cons]at ih h0 ⊢;rcases Yl.1 h with rfl|h
  ·omega
  ·have:=ih h;omega
theorem aGn{F:Fam}(hF:F.ok){v:Vol}(hv:v∈F.vs)(i:Nat)(hi:i<F.C.length)(h:bN F.C i=true):cnt v.l i<=1:=by
 have h1:=wN F.vs v hv i;have h2:=hF.get i (by rw[F.aIz]at hi;exact hi);have h3:F.C.getD i 0=1:=by simpa [bN]using h
 omega
theorem wL{F:Fam}(hF:F.ok){v:Vol}(hv:v∈F.vs):dS F.C v.l=bF F.C v.l:=by
 have hp:aQ F.C.length v.l=true:=by rw[F.aIz];exact(hF.vol v hv).perm
 rw[ME _ _ hp,NV _ _ hp (aGn hF hv)]
theorem zI(C:List Int)(l:List E)(k:Nat)(h:k<l.length):dS C (l.take (k+1))=dS C (l.take k)+Ji C l[k]:=by
 unfold dS;rw[Qh h,Yz,List.sum_append];simp only[List.map_cons,List.map_nil,List.sum_cons,List.sum_nil];omega
theorem AU(C:List Int)(l:List E)(m:Nat)(h:∀x∈l,x.n<=m):0<=dS C l/\dS C l<=m*l.length:=by
 induction l with
 |nil=>simp[dS]
 | cons x r ih=>
  have h1:=ih λy hy=>h y (by simp[hy]);have h2:=h x sM;have h3:=iX (λj=>bN C (x.s.toNat+j)) x.n.toNat;unfold dS at h1 ⊢;simp only[List.map_cons,List.sum_cons,List.length_cons];rw[show((r.length+1:Nat):Int)=r.length+1 by omega,Int.mul_add];unfold Ji;unfold Ji at h1;omega
def aBe(s:LU):Prop:= ∃j:Nat,j<5/\s=[UInt8.ofNat (97+j)]
def Fam.small(F:Fam):Prop:= ∀v∈F.vs,v.n<=255/\aBe v.nm
def Fam.good(F:Fam):Prop:=F.ok/\F.small
theorem YM(n:Nat)(hn:n<=65536):(⟨n,[]⟩:Fam).good:=⟨⟨hn,List.Pairwise.nil,Yf _,sM⟩,by simp[Fam.small]⟩
theorem OI(f:Nat->Bool)(n:Nat)(h:∀i,i<n->f i=false):picks f n=[]:=by
 induction n with
 |zero=>rfl
 |succ n ih=>rw[Em f n (h n oM),ih λi hi=>h i oM]
section
variable{F:Fam}(hF:F.good){v:Vol}(hv:v∈F.vs)
include hF
include hv
omit hv in
end
def aY(C:List Int)(v:Vol):Int:=max 0 (v.r-bF C v.l)
def gQ(F:Fam)(nm:LU):Int × Int:=match aN F.vs nm with
 |none=>(0,9)
 |some v=>(aY F.C v,0)
def iC(F:Fam):Int:=(F.vs.map (aY F.C)).sum
def jD(F:Fam):Int:=aK (bH F.C) F.N
def dC(F:Fam):Int:=jD F-iC F
def jP(F:Fam)(nm:LU)(p n:Int):Int × Int:=
 if (dP F nm p n).2=0 then (n-dS F.C (dP F nm p n).1,0)else (0,(dP F nm p n).2)
def iL(want have':Int):Int:=if want>have' then 11 else 0
def fG(F:Fam)(n r:Int):Int:=if BF n r=false then 1 else iL r (dC F)
def eD(F:Fam)(nm:LU):Int:=match aN F.vs nm with
 |none=>9
 |some v=>iL (v.r-aY F.C v) (dC F)
def fM(F:Fam)(nm:LU)(p n:Int):Int:=
 if (jP F nm p n).2=0 then iL (jP F nm p n).1 ((gQ F nm).1+max 0 (dC F))else (jP F nm p n).2
theorem Ve(C:List Int)(v:Vol)(h:0<=v.r):0<=aY C v/\aY C v<=v.r:=by
 unfold aY bF;omega
theorem YT{F:Fam}(hF:F.ok):aR (iY F.C)=jD F:=by
 unfold jD;rw[Us F.C (by rw[F.aIz];exact hF.hN),F.aIz]
theorem UE{F:Fam}(hF:F.ok):(F.N:Int)-oZ F.C=jD F:=by
 have:=SK F.C 2097152 hF.range;rw[F.aIz]at this;unfold jD;omega
theorem NL{α:Type}(f g:α->Int)(l:List α)(h:∀x∈l,f x<=g x):(l.map f).sum<=(l.map g).sum:=by
 induction l with
 |nil=>simp
 | cons x r ih=>
  exact sh58
theorem vJ{α:Type}(f:α->Int)(l:List α)(h:∀x∈l,0<=f x):0<=(l.map f).sum:=by
 induction l with
 |nil=>simp
 | cons x r ih=>
  exact sh58
theorem Jh{C:List Int}{i:Nat}(h:bN C i=true):i<C.length/\C.getD i 0=1:=by
 have h1:C.getD i 0=1:=by simpa [bN]using h
 refine⟨?_,h1⟩;rcases Nat.lt_or_ge i C.length with h2|h2
 ·exact h2
 ·rw[Ql,List.getElem?_eq_none h2]at h1;simp at h1
theorem lL(vs:List Vol)(i:Nat):0<=iI vs i:=vJ _ _ λv _=>(bU v.l i).1
theorem BB{F:Fam}(hF:F.ok){nm:LU}{D:List Int}(hD:D.length=F.N)(h:∀i,i<F.N->F.C.getD i 0=1->0<iI (bZ F.vs nm) i->D.getD i 0=1):
  ((bZ F.vs nm).map (aY D)).sum<=((bZ F.vs nm).map (aY F.C)).sum:=by
 refine NL _ _ _ λw hw=> ?_;have hp:=(hF.vol w (iB.1 hw).1).perm;have h1:bF F.C w.l<=bF D w.l:=by
  unfold bF;rw[F.aIz,hD];have:=qE (λi=>oC w.l i&&bN F.C i) (λi=>oC w.l i&&bN D i) F.N λi hi hf=>by
   simp only[Qd]at hf ⊢;refine⟨hf.1,?_⟩;rw[pW w.l hp,Qc]at hf;have h3:=wN (bZ F.vs nm) w hw i;have:=h i hi (Jh hf.2).2 oM
   simpa [bN]using this
  omega
 unfold aY;omega
theorem Uc{F:Fam}(hF:F.ok){nm:LU}{D:List Int}(hD:D.length=F.N)(h:∀i,i<F.N->0<iI (bZ F.vs nm) i->(F.C.getD i 0=1↔D.getD i 0=1)):
  ((bZ F.vs nm).map (aY D)).sum=((bZ F.vs nm).map (aY F.C)).sum:=by
 congr 1;refine List.map_congr_left λw hw=> ?_;have hp:=(hF.vol w (iB.1 hw).1).perm;have h1:bF D w.l=bF F.C w.l:=by
  unfold bF;rw[F.aIz,hD];congr 1;refine aM _ _ F.N λi hi=> ?_;rw[pW w.l hp];by_cases hc:0<cnt w.l i
  ·have h3:=wN (bZ F.vs nm) w hw i;have:=h i hi oM;rw[Qo hc,Bool.true_and,Bool.true_and,Qw];simp only[bN,Qc];exact this.symm
  ·rw[Qp hc];rfl
 unfold aY;rw[h1]
theorem mE{F:Fam}(hF:F.ok){v:Vol}(hv:aN F.vs v.nm=some v):iC F=((bZ F.vs v.nm).map (aY F.C)).sum+aY F.C v:=(DD _ hF.sorted hv).symm
theorem uW(F:Fam)(u:Vol):iC ⟨F.N,fV F.vs u⟩=aY (⟨F.N,fV F.vs u⟩:Fam).C u+((bZ F.vs u.nm).map (aY (⟨F.N,fV F.vs u⟩:Fam).C)).sum:=Km _ _ _
theorem rV(C:List Int)(v:Vol):0<=aY C v:=by unfold aY;omega
theorem Gl(C:List Int)(vs:List Vol):0<=(vs.map (aY C)).sum:=vJ _ _ λv _=>rV C v
theorem KO{F:Fam}(hF:F.ok){u:Vol}(hu:aN F.vs u.nm=none)(hl:u.l=[])(hr:0<=u.r):dC ⟨F.N,fV F.vs u⟩=dC F-u.r:=by
 have hC:(⟨F.N,fV F.vs u⟩:Fam).C=F.C:=(Fe hF hu hl).symm;have h1:=uW F u;have h2:aY F.C u=u.r:=by
  unfold aY bF;rw[hl,dK _ _ λi _=>by simp[oC]];omega
 rw[hC,h2,sW hu]at h1;unfold dC jD;rw[hC,h1];show(aK (bH F.C) F.N:Int)-_=_-(F.vs.map (aY F.C)).sum-_;omega
theorem Oi{F:Fam}(hF:F.ok){v u:Vol}(hv:aN F.vs v.nm=some v)(hu:aN F.vs u.nm=none)(hl:u.l=v.l)(hr:u.r=0):dC ⟨F.N,fV F.vs u⟩=dC F-(v.r-aY F.C v):=by
 have hm:=(aC hv).1;have hk:=hF.vol v hm;have hC:eU F.C v.l 1=(⟨F.N,fV F.vs u⟩:Fam).C:=IB hF hm hu hl;obtain⟨D,hD⟩:∃D,(⟨F.N,fV F.vs u⟩:Fam).C=D:=⟨_,rfl⟩;have hDl:D.length=F.N:=by rw[<-hD,Fam.aIz]
 have hget:∀i,i<F.N->D.getD i 0=F.C.getD i 0+cnt v.l i:=λi hi=>by
  rw[<-hD,<-hC,mF v.l 1 _ (by rw[F.aIz];exact hk.perm) i (by rw[F.aIz];exact hi)];omega
 have hcn:∀i,i<F.N->F.C.getD i 0=iI (bZ F.vs v.nm) i+cnt v.l i:=λi hi=>by rw[hF.get i hi,oL hF.sorted hv]
 have h1:=uW F u;rw[hD,sW hu]at h1;have h2:aY D u=0:=by
  unfold aY bF;rw[hr];omega
 have h3:bF D v.l=0:=by
  unfold bF;rw[hDl,dK _ _ λi hi=> ?_]
  ·rfl
  ·rw[pW v.l hk.perm];have g1:=hget i hi;have g2:=hcn i hi;have g3:=lL (bZ F.vs v.nm) i;by_cases hc:0<cnt v.l i
   ·rw[Qo hc,Bool.true_and];exact Qp oM
   ·rw[Qp hc];rfl
 have h4:aY D v=v.r:=by
  unfold aY;rw[h3];have:=hk.r0;omega
 have h5:=DD (aY D) hF.sorted hv;have h6:=Uc hF (nm:=v.nm) hDl λi hi hp=>by
  have g1:=hget i hi;have g2:=hcn i hi;have g3:=(bU v.l i).1;omega
 have h7:=mE hF hv;have h8:aK (bH D) F.N=aK (bH F.C) F.N:=aM _ _ _ λi hi=>by
  have g1:=hget i hi;have g2:=hcn i hi;have g3:=(bU v.l i).1;have g4:=lL (bZ F.vs v.nm) i;unfold bH;rw[Qw,Qc,Qc];omega
 unfold dC jD;rw[hD,h1];show(aK (bH D) F.N:Int)-_=_;rw[h8,h7];omega
theorem KN{F:Fam}(hF:F.ok)(nm:LU):dC F<=dC ⟨F.N,bZ F.vs nm⟩:=by
 cases hg:aN F.vs nm with
 |none=>rw[sW hg];exact Int.le_refl _
 | some v=>
  obtain⟨hm,rfl⟩:=aC hg;obtain⟨D,hD⟩:∃D,(⟨F.N,bZ F.vs v.nm⟩:Fam).C=D:=⟨_,rfl⟩;have hDl:D.length=F.N:=by rw[<-hD,Fam.aIz]
  have hget:∀i,i<F.N->D.getD i 0=iI (bZ F.vs v.nm) i:=λi hi=>by
   rw[<-hD];exact sZ _ _ (λw hw=>(hF.vol w (iB.1 hw).1).perm) i hi
  have hcn:∀i,i<F.N->F.C.getD i 0=iI (bZ F.vs v.nm) i+cnt v.l i:=λi hi=>by rw[hF.get i hi,oL hF.sorted hg]
  have h1:=BB hF (nm:=v.nm) hDl λi hi h1 hp=>by
   have g1:=hget i hi;have g2:=hcn i hi;have g3:=(bU v.l i).1;omega
  have h2:=mE hF hg;have h3:=rV F.C v;have h4:aK (bH F.C) F.N<=aK (bH D) F.N:=qE _ _ _ λi hi hz=>by
   have g1:=hget i hi;have g2:=hcn i hi;have g3:=(bU v.l i).1;have g4:=lL (bZ F.vs v.nm) i;unfold bH at hz ⊢;rw[Qc]at hz ⊢;omega
  unfold dC jD;rw[hD,h2];show(aK (bH F.C) F.N:Int)-_<=(aK (bH D) F.N:Int)-((bZ F.vs v.nm).map (aY (⟨F.N,bZ F.vs v.nm⟩:Fam).C)).sum;rw[hD];omega
section
variable{F:Fam}{v:Vol}{l':List E}
theorem DT(hF:F.ok)(hv:aN F.vs v.nm=some v)(hG:(F.with (v.set l')).ok)(i:Nat)(hi:i<F.N):(F.with (v.set l')).C.getD i 0+cnt v.l i=F.C.getD i 0+cnt l' i:=by
 rw[hG.get i hi,hF.get i hi];exact Cg hF hv i
theorem SE(hG:(F.with (v.set l')).ok):aQ F.N l'=true:=(hG.vol (v.set l') (dM.2 (.inl rfl))).perm
theorem Ww(hF:F.ok)(hv:aN F.vs v.nm=some v)(hG:(F.with (v.set l')).ok)(hle:∀i,i<F.N->cnt l' i<=cnt v.l i):dC F<=dC (F.with (v.set l')):=by
 have hk:=hF.vol v (aC hv).1;have hp':=SE hG;have hget:=DT hF hv hG;obtain⟨D,hD⟩:∃D,(F.with (v.set l')).C=D:=⟨_,rfl⟩;rw[hD]at hget;have hDl:D.length=F.N:=by rw[<-hD,Fam.aIz];rfl
 have hcn:∀i,i<F.N->F.C.getD i 0=iI (bZ F.vs v.nm) i+cnt v.l i:=λi hi=>by rw[hF.get i hi,oL hF.sorted hv]
 have h0:∀i,0<=cnt l' i:=λi=>(bU l' i).1;have h00:∀i,0<=cnt v.l i:=λi=>(bU v.l i).1;have h1:=BB hF (nm:=v.nm) hDl λi hi h1 hp=>by
  have g1:=hget i hi;have g2:=hcn i hi;have g3:=h00 i;have g4:=h0 i;have g5:=hle i hi;omega
 have h2:=mE hF hv;have h3:iC (F.with (v.set l'))=aY D (v.set l')+((bZ F.vs v.nm).map (aY D)).sum:=by
  have:=uW F (v.set l');rw[<-hD];exact this
 obtain⟨f,hf⟩:∃f:Nat->Bool,f=λi=>oC v.l i&&bN F.C i:=⟨_,rfl⟩;obtain⟨g,hg⟩:∃g:Nat->Bool,g=λi=>oC l' i&&bN D i:=⟨_,rfl⟩;have e1:bF F.C v.l=aK f F.N:=by unfold bF;rw[F.aIz,hf]
 have e2:bF D (v.set l').l=aK g F.N:=by unfold bF;rw[hDl,hg];rfl
 have e3:=vB f g F.N;have e4:aK (λi=>f i&&g i) F.N<=aK g F.N:=qE _ _ _ λi _ h=>by
  simp only[Qd]at h;exact h.2
 have e5:aK (λi=>bH F.C i||(f i&& !g i)) F.N=aK (bH F.C) F.N+aK (λi=>f i&& !g i) F.N:=pQ _ _ _ λi hi hz hb=>by
  simp only[Qd]at hb;have hb:=hb.1;rw[hf]at hb;simp only[Qd]at hb;have q1:=(Jh hb.2).2;have q2:F.C.getD i 0=0:=by simpa [bH]using hz
  omega
 have e6:aK (λi=>bH F.C i||(f i&& !g i)) F.N<=aK (bH D) F.N:=qE _ _ _ λi hi h=>by
  have g1:=hget i hi;have g2:=hcn i hi;have g3:=h0 i;have g4:=h00 i;have g5:=hle i hi;have g6:=lL (bZ F.vs v.nm) i;have g7:0<=D.getD i 0:=oM
  show decide (D.getD i 0=0)=true;rw[Qc];simp only[Bool.or_eq_true,Qd]at h;rcases h with h|⟨h,hn⟩
  ·have q2:F.C.getD i 0=0:=by simpa [bH]using h
   omega
  ·rw [hf]at h;simp only[Qd]at h;have q1:=(Jh h.2).2;have q2:=h.1;rw[pW v.l hk.perm,Qc]at q2;rcases(by omega:D.getD i 0=0∨D.getD i 0=1)with q|q
   ·exact q
   ·exfalso;have q3:0<cnt l' i:=oM
    rw[hg]at hn;simp only[pW l' hp',Qo q3,Bool.true_and]at hn;have q4:bN D i=true:=by simpa [bN]using q
    rw[q4]at hn;simp at hn
 have e7:aY D (v.set l')<=aY F.C v+aK (λi=>f i&& !g i) F.N:=by
  unfold aY;rw[e1,e2];show max 0 (v.r-_)<=_;omega
 unfold dC jD;rw[hD,h2,h3];show(aK (bH F.C) F.N:Int)-_<=(aK (bH D) F.N:Int)-_;omega
end
theorem qU(f:Nat->Bool)(s k:Nat):aK f (s+k)=aK f s+aK (λj=>f (s+j)) k:=by
 induction k with
 |zero=>simp[aK]
 | succ k ih=>
  rw[<-Nat.add_assoc];simp only[aK,ih];omega
theorem Bi(s n:Nat)(h:s<n):aK (λi=>decide (i=s)) n=1:=by
 rw [aM _ (λi=>decide (s<=i)&&decide (i<s+1)) n λi _=>by
  rw[Qw];simp only[Qd,Qc];omega,xU _ _ _ oM]
 omega
def exB(C:List Int)(l:List E)(b:Int):Bool:=match aF l b with
 |none=>false
 |some s=>bN C s.toNat
theorem Sc(C:List Int)(b:Int):exB C [] b=false:=rfl
theorem Ze(C:List Int)(x:E)(r:List E)(b:Int):exB C (x::r) b=if hits b x then bN C (x.s+b-x.a).toNat else exB C r b:=by
 unfold exB aF;by_cases h:hits b x=true
 ·rw[List.find?_cons_of_pos h,Qf h];rfl
 ·rw[List.find?_cons_of_neg h,Qe h]
theorem ER(C:List Int)(l:List E)(e b:Int)(h:bD e l=true)(hb:b<e):exB C l b=false:=by
 unfold exB;rw[nO l b λx hx=> ?_];have:=((nD l e).1 h).2.2 x hx;unfold hits;rw[Qp oM];rfl
theorem MF(C:List Int)(l:List E):∀e,0<=e->bD e l=true->dS C l=aK (λb=>exB C l b) 65536:=by
 induction l with
 |nil=>intro e _ _;rw[dK _ _ λi _=>Sc C i];rfl
 | cons x r ih=>
  intro e h0 hv;have hv':=hv;simp only[bD,Qd,Qc]at hv';obtain⟨c1,c2,c3,c4,c5⟩:=(aB x).1 hv'.1;have hr:=hv'.2.2;have h1:=ih (x.a+x.n) oM hr;have h2:dS C (x::r)=Ji C x+dS C r:=by simp[dS]
  rw [h2,h1];have e1:aK (λb:Nat=>exB C (x::r) b) 65536=aK (λb:Nat=>(hits b x&&bN C (x.s+b-x.a).toNat)||exB C r b) 65536:=aM _ _ _ λb _=>by
   rw[Ze];by_cases h:hits b x=true
   ·rw[Qf h,h,ER C r _ b hr]
    ·simp
    ·simp only[hits,Qd,Qc]at h;exact h.2
   ·rw[Qe h];have h:hits b x=false:=by simpa using h
    rw[h];rfl
  rw [e1,pQ _ _ _ λb _ hb hc=>by
   simp only[Qd,hits,Qc]at hb;rw[ER C r _ b hr hb.1.2]at hc
   cases hc]
  have e2:aK (λb:Nat=>hits b x&&bN C (x.s+b-x.a).toNat) 65536=aK (λj=>bN C (x.s.toNat+j)) x.n.toNat:=by
   have hs:65536=x.a.toNat+x.n.toNat+(65536-(x.a.toNat+x.n.toNat)):=oM
   rw[hs,qU,qU,dK _ x.a.toNat λi hi=> ?_,dK _ (65536-(x.a.toNat+x.n.toNat)) λi hi=> ?_,Nat.zero_add,Nat.add_zero]
   ·refine aM _ _ _ λj hj=> ?_;have:hits ((x.a.toNat+j:Nat):Int) x=true:=by simp only[hits,Qd,Qc];omega
    rw[this,Bool.true_and];congr 1;omega
   ·have:hits ((x.a.toNat+x.n.toNat+i:Nat):Int) x=false:=by
     simp only[hits,Yo,Qy];omega
    rw[this];rfl
   ·have:hits (i:Int) x=false:=by
     simp only[hits,Yo,Qy];omega
    rw[this];rfl
  rw[e2];unfold Ji;omega
theorem zH(C:List Int)(l:List E)(p n:Nat)(hv:aH l=true)(hp:p+n<=65536):dS C (inL l p n)=aK (λj=>exB C l ((p+j:Nat):Int)) n:=by
 have h1:bD 0 (inL l p n)=true:=xH l p n hv;rw[MF C _ 0 (Int.le_refl _) h1];have e:∀b:Nat,exB C (inL l p n) b=if p<=b/\b<p+n then exB C l b else false:=λb=>by
  unfold exB;rw[Tg l p n b hv];by_cases h:p<=b/\b<p+n
  ·rw[Qf h,Qf oM]
  ·rw[Qe h,Qe oM]
 have hs:65536=p+n+(65536-(p+n)):=oM
 rw[hs,qU,qU,dK _ p λi hi=> ?_,dK _ (65536-(p+n)) λi hi=> ?_,Nat.zero_add,Nat.add_zero]
 ·rw[aM _ (λj=>exB C l ((p+j:Nat):Int)) n λj hj=>by rw[e,Qf oM]]
 ·rw[e,Qe oM]
 ·rw[e,Qe oM]
theorem nG{F:Fam}(hF:F.ok){v:Vol}(hv:v∈F.vs):bF F.C v.l=aK (λj:Nat=>exB F.C v.l j) v.n.toNat:=by
 have hk:=hF.vol v hv;have h1:=hk.n1;have h2:=hk.n2;rw[<-wL hF hv,<-YG hk.valid hk.norm hk.ins];have:=zH F.C v.l 0 v.n.toNat hk.valid oM;rw[show((v.n.toNat:Nat):Int)=v.n by omega]at this;rw[show((0:Nat):Int)=0 from rfl]at this;rw[this,YG hk.valid hk.norm hk.ins];exact congrArg Int.ofNat (aM _ _ _ λj _=>by rw[Nat.zero_add])
def jN(C:List Int)(l:List E)(p m:Nat):Int:=(m:Int)-aK (λj=>exB C l ((p+j:Nat):Int)) m
theorem Ah(C:List Int)(l:List E)(p m:Nat):0<=jN C l p m:=by
 have:=iX (λj=>exB C l ((p+j:Nat):Int)) m;unfold jN;omega
theorem nU(C:List Int)(l:List E)(p m:Nat):jN C l p (m+1)=(if exB C l p=true then 0 else 1)+jN C l (p+1) m:=by
 unfold jN;rw[show m+1=1+m by omega,qU];have e1:aK (λj=>exB C l ((p+j:Nat):Int)) 1=if exB C l p=true then 1 else 0:=by simp[aK]
 have e2:aK (λj=>exB C l ((p+(1+j):Nat):Int)) m=aK (λj=>exB C l ((p+1+j:Nat):Int)) m:=aM _ _ _ λj _=>by rw[show p+(1+j)=p+1+j by omega]
 rw[e1,e2]
 split <;> omega
theorem Ol{C D:List Int}{l l':List E}(p m:Nat)(h:∀b:Nat,p<=b->b<p+m->exB C l b=true->exB D l' b=true):jN D l' p m<=jN C l p m:=by
 have:=qE (λj=>exB C l ((p+j:Nat):Int)) (λj=>exB D l' ((p+j:Nat):Int)) m λj hj he=>h (p+j) oM oM he;unfold jN;omega
theorem qM{F:Fam}(hF:F.ok){v:Vol}(hv:aN F.vs v.nm=some v)(p n:Nat)(hb:((p+n:Nat):Int)<=v.n):jP F v.nm p n=(jN F.C v.l p n,0):=by
 have hk:=hF.vol v (aC hv).1;have h2:=hk.n2;have hr:dP F v.nm p n=(inL v.l p n,0):=by
  unfold dP;rw[hv];show(if inB p n v.n=false then ([],(2:Int))else (inL v.l p n,0))=_;rw[Qe (by rw[(iK _ _ _).2 ⟨oM,oM,oM,oM⟩];decide)]
 unfold jP;rw[hr];show(if (0:Int)=0 then ((n:Int)-dS F.C (inL v.l p n),(0:Int))else _)=_;rw[Qf rfl,zH F.C v.l p n hk.valid oM];rfl
theorem Xz{F:Fam}(hF:F.ok){v:Vol}(hv:aN F.vs v.nm=some v)(k:Nat)(hb:(k:Int)<v.n):jP F v.nm k 1=(if exB F.C v.l k=true then 0 else 1,0):=by
 have h:=qM hF hv k 1 oM;rw[show((1:Nat):Int)=1 from rfl]at h;rw[h,show jN F.C v.l k 1=jN F.C v.l k (0+1) from rfl,nU];simp[jN,aK]
section
variable{F:Fam}{v:Vol}{k s:Nat}
theorem YF(hF:F.ok)(hv:aN F.vs v.nm=some v)(hk:(k:Int)<v.n)(he:exB F.C v.l k=false)(i:Nat)(hi:i<F.N)(h1:F.C.getD i 0=1):cnt (inL v.l k 1) i=0:=by
 have hok:=hF.vol v (aC hv).1;have h2:=hok.n2;have hx:=zH F.C v.l k 1 hok.valid oM;rw[show((1:Nat):Int)=1 from rfl]at hx;have ha:aK (λj=>exB F.C v.l ((k+j:Nat):Int)) 1=0:=by simp[aK,he]
 rw [ha,ME _ _ (by rw[F.aIz];exact Dw _ _ hok.perm),F.aIz]at hx;have key:∀(f:Nat->Int) (n:Nat),(∀j,0<=f j)->mH f n=0-> ∀j,j<n->f j=0:=by
  intro f n hf;have hnn:∀n,0<=mH f n:=λn=>by
   induction n with
   |zero=>simp[mH]
   |succ n ih=>have:=hf n;simp only[mH];omega
  induction n with
  |zero=>intro _ j hj;omega
  | succ n ih=>
   intro h j hj;simp only[mH]at h;have q1:=hnn n;have q2:=hf n;by_cases e:j=n
   ·subst e;omega
   ·exact ih oM j oM
 have:=key _ F.N (λj=>by unfold xY;have:=(bU (inL v.l k 1) j).1;split <;> omega) hx i hi;unfold xY at this;rw[Qf (by simpa [bN]using h1)]at this;exact this
theorem YE(hF:F.ok)(hv:aN F.vs v.nm=some v)(hk:(k:Int)<v.n)(i:Nat):cnt (inL v.l k 1) i<=1:=by
 have hok:=hF.vol v (aC hv).1;have h2:=hok.n2;have hvl:=xH v.l k 1 hok.valid;have hrng:∀x∈inL v.l k 1,(k:Int)<=x.a/\x.a+x.n<=(k:Int)+1:=λx hx=>by
  rw[Dx v.l k 1 hok.valid hok.norm]at hx;exact gZ _ _ _ x hx
 have h3:=yH (inL v.l k 1) (k+1) k oM (λx hx=>(hrng x hx).2) ((nD _ _).2 ⟨((bP _).1 hvl).1,((bP _).1 hvl).2,λx hx=>(hrng x hx).1⟩);have:=(bU (inL v.l k 1) i).2;omega
structure OneB(F:Fam)(v:Vol)(k s:Nat)(G:Fam):Prop where
 ok:G.ok
 is:G=F.with (v.set (bM v.l ⟨k,1,s⟩))
 asg:(aV F v.nm ⟨k,1,s⟩).1=G/\(aV F v.nm ⟨k,1,s⟩).2.2=0
 cnt:∀i,i<F.N->F.C.getD i 0=1->G.C.getD i 0=1
 zero:∀i,i<F.N->(bH G.C i=true↔bH F.C i=true/\i≠s)
 new:exB G.C (bM v.l ⟨k,1,s⟩) k=true
 old:∀b:Nat,exB F.C v.l b=true->exB G.C (bM v.l ⟨k,1,s⟩) b=true
theorem Uf(hF:F.ok)(hv:aN F.vs v.nm=some v)(hk:(k:Int)<v.n)(he:exB F.C v.l k=false)(hs:s<F.N)(hz:F.C.getD s 0=0):OneB F v k s (F.with (v.set (bM v.l ⟨k,1,s⟩))):=by
 have hok:=hF.vol v (aC hv).1;have hN:=hF.hN;have hx:(inB (k:Int) 1 v.n&&rA F.N ⟨k,1,s⟩)=true:=by
  rw[Qd];exact⟨(iK _ _ _).2 ⟨oM,oM,oM,oM⟩,Qo ⟨sM,sM,sO⟩⟩
 have hasg:aV F v.nm ⟨k,1,s⟩=(F.with (v.set (bM v.l ⟨k,1,s⟩)),eY F (F.with (v.set (bM v.l ⟨k,1,s⟩))),0):=by
  unfold aV;rw[hv];show(if (inB (k:Int) 1 v.n&&rA F.N ⟨k,1,s⟩)=false then _ else _)=_;rw[Qe (by rw[hx];decide)]
 have hG:(F.with (v.set (bM v.l ⟨k,1,s⟩))).ok:=by have:=mU hF v.nm ⟨k,1,s⟩;rwa [hasg]at this
 have hxo:okB ⟨k,1,s⟩=true:=(hok.put hN hx).1;have hget:∀i,i<F.N->(F.with (v.set (bM v.l ⟨k,1,s⟩))).C.getD i 0+cnt (inL v.l k 1) i=F.C.getD i 0+uU ⟨k,1,s⟩ i:=λi hi=>by
  have h1:=DT hF hv hG i hi;have h2:=DF v.l ⟨k,1,s⟩ i hxo hok.valid;have h3:cnt (inL v.l (⟨k,1,s⟩:E).a (⟨k,1,s⟩:E).n) i=cnt (inL v.l k 1) i:=rfl;omega
 have hX:∀i:Nat,uU ⟨k,1,s⟩ i=if i=s then 1 else 0:=λi=>Jt sO;have hcn:∀i,i<F.N->F.C.getD i 0=iI (bZ F.vs v.nm) i+cnt v.l i:=λi hi=>by rw[hF.get i hi,oL hF.sorted hv]
 have hin:∀i,i<F.N->cnt (inL v.l k 1) i<=F.C.getD i 0:=λi hi=>by
  have h1:=hcn i hi;have h2:=lL (bZ F.vs v.nm) i;have h3:=DF v.l ⟨k,1,s⟩ i hxo hok.valid;have h4:=Cf v.l k (k+1) i oM oM (by have:=hok.n2;omega) (aL hok.valid);have h5:=QI v.l k 1 i (aL hok.valid);have h6:=(bU (aI v.l 0 k) i).1;have h7:=(bU (aI v.l (k+1) 65536) i).1;omega
 obtain ⟨G,hGe⟩:∃G,F.with (v.set (bM v.l ⟨k,1,s⟩))=G:=⟨_,rfl⟩;rw[hGe]at hasg hG hget ⊢;have hcnt:∀i,i<F.N->F.C.getD i 0=1->G.C.getD i 0=1:=λi hi h1=>by
  have g1:=hget i hi;rw[YF hF hv hk he i hi h1,hX]at g1;rw[Qe (by rintro rfl;omega)]at g1;omega
 have hsone:G.C.getD s 0=1:=by
  have g1:=hget s hs;rw[hX,Qf rfl]at g1;have g2:=hin s hs;have g3:=(bU (inL v.l k 1) s).1;omega
 have hslot:∀b:Nat,aF (bM v.l ⟨k,1,s⟩) b=if b=k then some (s:Int)else aF v.l b:=λb=>by
  rw[tV v.l ⟨k,1,s⟩ b hxo hok.valid];by_cases hb:b=k
  ·subst hb;rw[Qf rfl,Qf ⟨sM,sO⟩];congr 1;simp
  ·rw[Qe hb,Qe sO]
 refine⟨hG,hGe.symm,by rw[hasg];exact⟨rfl,rfl⟩,hcnt,λi hi=> ?_,?_,λb hb=> ?_⟩
 ·have g1:=hget i hi;have g2:=hin i hi;have g3:=(bU (inL v.l k 1) i).1;have g4:=YE hF hv hk i;rw[hX]at g1;simp only[bH,Qc];by_cases hi2:i=s
  ·subst hi2;rw[Qf rfl]at g1;exact⟨λh=>by omega,λh=>absurd rfl h.2⟩
  ·rw[Qe hi2]at g1;refine⟨λh=>⟨?_,hi2⟩,λh=>by omega⟩;by_cases h1:F.C.getD i 0=1
   ·rw[YF hF hv hk he i hi h1]at g1;omega
   ·omega
 ·unfold exB;rw[hslot,Qf rfl]
  simpa [bN]using hsone
 ·have hbk:b≠k:=by rintro rfl;rw[he]at hb;cases hb
  unfold exB at hb ⊢;rw[hslot,Qe hbk]
  cases hsl:aF v.l b with
  |none=>rw[hsl]at hb;cases hb
  | some o=>
   rw[hsl]at hb;have hb:bN F.C o.toNat=true:=hb;obtain⟨q1,q2⟩:=Jh hb;rw[F.aIz]at q1;show bN G.C o.toNat=true
   simpa [bN]using hcnt _ q1 q2
theorem Xl{G:Fam}(hF:F.ok)(hv:aN F.vs v.nm=some v)(hk:(k:Int)<v.n)(he:exB F.C v.l k=false)(hs:s<F.N)(hz:F.C.getD s 0=0)(h:OneB F v k s G):
  dC F+aY F.C v-1<=dC G+aY G.C (v.set (bM v.l ⟨k,1,s⟩))/\aY G.C (v.set (bM v.l ⟨k,1,s⟩))<=max 0 (aY F.C v-1):=by
 have hok:=hF.vol v (aC hv).1;have hGN:G.N=F.N:=by rw[h.is];rfl
 have hGl:G.C.length=F.N:=by rw[G.aIz,hGN]
 have h1:=BB hF (nm:=v.nm) hGl λi hi h1 _=>h.cnt i hi h1;have h2:=mE hF hv;have h3:iC G=aY G.C (v.set (bM v.l ⟨k,1,s⟩))+((bZ F.vs v.nm).map (aY G.C)).sum:=by
  have:=uW F (v.set (bM v.l ⟨k,1,s⟩));rw[show(⟨F.N,fV F.vs (v.set (bM v.l ⟨k,1,s⟩))⟩:Fam)=G from h.is.symm]at this;exact this
 have h4:aK (bH F.C) F.N=aK (bH G.C) F.N+1:=by
  rw[<-Bi s F.N hs,<-pQ _ _ _ λi hi ha hb=>((h.zero i hi).1 ha).2 (Qt hb)];refine aM _ _ _ λi hi=> ?_;rw[Qw,Bool.or_eq_true,h.zero i hi,Qc];by_cases hi2:i=s
  ·subst hi2;exact⟨λ_=> .inr rfl,λ_=>Qo hz⟩
  ·exact⟨λq=> .inl ⟨q,hi2⟩,λq=>q.elim (λq=>q.1) λq=>absurd q hi2⟩
 have hm:v.set (bM v.l ⟨k,1,s⟩)∈G.vs:=by rw[h.is];exact dM.2 (.inl rfl)
 have h5:=nG h.ok hm;have h6:=nG hF (aC hv).1;have h7:aK (λj:Nat=>exB F.C v.l j) v.n.toNat+1<=aK (λj:Nat=>exB G.C (bM v.l ⟨k,1,s⟩) j) v.n.toNat:=by
  rw [<-Bi k v.n.toNat oM,<-pQ _ _ _ λi hi ha hb=>by
   have:i=k:=Qt hb;subst this;rw[he]at ha
   cases ha]
  refine qE _ _ _ λi hi hb=> ?_;simp only[Bool.or_eq_true,Qc]at hb;rcases hb with hb|rfl
  ·exact h.old i hb
  ·exact h.new
 have h8:bF G.C (v.set (bM v.l ⟨k,1,s⟩)).l=aK (λj:Nat=>exB G.C (bM v.l ⟨k,1,s⟩) j) v.n.toNat:=h5;have h9:aY G.C (v.set (bM v.l ⟨k,1,s⟩))<=max 0 (aY F.C v-1):=by
  unfold aY;rw[h8,h6];show max 0 (v.r-_)<=_;omega
 refine⟨?_,h9⟩;unfold dC jD;rw[h3,h2,hGN,h4];omega
end
structure Fam.sound(F:Fam):Prop where
 ok:F.ok
 small:∀v∈F.vs,v.n<=255
 room:0<=dC F
theorem Fam.sound.short{F:Fam}(h:F.sound):∀v∈F.vs,v.l.length<=9000:=λv hv=>by
 have h1:=(h.ok.vol v hv).short.2;have h2:=h.small v hv;omega
structure WrI(F:Fam)(v:Vol)(p n j:Nat)(G:Fam):Prop where
 ok:G.ok
 N:G.N=F.N
 get:∃l,aN G.vs v.nm=some (v.set l)/\(∀b:Nat,p<=b->b<p+j->exB G.C l b=true)/\jN G.C l (p+j) (n-j)<=aY G.C (v.set l)+dC G
 oth:∀nm,nm≠v.nm->aN G.vs nm=aN F.vs nm
 room:0<=dC G
theorem WrI.start{F:Fam}(hF:F.ok){v:Vol}(hv:aN F.vs v.nm=some v)(p n:Nat)(hr:0<=dC F)(hn:jN F.C v.l p n<=aY F.C v+dC F):WrI F v p n 0 F:=
 ⟨hF,rfl,⟨v.l,hv,λb h1 h2=>by omega,hn⟩,λ_ _=>rfl,hr⟩
theorem Iy{F:Fam}(hF:F.ok){v:Vol}(hv:aN F.vs v.nm=some v):aY F.C v<=iC F:=by
 have h1:=mE hF hv;have h2:=Gl F.C (bZ F.vs v.nm);omega
theorem WrI.skip{F G:Fam}{v:Vol}{p n j:Nat}(h:WrI F v p n j G)(hj:j<n){l:List E}(hl:aN G.vs v.nm=some (v.set l))(he:exB G.C l ((p+j:Nat):Int)=true):WrI F v p n (j+1) G:=by
 obtain ⟨l',h1,h2,h3⟩:=h.get;obtain rfl:l'=l:=by
  exact sh56
 refine⟨h.ok,h.N,⟨l',h1,λb q1 q2=> ?_,?_⟩,h.oth,h.room⟩
 ·by_cases e:b=p+j
  ·subst e;exact he
  ·exact h2 b q1 oM
 ·rw[show n-j=n-(j+1)+1 by omega,nU,Qf he]at h3;rw[show p+(j+1)=p+j+1 by omega];omega
theorem WrI.free{F G:Fam}{v:Vol}{p n j:Nat}(h:WrI F v p n j G)(hj:j<n){l:List E}(hl:aN G.vs v.nm=some (v.set l))(he:exB G.C l ((p+j:Nat):Int)=false):1<=jD G:=by
 obtain ⟨l',h1,h2,h3⟩:=h.get;obtain rfl:l'=l:=by
  exact sh56
 rw[show n-j=n-(j+1)+1 by omega,nU,Qe (by rw[he];decide)]at h3;have h4:=Ah G.C l' (p+j+1) (n-(j+1));have h5:=Iy h.ok (v:=v.set l') h1;have h6:dC G=jD G-iC G:=rfl;omega
theorem WrI.step{F G:Fam}{v:Vol}{p n j s:Nat}(h:WrI F v p n j G)(hj:j<n){l:List E}(hl:aN G.vs v.nm=some (v.set l))(he:exB G.C l ((p+j:Nat):Int)=false)(hb:((p+n:Nat):Int)<=v.n)(hs:s<G.N)(hz:G.C.getD s 0=0):
  ∃G',(aV G v.nm ⟨((p+j:Nat):Int),1,s⟩).1=G'/\(aV G v.nm ⟨((p+j:Nat):Int),1,s⟩).2.2=0/\WrI F v p n (j+1) G':=by
 obtain ⟨l',h1,h2,h3⟩:=h.get;obtain rfl:l'=l:=by
  exact sh56
 have hk:((p+j:Nat):Int)<(v.set l').n:=by show _<v.n;omega
 have hv':aN G.vs (v.set l').nm=some (v.set l'):=h1;have ho:=Uf h.ok hv' hk he hs hz;have hr:=Xl h.ok hv' hk he hs hz ho;refine⟨_,ho.asg.1,ho.asg.2,ho.ok,h.N,⟨bM l' ⟨((p+j:Nat):Int),1,s⟩,?_,λb q1 q2=> ?_,?_⟩,λnm hne=> ?_,?_⟩
 ·show aN (fV G.vs ((v.set l').set (bM l' ⟨((p+j:Nat):Int),1,s⟩))) v.nm=_;rw[sU h.ok.sorted,Qf (show v.nm=((v.set l').set (bM l' ⟨((p+j:Nat):Int),1,s⟩)).nm from rfl)];rfl
 ·by_cases e:b=p+j
  ·subst e;exact ho.new
  ·exact ho.old b (h2 b q1 oM)
 ·rw [show n-j=n-(j+1)+1 by omega,nU,Qe (by rw[he];decide)]at h3;have h4:=Ol (C:=G.C) (D:=(G.with ((v.set l').set (bM (v.set l').l ⟨((p+j:Nat):Int),1,s⟩))).C) (l:=l') (l':=bM l' ⟨((p+j:Nat):Int),1,s⟩) (p+j+1) (n-(j+1)) λb _ _ hb=>ho.old b hb;rw[show p+(j+1)=p+j+1 by omega];have h5:aY G.C (v.set l')=aY G.C (v.set l'):=rfl;have h6:=hr.1;exact Int.le_trans h4 (by
   show _<=aY _ ((v.set l').set (bM (v.set l').l ⟨((p+j:Nat):Int),1,s⟩))+_
   omega)
 ·show aN (fV G.vs ((v.set l').set (bM l' ⟨((p+j:Nat):Int),1,s⟩))) nm=_;rw[sU h.ok.sorted,Qe (show ¬nm=((v.set l').set (bM l' ⟨((p+j:Nat):Int),1,s⟩)).nm from hne)];exact h.oth nm hne
 ·rw[show n-j=n-(j+1)+1 by omega,nU,Qe (by rw[he];decide)]at h3;have h4:=Ah G.C l' (p+j+1) (n-(j+1));have h5:=hr.1;have h6:=hr.2;have h7:=h.room;have h8:=rV G.C (v.set l');omega
theorem WrI.sound{F G:Fam}{v:Vol}{p n j:Nat}(h:WrI F v p n j G)(hF:F.sound)(hv:aN F.vs v.nm=some v):G.sound:=by
 refine⟨h.ok,λw hw=> ?_,h.room⟩;have hg:=rH h.ok.sorted hw;by_cases e:w.nm=v.nm
 ·obtain⟨l,h1,_⟩:=h.get;rw[e,h1]at hg;rw[<-Qv hg];exact hF.small v (aC hv).1
 ·rw[h.oth _ e]at hg;exact hF.small w (aC hg).1
theorem JM{F:Fam}(hF:F.ok)(hs:∀v∈F.vs,v.l.length<=9000){nm:LU}{p n:Int}(h:fM F nm p n=0)(hr:0<=dC F):
  ∃(v:Vol) (p0 n0:Nat),aN F.vs nm=some v/\v.nm=nm/\p=p0/\n=n0/\((p0+n0:Nat):Int)<=v.n/\jN F.C v.l p0 n0<=aY F.C v+dC F/\jP F nm p n=(jN F.C v.l p0 n0,0):=by
 have he:(jP F nm p n).2=0:=by
  unfold fM at h
  split at h
  ·assumption
  ·exact absurd h ‹_›
 have hre:(dP F nm p n).2=0:=by
  unfold jP at he
  split at he
  ·assumption
  ·exact absurd he ‹_›
 cases hg:aN F.vs nm with
 |none=>unfold dP at hre;rw[hg]at hre;cases hre
 | some v=>
  have hm:=aC hg;have hin:inB p n v.n=true:=by
   unfold dP at hre;rw[hg]at hre;cases hi:inB p n v.n
   ·have hre:(if inB p n v.n=false then (([]:List E),(2:Int))else (inL v.l p n,0)).2=0:=hre;rw[Qf hi]at hre;cases hre
   ·rfl
  have h2:=(iK _ _ _).1 hin;obtain⟨p0,rfl⟩:=Qr h2.1;obtain⟨n0,rfl⟩:=Qr h2.2.1;obtain⟨_,rfl⟩:=hm;have hb:((p0+n0:Nat):Int)<=v.n:=oM
  have hneed:=qM hF hg p0 n0 hb;refine⟨v,p0,n0,rfl,rfl,rfl,rfl,hb,?_,hneed⟩;unfold fM at h;rw[hneed,Qf rfl]at h;have hc:(gQ F v.nm).1=aY F.C v:=by unfold gQ;rw[hg]
  unfold iL at h;rw[hc]at h
  split at h
  ·cases h
  ·omega
theorem Ba{F:Fam}(hF:F.sound){nm:LU}{n r:Int}(hn:n<=255)(hc:fG F n r=0)(he:(aW F nm n r).2=0):(aW F nm n r).1.sound:=by
 have hok:=Hd hF.ok nm n r;unfold aW at he hok ⊢
 split at he
 ·simp at he
 split at he
 ·simp at he
 split at he
 ·simp at he
 rename_i h1 h2 h3
 rw[Qe h1,Qe h2,Qe h3]at hok ⊢;have hu:aN F.vs nm=none:=by simpa using h2
 have hb:bC nm=true/\BF n r=true:=by simpa using h1
 have hnum:1<=n/\n<=65536/\0<=r/\r<=n:=Qt hb.2;refine⟨hok,λw hw=> ?_,?_⟩
 ·rcases dM.1 hw with rfl|hw
  ·exact hn
  ·exact hF.small w hw.1
 ·show 0<=dC ⟨F.N,fV F.vs ⟨nm,n,r,[]⟩⟩;rw[KO hF.ok (u:=⟨nm,n,r,[]⟩) hu rfl hnum.2.2.1];unfold fG iL at hc;rw[hb.2,Qe dE]at hc
  split at hc
  ·cases hc
  ·show 0<=dC F-r;omega
theorem MU{F:Fam}(hF:F.sound){nm ot:LU}(hc:eD F nm=0)(he:(bJ F nm ot).2=0):(bJ F nm ot).1.sound:=by
 have hok:=Lp hF.ok nm ot;unfold bJ at he hok ⊢;unfold eD at hc
 cases hg:aN F.vs nm with
 |none=>rw[hg]at he;cases he
 | some v=>
  rw[hg]at he hok hc;obtain⟨hm,rfl⟩:=aC hg;simp only at he hok hc ⊢
  split at he
  ·simp at he
  split at he
  ·simp at he
  split at he
  ·simp at he
  rename_i h1 h2 h3
  rw[Qe h1,Qe h2,Qe h3]at hok ⊢;have hu:aN F.vs ot=none:=by simpa using h2
  refine⟨hok,λw hw=> ?_,?_⟩
  ·exact sh60
  ·show 0<=dC ⟨F.N,fV F.vs ⟨ot,v.n,0,v.l⟩⟩;rw[Oi hF.ok (u:=⟨ot,v.n,0,v.l⟩) hg hu rfl rfl];unfold iL at hc
   split at hc
   ·cases hc
   ·omega
theorem JC{F:Fam}(hF:F.sound){nm:LU}(he:(aZ F nm).2.2=0):(aZ F nm).1.sound:=by
 have hok:=BC hF.ok nm;unfold aZ at he hok ⊢
 cases hg:aN F.vs nm with
 |none=>rw[hg]at he;cases he
 | some v=>
  rw[hg]at hok;simp only at hok ⊢;refine⟨hok,λw hw=>hF.small w (iB.1 hw).1,?_⟩;have:=KN hF.ok nm;have:=hF.room;omega
theorem Kh{F:Fam}(hF:F.sound){nm:LU}{p n:Int}(he:(bS F nm p n).2.2=0):(bS F nm p n).1.sound:=by
 have hok:=Ep hF.ok nm p n;unfold bS at he hok ⊢
 cases hg:aN F.vs nm with
 |none=>rw[hg]at he;cases he
 | some v=>
  rw[hg]at he hok;obtain⟨hm,rfl⟩:=aC hg;simp only at he hok ⊢
  split at he
  ·simp at he
  rename_i hi
  rw[Qe hi]at hok ⊢;have hi:inB p n v.n=true:=by simpa using hi
  have hv:=hF.ok.vol v hm;have hw:=(hv.cut hi).1;refine⟨hok,λw hw=> ?_,?_⟩
  ·exact sh60
  ·have h1:=Ww hF.ok hg hok λi _=>by
    have h2:=Sd v.l p n i hw hv.valid;have h3:=(bU (inL v.l p n) i).1;omega
   have:=hF.room;exact Int.le_trans this h1
theorem Hf(N:Nat)(hN:N<=65536):(⟨N,[]⟩:Fam).sound:=by
 refine⟨(YM N hN).1,λv hv=>by simp at hv,?_⟩;unfold dC iC jD;simp
def kU(f t:Int):E:=⟨0,t-f,f⟩
def beforeL(l:List E)(p:Int):List E:=(l.filter λx=>decide (x.s<p)).map λx=>kU x.s (min (x.s+x.n) p)
def dN(l:List E)(p:Int):List E:=(l.filter λx=>decide (p<x.s+x.n)).map λx=>kU (max x.s p) (x.s+x.n)
theorem JP(l:List E)(p:Int)(k:Nat)(h:k<l.length):beforeL (l.take (k+1)) p=if l[k].s<p then beforeL (l.take k) p++[kU l[k].s (min (l[k].s+l[k].n) p)]else beforeL (l.take k) p:=by
 rw[Qh h];simp only[beforeL,List.filter_append,Yz,List.filter_cons,List.filter_nil];by_cases hp:l[k].s<p
 ·simp[hp]
 ·simp[hp]
theorem PM(l:List E)(p:Int)(k:Nat)(h:k<l.length):dN (l.take (k+1)) p=if p<l[k].s+l[k].n then dN (l.take k) p++[kU (max l[k].s p) (l[k].s+l[k].n)]else dN (l.take k) p:=by
 rw[Qh h];simp only[dN,List.filter_append,Yz,List.filter_cons,List.filter_nil];by_cases hp:p<l[k].s+l[k].n
 ·simp[hp]
 ·simp[hp]
theorem wS(l:List E)(p:Int):(beforeL l p).length<=l.length:=by
 unfold beforeL;rw[Yy];exact List.length_filter_le _ _
theorem uO(l:List E)(p:Int):(dN l p).length<=l.length:=by
 unfold dN;rw[Yy];exact List.length_filter_le _ _
theorem Dv{f t:Int}(h0:0<=f)(h1:f<t)(h2:t<=65536):okB (kU f t)=true:=(aB _).2 ⟨by simp only[kU];omega,by simp[kU],by simp only[kU];omega,by simp only[kU];omega,by simp only[kU];omega⟩
theorem RV(f t:Int)(i:Nat):inX (kU f t) i=true↔f<=(i:Int)/\(i:Int)<t:=by
 rw[gB];simp only[kU];omega
theorem iP(A B:List E)(i:Nat):hasB (A++B) i=(hasB A i||hasB B i):=by simp[hasB]
theorem sS(x:E)(h:okB x=true)(i:Nat):hasB [x] i=inX x i:=by simp[hasB,h]
theorem BX(x:E)(l:List E)(h:okB x=true)(i:Nat):hasB (x::l) i=(inX x i||hasB l i):=by simp[hasB,h]
theorem Me(i:Nat):hasB [] i=false:=rfl
theorem uX{x:E}{r:List E}(h:Canon (x::r)):(x.a=0/\okB x=true)/\Canon r/\ ∀y∈r,x.s+x.n<y.s:=by
 obtain⟨h1,h2⟩:=h;rw[Yk]at h2;exact⟨h1 x sM,⟨λy hy=>h1 y (by simp[hy]),h2.2⟩,h2.1⟩
theorem Nb{x:E}{r:List E}(h1:x.a=0)(h2:okB x=true)(h3:Canon r)(h4:∀y∈r,x.s+x.n<y.s):Canon (x::r):=by
 refine⟨λy hy=> ?_,Yk.2 ⟨h4,h3.2⟩⟩;simp at hy;rcases hy with rfl|hy
 ·exact⟨h1,h2⟩
 ·exact h3.1 y hy
theorem Ci:Canon []:=⟨sM,sM⟩
theorem Bg(x:E)(l:List E)(p:Int):beforeL (x::l) p=(if x.s<p then [kU x.s (min (x.s+x.n) p)]else [])++beforeL l p:=by
 by_cases h:x.s<p <;> simp[beforeL,h]
theorem EN(x:E)(l:List E)(p:Int):dN (x::l) p=(if p<x.s+x.n then [kU (max x.s p) (x.s+x.n)]else [])++dN l p:=by
 by_cases h:p<x.s+x.n <;> simp[dN,h]
theorem Dc{l:List E}{p:Int}{y:E}(h:y∈beforeL l p):∃x∈l,x.s<p/\y=kU x.s (min (x.s+x.n) p):=by
 exact sh57
theorem Ik{l:List E}{p:Int}{y:E}(h:y∈dN l p):∃x∈l,p<x.s+x.n/\y=kU (max x.s p) (x.s+x.n):=by
 exact sh57
theorem kP(l:List E)(p:Int):Canon l->Canon (beforeL l p):=by
 induction l with
 |nil=>intro _;exact Ci
 | cons x r ih=>
  intro h;obtain⟨⟨_,h2⟩,h3,h4⟩:=uX h;obtain⟨e1,e2,e3,e4,e5⟩:=(aB x).1 h2;rw[Bg];by_cases hp:x.s<p
  ·rw[Qf hp];refine Nb rfl (Dv e3 oM oM) (ih h3) λy hy=> ?_;obtain⟨z,hz,_,rfl⟩:=Dc hy;have:=h4 z hz;simp only[kU];omega
  ·rw[Qe hp];exact ih h3
theorem iQ(l:List E)(p:Int):Canon l->Canon (dN l p):=by
 induction l with
 |nil=>intro _;exact Ci
 | cons x r ih=>
  intro h;obtain⟨⟨_,h2⟩,h3,h4⟩:=uX h;obtain⟨e1,e2,e3,e4,e5⟩:=(aB x).1 h2;rw[EN];by_cases hp:p<x.s+x.n
  ·rw[Qf hp];refine Nb rfl (Dv oM oM oM) (ih h3) λy hy=> ?_;obtain⟨z,hz,_,rfl⟩:=Ik hy;have:=h4 z hz;simp only[kU];omega
  ·rw[Qe hp];exact ih h3
theorem CY(l:List E)(p:Int)(i:Nat):Canon l->hasB (beforeL l p) i=(hasB l i&&decide ((i:Int)<p)):=by
 induction l with
 |nil=>intro _;simp[beforeL,hasB]
 | cons x r ih=>
  intro h;obtain⟨⟨_,h2⟩,h3,h4⟩:=uX h;obtain⟨e1,e2,e3,e4,e5⟩:=(aB x).1 h2;rw[Bg,iP,ih h3,BX x r h2,Bool.and_or_distrib_right];congr 1;by_cases hp:x.s<p
  ·rw[Qf hp,sS _ (Dv e3 oM oM),Qw,RV];simp only[Qd,gB,Qc];omega
  ·rw[Qe hp,Me]
   symm
   exact sh59
theorem BU(l:List E)(p:Int)(i:Nat):Canon l->hasB (dN l p) i=(hasB l i&&decide (p<=(i:Int))):=by
 induction l with
 |nil=>intro _;simp[dN,hasB]
 | cons x r ih=>
  intro h;obtain⟨⟨_,h2⟩,h3,h4⟩:=uX h;obtain⟨e1,e2,e3,e4,e5⟩:=(aB x).1 h2;rw[EN,iP,ih h3,BX x r h2,Bool.and_or_distrib_right];congr 1;by_cases hp:p<x.s+x.n
  ·rw[Qf hp,sS _ (Dv oM oM oM),Qw,RV];simp only[Qd,gB,Qc];omega
  ·rw[Qe hp,Me]
   symm
   exact sh59
def AA(l:List E)(x:E):List E:=beforeL l x.s++dN (dN l x.s) (x.s+x.n)
def dI(l less:List E):List E:=less.foldl AA l
theorem FV(l less:List E)(k:Nat)(h:k<less.length):dI l (less.take (k+1))=AA (dI l (less.take k)) less[k]:=by
 rw[Qh h];simp only[dI,List.foldl_append,List.foldl_cons,List.foldl_nil]
theorem Bf{A B:List E}(hA:Canon A)(hB:Canon B)(h:∀x∈A,∀y∈B,x.s+x.n<y.s):Canon (A++B):=by
 refine⟨λx hx=> ?_,Yb.2 ⟨hA.2,hB.2,h⟩⟩;rcases Qn.1 hx with h1|h1
 ·exact hA.1 x h1
 ·exact hB.1 x h1
theorem LQ(l:List E)(x:E)(hl:Canon l)(hx:1<=x.n):Canon (AA l x):=by
 refine Bf (kP _ _ hl) (iQ _ _ (iQ _ _ hl)) λy hy z hz=> ?_;obtain⟨u,_,_,rfl⟩:=Dc hy;obtain⟨v,_,_,rfl⟩:=Ik hz;simp only[kU];omega
theorem Uy(l:List E)(x:E)(hl:Canon l)(i:Nat)(hx:1<=x.n):hasB (AA l x) i=(hasB l i&& !inX x i):=by
 unfold AA;rw[iP,CY _ _ _ hl,BU _ _ _ (iQ _ _ hl),BU _ _ _ hl];cases hasB l i
 ·rfl
 ·rw[Qw];simp only[Bool.true_and,Bool.or_eq_true,Qd,Qc,Bool.not_eq_true',Bool.eq_false_iff,ne_eq,gB];omega
theorem rQ(less:List E)(h:∀x∈less,okB x=true):∀l,Canon l->Canon (dI l less)/\ ∀i,hasB (dI l less) i=(hasB l i&& !hasB less i):=by
 induction less with
 |nil=>intro l hl;exact⟨hl,λi=>by simp[dI,hasB]⟩
 | cons x r ih=>
  intro l hl;have hx:=h x sM;have hn:=((aB x).1 hx).1;obtain⟨h1,h2⟩:=ih (λy hy=>h y (by simp[hy])) (AA l x) (LQ l x hl hn);refine⟨h1,λi=> ?_⟩;have:dI l (x::r)=dI (AA l x) r:=rfl;rw[this,h2,Uy l x hl i hn,BX x r hx];cases hasB l i <;> cases inX x i <;> cases hasB r i <;> rfl
def nY(n:Int)(y:E):Bool:=decide (n<=y.n)
def oK(l:List E)(n:Int):Option Int:=(l.find? (nY n)).map E.s
theorem Sb(l:List E)(f:E->Bool)(x:E)(h:l.find? f=some x):∃(k:Nat) (hk:k<l.length),l[k]=x/\(∀y∈l.take k,f y=false)/\f x=true:=by
 induction l with
 |nil=>simp at h
 | cons z r ih=>
  by_cases hz:f z=true
  ·rw[List.find?_cons_of_pos hz]at h;injection h with h;subst h;exact⟨0,sM,rfl,sM,hz⟩
  ·rw[List.find?_cons_of_neg hz]at h;obtain⟨k,hk,h1,h2,h3⟩:=ih h;refine⟨k+1,by simpa using hk,by simpa using h1,λy hy=> ?_,h3⟩;rw[List.take_succ_cons,Yl]at hy;rcases hy with rfl|hy
   ·simpa using hz
   ·exact h2 y hy
def xE(st:List E × Int)(x:E):List E × Int:=(if 0<min st.2 x.n then st.1++[⟨0,min st.2 x.n,x.s⟩]else st.1,st.2-min st.2 x.n)
def cO(l:List E)(n:Int):List E × Int:=l.foldl xE ([],n)
theorem CR(l:List E)(n:Int)(k:Nat)(h:k<l.length):cO (l.take (k+1)) n=xE (cO (l.take k) n) l[k]:=by
 rw[Qh h];simp only[cO,List.foldl_append,List.foldl_cons,List.foldl_nil]
theorem Hy(l:List E)(n:Int)(hn:0<=n)(h:∀x∈l,1<=x.n)(k:Nat):k<=l.length->(0<=(cO (l.take k) n).2/\(cO (l.take k) n).2<=n)/\(cO (l.take k) n).1.length<=k:=by
 induction k with
 |zero=>intro _;simp[cO,hn]
 | succ k ih=>
  intro hk;have hlt:k<l.length:=oM
  obtain⟨⟨h1,h2⟩,h3⟩:=ih oM;have h4:=h _ (Qm hlt);rw[CR l n k hlt];simp only[xE];refine⟨oM,?_⟩
  split
  ·simp;omega
  ·omega
def E.flat(x:E):E:=⟨0,x.n,x.s⟩
def eB(l:List E):List E:=l.map E.flat
theorem aBo{N:Nat}{l:List E}(hN:N<=65536)(h:aQ N l=true):wfL (eB l):=by
 intro x hx;obtain⟨y,hy,rfl⟩:=Yd.1 hx;have:=(aP _ _).1 h y hy;exact⟨by simp[E.flat],by simp only[E.flat];omega,by simp only[E.flat];omega⟩
def vZ(l:List E):Bool:=(aR (bW (eB l))==aR l)
def dZ(l:List E)(i:Nat):Bool:=l.any λx=>inX x i
theorem Az(A B:List E)(i:Nat):dZ (A++B) i=(dZ A i||dZ B i):=by simp[dZ]
theorem Ia(x:E)(i:Nat):dZ [x] i=inX x i:=by simp[dZ]
theorem sK(l:List E)(i:Nat):dZ l i=true↔ ∃x∈l,x.s<=(i:Int)/\(i:Int)<x.s+x.n:=by
 simp only[dZ,List.any_eq_true,gB]
theorem BO{N:Nat}{l:List E}(h:aQ N l=true)(i:Nat)(hi:N<=i):dZ l i=false:=by
 rw[Bool.eq_false_iff];intro hc;obtain⟨x,hx,h1,h2⟩:=(sK _ _).1 hc;have:=(aP _ _).1 h x hx;omega
theorem aBp{N:Nat}{l:List E}(hN:N<=65536)(h:aQ N l=true):∀x∈eB l,okB x=true:=by
 intro x hx;obtain⟨y,hy,rfl⟩:=Yd.1 hx;have:=(aP _ _).1 h y hy;exact(aB _).2 ⟨by simp only[E.flat];omega,by simp[E.flat],by simp only[E.flat];omega,by simp only[E.flat];omega,by simp only[E.flat];omega⟩
theorem BV{N:Nat}{l:List E}(hN:N<=65536)(h:aQ N l=true)(i:Nat):hasB (eB l) i=dZ l i:=by
 rw[Qw,sK];have hok:=aBp hN h;simp only[hasB,List.any_eq_true,Qd,gB]
 constructor
 ·rintro⟨x,hx,_,h1,h2⟩;obtain⟨y,hy,rfl⟩:=Yd.1 hx;exact⟨y,hy,h1,h2⟩
 ·rintro⟨y,hy,h1,h2⟩;have hm:y.flat∈eB l:=Yd.2 ⟨y,hy,rfl⟩;exact⟨y.flat,hm,hok _ hm,h1,h2⟩
theorem zK{N:Nat}{l:List E}(hN:N<=65536)(h:aQ N l=true):aR (bW (eB l))=aK (dZ l) N:=by
 rw[fD _ (dX _).1,aM _ (dZ l) _ λi _=>by rw[pY,BV hN h],jT _ N 65536 hN λi hi _=>BO h i hi]
def QK(N:Nat)(l:List E)(x:E):Nat:=aK (λi=>dZ l i&&inX x i) N
def BZ(N:Nat)(l:List E):Int:=aR l-aK (dZ l) N
theorem rF(A B:List E):aR (A++B)=aR A+aR B:=by simp[aR]
theorem LV(x:E):aR [x]=x.n:=by simp[aR]
theorem RY(N:Nat):BZ N []=0:=by
 unfold BZ;rw[dK (dZ []) _ λi _=>rfl];rfl
theorem YP(N:Nat)(l:List E)(x:E)(h:1<=x.n/\0<=x.s/\x.s+x.n<=N):BZ N (l++[x])=BZ N l+QK N l x:=by
 unfold BZ QK;have h1:=wT (dZ l) (inX x) N;have h2:=Nn x N h.2.1 oM h.2.2;rw[rF,LV,aM (dZ (l++[x])) (λi=>dZ l i||inX x i) N λi _=>by rw[Az,Ia]];omega
theorem Lm{N:Nat}{l:List E}(hN:N<=65536)(h:aQ N l=true):vZ l=true↔BZ N l=0:=by
 unfold vZ BZ;rw[zK hN h,beq_iff_eq];omega
def mQ(N:Nat)(l:List E):Bool:=aQ N l&&vZ l
theorem xB{N:Nat}{l:List E}(hN:N<=65536)(hp:aQ N l=true)(hg:BZ N l=0):mQ N l=true:=by
 unfold mQ;rw[hp,(Lm hN hp).2 hg];rfl
theorem vU{N:Nat}{l:List E}(hN:N<=65536)(h:mQ N l=true):aQ N l=true/\vZ l=true/\BZ N l=0:=by
 unfold mQ at h;rw[Qd]at h;exact⟨h.1,h.2,(Lm hN h.1).1 h.2⟩
def dA(M:List Bool)(i:Nat):Bool:= !M.getD i true
def aT(M:List Bool):List E:=bW (picks (dA M) M.length)
theorem cZ(M:List Bool):Canon (aT M):=(dX _).1
theorem kD(M:List Bool)(i:Nat)(h:M.length<=i):dA M i=false:=by
 unfold dA;rw[Ql,List.getElem?_eq_none h];rfl
theorem oI(M:List Bool)(i:Nat)(h:i<M.length):dA M i= !M.getD i false:=by
 unfold dA;rw[Ql,Ql,Qa h];rfl
theorem wJ{M:List Bool}{i:Nat}(h:dA M i=true):i<M.length:=by
 rcases Nat.lt_or_ge i M.length with h1|h1
 ·exact h1
 ·rw[kD M i h1]at h;cases h
theorem jI(M:List Bool)(hN:M.length<=65536)(i:Nat):hasB (aT M) i=dA M i:=by
 unfold aT;rw[pY,EK _ _ hN];by_cases h:i<M.length
 ·simp[h]
 ·rw[kD M i oM];simp
theorem BR(M:List Bool)(hN:M.length<=65536):aR (aT M)=aK (dA M) M.length:=Ez _ _ hN
def yA(M:List Bool)(l:List E)(u:Bool):List Bool:=mk (λi=>if dZ l i then u else M.getD i false) M.length
theorem wP(M:List Bool)(l:List E)(u:Bool):(yA M l u).length=M.length:=BJ _ _
def stN(M:List Bool)(l:List E)(u:Bool):Nat:=aK (λi=>dZ l i&&(M.getD i false==u)) M.length
theorem YU(M:List Bool)(l:List E)(u:Bool)(i:Nat)(hi:i<M.length):dA (yA M l u) i=if dZ l i then !u else dA M i:=by
 rw[oI _ _ (by rw[wP];exact hi),oI _ _ hi];unfold yA;rw[Pd _ _ _ hi]
 split <;> rfl
theorem Mg(M:List Bool)(l:List E)(u:Bool)(hN:M.length<=65536)(i:Nat):hasB (aT (yA M l u)) i=(decide (i<M.length)&&if dZ l i then !u else dA M i):=by
 rw[jI _ (by rw[wP];exact hN)];by_cases hi:i<M.length
 ·rw[YU _ _ _ _ hi];simp[hi]
 ·rw[kD _ _ (by rw[wP];omega)];simp[hi]
section
variable{M:List Bool}{l:List E}(hN:M.length<=65536)(hp:aQ M.length l=true)
include hN hp
theorem zP:Canon (dI (aT M) (bW (eB l)))/\ ∀i,hasB (dI (aT M) (bW (eB l))) i=(dA M i&& !dZ l i):=by
 obtain⟨h1,h2⟩:=rQ (bW (eB l)) (λx hx=>((dX (eB l)).1.1 x hx).2) (aT M) (cZ M);exact⟨h1,λi=>by rw[h2,jI M hN,pY,BV hN hp]⟩
theorem aBc:dI (aT M) (bW (eB l))=aT (yA M l true):=by
 obtain⟨h1,h2⟩:=zP hN hp;refine KI h1 (cZ _) λi _=> ?_;rw[h2,Mg _ _ _ hN];by_cases hi:i<M.length
 ·cases dZ l i <;> simp[hi]
 ·rw[kD M i oM];simp[hi]
theorem Ht:aR (dI (aT M) (bW (eB l)))+aR (bW (eB l))=aR (aT M)↔stN M l true=0:=by
 obtain ⟨h1,h2⟩:=zP hN hp;have e1:aR (dI (aT M) (bW (eB l)))=aK (λi=>dA M i&& !dZ l i) M.length:=by
  rw[fD _ h1,aM _ _ _ λi _=>h2 i,jT _ _ _ hN λi hi _=>by rw[kD M i hi];rfl]
 have e2:=zK hN hp;have e3:=BR M hN;have e4:=vB (dA M) (dZ l) M.length;have e5:=vB (dZ l) (dA M) M.length;have e6:aK (λi=>dA M i&&dZ l i) M.length=aK (λi=>dZ l i&&dA M i) M.length:=aM _ _ _ λi _=>Bool.and_comm _ _;have e7:aK (λi=>dZ l i&& !dA M i) M.length=stN M l true:=aM _ _ _ λi hi=>by
  rw[oI M i hi];cases dZ l i <;> cases M.getD i false <;> rfl
 rw[e1,e2,e3];omega
theorem Ii:Canon (bW (aT M++bW (eB l)))/\ ∀i,hasB (bW (aT M++bW (eB l))) i=(dA M i||dZ l i):=by
 refine⟨(dX _).1,λi=> ?_⟩;rw[pY,iP,jI M hN,pY,BV hN hp]
theorem aBm:bW (aT M++bW (eB l))=aT (yA M l false):=by
 obtain⟨h1,h2⟩:=Ii hN hp;refine KI h1 (cZ _) λi _=> ?_;rw[h2,Mg _ _ _ hN];by_cases hi:i<M.length
 ·cases dZ l i <;> simp[hi]
 ·rw[kD M i oM,BO hp i oM];simp[hi]
theorem Ij:aR (bW (aT M++bW (eB l)))=aR (aT M)+aR (bW (eB l))↔stN M l false=0:=by
 obtain ⟨h1,h2⟩:=Ii hN hp;have e1:aR (bW (aT M++bW (eB l)))=aK (λi=>dA M i||dZ l i) M.length:=by
  rw[fD _ h1,aM _ _ _ λi _=>h2 i,jT _ _ _ hN λi hi _=>by rw[kD M i hi,BO hp i hi];rfl]
 have e2:=zK hN hp;have e3:=BR M hN;have e4:=wT (dA M) (dZ l) M.length;have e7:aK (λi=>dA M i&&dZ l i) M.length=stN M l false:=aM _ _ _ λi hi=>by
  rw[oI M i hi];cases dZ l i <;> cases M.getD i false <;> rfl
 rw[e1,e2,e3];omega
end
theorem Vh{R:List E}(h:Canon R){x y:E}(hx:x∈R)(hy:y∈R):x=y∨x.s+x.n<y.s∨y.s+y.n<x.s:=by
 obtain⟨i,hi,rfl⟩:=List.getElem_of_mem hx;obtain⟨j,hj,rfl⟩:=List.getElem_of_mem hy;have hp:=List.pairwise_iff_getElem.1 h.2;rcases Nat.lt_trichotomy i j with h1|h1|h1
 ·exact .inr (.inl (hp i j hi hj h1))
 ·subst h1;exact .inl rfl
 ·exact .inr (.inr (hp j i hj hi h1))
theorem QU{R:List E}(h:Canon R)(t:Nat)(n:Nat):(∀j,j<n+1->hasB R (t+j)=true)-> ∃x∈R,x.s<=(t:Int)/\(t:Int)+(n+1:Nat)<=x.s+x.n:=by
 induction n with
 | zero=>
  intro hj;obtain⟨x,hx,_,h1,h2⟩:=(jC _ _).1 (hj 0 oM);exact⟨x,hx,oM,oM⟩
 | succ n ih=>
  intro hj;obtain⟨x,hx,h1,h2⟩:=ih λj hjn=>hj j oM;obtain⟨y,hy,_,h3,h4⟩:=(jC _ _).1 (hj (n+1) oM);rcases Vh h hx hy with rfl|h5|h5
  ·exact⟨x,hx,h1,oM⟩
  ·omega
  ·omega
def Cx(M:List Bool)(s n:Nat):Bool:=(List.range n).all λj=>dA M (s+j)
theorem wZ(M:List Bool)(s n:Nat):Cx M s n=true↔ ∀j,j<n->dA M (s+j)=true:=by
 simp[Cx]
theorem Mf{R:List E}{x:E}(h:Canon R)(hx:x∈R)(i:Nat)(h1:x.s<=(i:Int))(h2:(i:Int)<x.s+x.n):hasB R i=true:=
 (jC _ _).2 ⟨x,hx,(h.1 x hx).2,h1,h2⟩
theorem Sa{R:List E}(h:Canon R)(n:Nat)(hn:1<=n):
  (oK R n=none-> ∀t:Nat,∃j,j<n/\hasB R (t+j)=false)/\
  (∀s,oK R n=some s-> ∃s':Nat,s=s'/\(∀j,j<n->hasB R (s'+j)=true)/\ ∀t:Nat,t<s'-> ∃j,j<n/\hasB R (t+j)=false):=by
 have key:∀t:Nat,(∀j,j<n->hasB R (t+j)=true)-> ∃x∈R,x.s<=(t:Int)/\(t:Int)+n<=x.s+x.n:=λt ht=>by
  obtain⟨m,rfl⟩:∃m,n=m+1:=⟨n-1,oM⟩;exact QU h t m ht
 have neg:∀t:Nat,¬(∀j,j<n->hasB R (t+j)=true)-> ∃j,j<n/\hasB R (t+j)=false:=λt ht=>by
  refine Classical.byContradiction λhc=>ht λj hj=> ?_;rw[<-Bool.not_eq_false];exactλhf=>hc ⟨j,hj,hf⟩
 constructor
 ·intro hf t;refine neg t λht=> ?_;obtain⟨x,hx,h1,h2⟩:=key t ht;unfold oK at hf;rw[Option.map_eq_none_iff,List.find?_eq_none]at hf;exact hf x hx (by simp[nY];omega)
 ·intro s hs;obtain⟨x,hx,rfl⟩:=Option.map_eq_some_iff.1 hs;obtain⟨k,hk,hlk,hkf,hfx⟩:=Sb R (nY n) x hx;have hxm:x∈R:=by rw[<-hlk];exact Qm hk
  obtain⟨c1,c2,c3,c4,c5⟩:=(aB _).1 (h.1 x hxm).2;have hnx:(n:Int)<=x.n:=Qt hfx;refine⟨x.s.toNat,oM,λj hj=>Mf h hxm _ oM oM,λt ht=>neg t λhc=> ?_⟩;obtain⟨y,hy,h1,h2⟩:=key t hc;obtain⟨j,hj,rfl⟩:=List.getElem_of_mem hy;have hp:=List.pairwise_iff_getElem.1 h.2;rcases Nat.lt_trichotomy j k with hjk|hjk|hjk
  ·have:=hkf R[j] (List.mem_take_iff_getElem.2 ⟨j,oM,rfl⟩);simp[nY]at this;omega
  ·subst hjk;rw[hlk]at h1;omega
  ·have:=hp k j hk hj hjk;rw[hlk]at this;omega
theorem xK(M:List Bool)(hN:M.length<=65536)(h:Nat):Canon (dN (aT M) h)/\ ∀i,hasB (dN (aT M) h) i=(dA M i&&decide (h<=i)):=by
 refine⟨iQ _ _ (cZ M),λi=> ?_⟩;rw[BU _ _ _ (cZ M),jI M hN];congr 1;rw[Qw];simp
theorem wR(M:List Bool)(hN:M.length<=65536)(h:Nat):Canon (beforeL (aT M) h)/\ ∀i,hasB (beforeL (aT M) h) i=(dA M i&&decide (i<h)):=by
 refine⟨kP _ _ (cZ M),λi=> ?_⟩;rw[CY _ _ _ (cZ M),jI M hN];congr 1;rw[Qw];simp
theorem KM{M:List Bool}{t n j:Nat}(hj:j<n)(h:dA M (t+j)=false):Cx M t n=false:=by
 rw[Bool.eq_false_iff];intro hc;rw[(wZ _ _ _).1 hc j hj]at h;cases h
theorem Gi{M:List Bool}(hN:M.length<=65536){h n:Nat}(hn:1<=n){s:Int}(hf:oK (dN (aT M) h) n=some s):
  ∃s':Nat,s=s'/\h<=s'/\Cx M s' n=true/\ ∀t,h<=t->t<s'->Cx M t n=false:=by
 obtain⟨h1,h2⟩:=xK M hN h;obtain⟨s',e,hall,hno⟩:=(Sa h1 n hn).2 s hf;have h0:=hall 0 oM;rw[h2,Qd]at h0;have h0':=Qt h0.2;refine⟨s',e,oM,(wZ _ _ _).2 λj hj=> ?_,λt ht hts=> ?_⟩
 ·have:=hall j hj;rw[h2,Qd]at this;exact this.1
 ·obtain⟨j,hj,hb⟩:=hno t hts;refine KM hj ?_;rw[h2]at hb
  simpa [show h<=t+j by omega]using hb
theorem UJ{M:List Bool}(hN:M.length<=65536){n:Nat}(hn:1<=n){s:Int}(hf:oK (aT M) n=some s):
  ∃s':Nat,s=s'/\Cx M s' n=true/\ ∀t,t<s'->Cx M t n=false:=by
 obtain⟨s',e,hall,hno⟩:=(Sa (cZ M) n hn).2 s hf;refine⟨s',e,(wZ _ _ _).2 λj hj=> ?_,λt hts=> ?_⟩
 ·have:=hall j hj
  rwa [jI M hN]at this
 ·obtain⟨j,hj,hb⟩:=hno t hts;rw[jI M hN]at hb;exact KM hj hb
def rU(f:Nat->Bool)(n:Nat)(i:Nat):Bool:=f i&&decide (aK f i<n)
theorem Rc(f:Nat->Bool)(n k:Nat):aK (rU f n) k=min n (aK f k):=by
 induction k with
 |zero=>simp[aK]
 | succ k ih=>
  simp only[aK,ih];unfold rU;cases hf:f k
  ·simp
  ·by_cases h:aK f k<n
   ·simp[h];omega
   ·simp[h];omega
theorem LJ(l:List E)(x:E)(n:Int):cO (l++[x]) n=xE (cO l n) x:=by
 simp only[cO,List.foldl_append,List.foldl_cons,List.foldl_nil]
theorem Fs{l:List E}{x:E}(h:Canon (l++[x])):Canon l/\(x.a=0/\okB x=true)/\ ∀y∈l,y.s+y.n<x.s:=by
 obtain⟨h1,h2⟩:=h;rw[Yb]at h2;exact⟨⟨λy hy=>h1 y (by simp[hy]),h2.1⟩,h1 x sM,λy hy=>h2.2.2 y hy x sM⟩
theorem QV{l:List E}{x:E}(h:Canon l)(h1:x.a=0)(h2:okB x=true)(h3:∀y∈l,y.s+y.n<x.s):Canon (l++[x]):=
 Bf h ⟨by intro y hy;simp at hy;subst hy;exact⟨h1,h2⟩,sM⟩ λy hy z hz=>by simp at hz;subst hz;exact h3 y hy
theorem wD{l:List E}(h:Canon l):0<=aR l:=by rw[fD l h];omega
theorem Ex(l:List E)(n:Nat):Canon l->Canon (cO l n).1/\(∀y∈(cO l n).1,∃z∈l,y.s+y.n<=z.s+z.n)/\(∀i,hasB (cO l n).1 i=rU (hasB l) n i)/\(cO l n).2=n-min (n:Int) (aR l):=by
 refine gG (P:=λl=>Canon l->Canon (cO l n).1/\(∀y∈(cO l n).1,∃z∈l,y.s+y.n<=z.s+z.n)/\(∀i,hasB (cO l n).1 i=rU (hasB l) n i)/\(cO l n).2=n-min (n:Int) (aR l)) (λ_=> ?_) (λl x ih h=> ?_) l
 ·refine⟨Ci,by simp[cO],λi=>by simp[cO,hasB,rU],?_⟩;simp[cO,aR];omega
 ·obtain ⟨hl,⟨hx0,hx⟩,hbe⟩:=Fs h;obtain⟨c1,c2,c3,c4,c5⟩:=(aB _).1 hx;obtain⟨i1,i2,i3,i4⟩:=ih hl;have hl0:=wD hl;rw[LJ];generalize cO l n=st at *;obtain⟨A,m⟩:=st;simp only at i1 i2 i3 i4;have hlen:aR (l++[x])=aR l+x.n:=by rw[rF,LV]
  have hAe:∀y∈A,y.s+y.n<x.s:=λy hy=>by
   obtain⟨z,hz,hz2⟩:=i2 y hy;have:=hbe z hz;omega
  have hfar:∀i:Nat,x.s<=(i:Int)->hasB l i=false:=λi hi=>by
   rw[Bool.eq_false_iff];intro hc;obtain⟨y,hy,_,h1,h2⟩:=(jC _ _).1 hc;have:=hbe y hy;omega
  have hal:∀i:Nat,x.s<=(i:Int)->(aK (hasB l) i:Int)=aR l:=λi hi=>by
   rw[fD l hl];rcases Nat.le_total i 65536 with h1|h1
   ·rw[jT _ i 65536 h1 λj hj _=>hfar j oM]
   ·rw[jT _ 65536 i h1 λj hj _=>hfar j oM]
  have hax:∀i:Nat,(i:Int)<=x.s->aK (hasB (l++[x])) i=aK (hasB l) i:=λi hi=>aM _ _ _ λj hj=>by
   rw [iP,sS x hx];have:inX x j=false:=by
    rw[Bool.eq_false_iff];intro hc;have:=(gB _ _).1 hc;omega
   rw[this,Bool.or_false]
  have hain:∀i:Nat,x.s<=(i:Int)->(i:Int)<x.s+x.n->(aK (hasB (l++[x])) i:Int)=aR l+(i-x.s):=λi h1 h2=>by
   have e1:aK (hasB (l++[x])) i=aK (λj=>hasB l j||inX x j) i:=aM _ _ _ λj _=>by rw[iP,sS x hx]
   have e2:=pQ (hasB l) (inX x) i λj _ ha hb=>by
    have:=(gB _ _).1 hb;rw[hfar j this.1]at ha;cases ha
   have e3:aK (inX x) i=min (x.s+x.n).toNat i-min x.s.toNat i:=by
    rw [<-xU _ _ _ oM];exact aM _ _ _ λj _=>by
     rw[Qw,gB];simp only[Qd,Qc];omega
   have e4:=hal i h1;rw[e1,e2,e3];omega
  have hmain:∀i,rU (hasB (l++[x])) n i=(rU (hasB l) n i||(inX x i&&decide ((i:Int)<x.s+m))):=λi=>by
   unfold rU;rw[iP,sS x hx];by_cases h1:(i:Int)<x.s
   ·have e:inX x i=false:=by rw[Bool.eq_false_iff];intro hc;have:=(gB _ _).1 hc;omega
    rw[e,hax i oM];simp
   ·rw [hfar i oM];by_cases h2:(i:Int)<x.s+x.n
    ·have e:=hain i oM h2;have e1:inX x i=true:=(gB _ _).2 ⟨oM,h2⟩;rw[e1];simp only[Bool.false_or,Bool.true_and,Bool.false_and];rw[Qw];simp only[Qc];omega
    ·have e1:inX x i=false:=by rw[Bool.eq_false_iff];intro hc;have:=(gB _ _).1 hc;omega
     rw[e1];simp
  simp only[xE];by_cases hk:0<min m x.n
  ·rw [Qf hk];have hok:okB (⟨0,min m x.n,x.s⟩:E)=true:=(aB _).2 ⟨sO,sM,sO,sO,sO⟩;refine⟨QV i1 rfl hok λy hy=>hAe y hy,λy hy=> ?_,λi=> ?_,by rw[hlen];omega⟩
   ·rcases Qn.1 hy with h1|h1
    ·obtain⟨z,hz,hz2⟩:=i2 y h1;exact⟨z,by simp[hz],hz2⟩
    ·simp at h1;subst h1;exact⟨x,sM,sO⟩
   ·rw[iP,sS _ hok,i3,hmain];congr 1;rw[Qw];simp only[Qd,Qc,gB];omega
  ·rw [Qe hk];refine⟨i1,λy hy=> ?_,λi=> ?_,by rw[hlen];omega⟩
   ·obtain⟨z,hz,hz2⟩:=i2 y hy;exact⟨z,by simp[hz],hz2⟩
   ·rw [i3,hmain];have:(inX x i&&decide ((i:Int)<x.s+m))=false:=by
     rw[Bool.eq_false_iff];simp only[ne_eq,Qd,Qc,gB];omega
    rw[this,Bool.or_false]
theorem LW(l:List E)(n:Nat)(h:Canon l):aR (cO l n).1=min (n:Int) (aR l):=by
 obtain⟨h1,_,h3,_⟩:=Ex l n h;rw[fD _ h1,fD _ h,aM _ _ _ λi _=>h3 i,Rc];omega
def Il(M:List Bool)(h:Nat)(i:Nat):Bool:=dA M i&&decide (h<=i)
def xC(M:List Bool)(n h:Nat):List E:=(cO (dN (aT M) h) n).1++(cO (beforeL (aT M) h) (n-min (n:Int) (aR (dN (aT M) h)))).1
def iH(M:List Bool)(n h:Nat):List E:=
 if n=0 then []else
 match oK (dN (aT M) h) n with
 |some s=>[⟨0,n,s⟩]
 | none=>match oK (aT M) n with
  |some s=>[⟨0,n,s⟩]
  |none=>xC M n h
theorem zV(M:List Bool)(n h:Nat)(s:Int)(hn:1<=n)(hf:oK (dN (aT M) h) n=some s):iH M n h=[⟨0,n,s⟩]:=by
 unfold iH;rw[Qe oM,hf]
theorem Gw(M:List Bool)(n h:Nat)(s:Int)(hn:1<=n)(hf:oK (dN (aT M) h) n=none)(hg:oK (aT M) n=some s):iH M n h=[⟨0,n,s⟩]:=by
 unfold iH;rw[Qe oM,hf];simp only[hg]
theorem zU(M:List Bool)(n h:Nat)(hn:1<=n)(hf:oK (dN (aT M) h) n=none)(hg:oK (aT M) n=none):iH M n h=xC M n h:=by
 unfold iH;rw[Qe oM,hf];simp only[hg]
theorem Ib(M:List Bool)(hN:M.length<=65536)(h:Nat):aR (dN (aT M) h)=aK (Il M h) M.length:=by
 obtain⟨h1,h2⟩:=xK M hN h;rw[fD _ h1,aM _ _ _ λi _=>h2 i,jT _ _ _ hN λi hi _=>by rw[kD M i hi];rfl];rfl
theorem LX(M:List Bool)(hN:M.length<=65536)(h:Nat):aR (beforeL (aT M) h)=aK (λi=>dA M i&& !decide (h<=i)) M.length:=by
 obtain⟨h1,h2⟩:=wR M hN h;rw[fD _ h1,aM _ _ _ λi _=>h2 i,jT _ _ _ hN λi hi _=>by rw[kD M i hi];rfl];congr 1
 apply aM
 intro i _;congr 1;rw[Qw];simp
theorem CJ(M:List Bool)(hN:M.length<=65536)(n h:Nat):(n:Int)-min (n:Int) (aR (dN (aT M) h))=((n-min n (aK (Il M h) M.length):Nat):Int):=by
 rw[Ib M hN];omega
structure Taken(M:List Bool)(n:Nat)(l:List E):Prop where
 perm:aQ M.length l=true
 range:mQ M.length l=true
 free:∀i,dZ l i=true->dA M i=true
 len:aR l=n
theorem Taken.st{M:List Bool}{n:Nat}{l:List E}(h:Taken M n l):stN M l true=0:=by
 unfold stN;rw[nK];intro i hi;cases hl:dZ l i
 ·rfl
 ·have:=h.free i hl;rw[oI M i hi]at this;simp at this;rw[Ql,this];rfl
theorem aBn(N:Nat)(x:E)(h:1<=x.n/\0<=x.s/\x.s+x.n<=N):BZ N [x]=0:=by
 have:=YP N [] x h;rw[List.nil_append,RY]at this;rw[this,show QK N [] x=0 from dK _ _ λi _=>rfl];rfl
theorem Gv{M:List Bool}(hN:M.length<=65536){s n:Nat}(hn:1<=n)(h:Cx M s n=true):Taken M n [⟨0,n,s⟩]:=by
 have hr:=(wZ _ _ _).1 h;have hle:s+n<=M.length:=by
  have:=wJ (hr (n-1) oM);omega
 have hp:aQ M.length [(⟨0,n,s⟩:E)]=true:=(aP _ _).2 λx hx=>by simp at hx;subst hx;simp only;omega
 refine⟨hp,xB hN hp (aBn _ _ sO),λi hi=> ?_,by simp[aR]⟩;rw[Ia]at hi;have:=(gB _ _).1 hi;simp only at this;have h2:=hr (i-s) oM
 rwa [show s+(i-s)=i by omega]at h2
theorem Fu{M:List Bool}{R:List E}(h:Canon R)(hf:∀i,hasB R i=true->dA M i=true):aQ M.length R=true:=by
 refine(aP _ _).2 λx hx=> ?_;obtain⟨c1,c2,c3,c4,c5⟩:=(aB _).1 (h.1 x hx).2;have:=wJ (hf (x.s+x.n-1).toNat (Mf h hx _ oM oM));omega
theorem nZ{R:List E}(h:Canon R)(i:Nat):dZ R i=hasB R i:=by
 rw[Qw,sK,jC]
 constructor
 ·rintro⟨x,hx,h1,h2⟩;exact⟨x,hx,(h.1 x hx).2,h1,h2⟩
 ·rintro⟨x,hx,_,h1,h2⟩;exact⟨x,hx,h1,h2⟩
theorem IY{M:List Bool}(hN:M.length<=65536){n h:Nat}(hfree:n<=aK (dA M) M.length):Taken M n (xC M n h):=by
 obtain ⟨f1,f2⟩:=xK M hN h;obtain⟨b1,b2⟩:=wR M hN h;have hle:=LW _ n f1;unfold xC;rw[CJ M hN];have hle2:=LW _ (n-min n (aK (Il M h) M.length)) b1;obtain⟨c1,_,c3,_⟩:=Ex _ n f1;obtain⟨d1,_,d3,_⟩:=Ex _ (n-min n (aK (Il M h) M.length)) b1;have ef:=Ib M hN h;have eb:=LX M hN h;have es:=vB (dA M) (λi=>decide (h<=i)) M.length;have es':aK (λi=>dA M i&&decide (h<=i)) M.length=aK (Il M h) M.length:=rfl;generalize (cO (dN (aT M) h) n).1=A at *;generalize hB:(cO (beforeL (aT M) h) ((n-min n (aK (Il M h) M.length):Nat):Int)).1=B at *;have hA:∀i,hasB A i=true->dA M i=true/\h<=i:=λi hi=>by
  rw[c3]at hi;unfold rU at hi;rw[Qd,f2,Qd]at hi;exact⟨hi.1.1,Qt hi.1.2⟩
 have hBf:∀i,hasB B i=true->dA M i=true/\i<h:=λi hi=>by
  rw[d3]at hi;unfold rU at hi;rw[Qd,b2,Qd]at hi;exact⟨hi.1.1,Qt hi.1.2⟩
 have pA:=Fu c1 λi hi=>(hA i hi).1;have pB:=Fu d1 λi hi=>(hBf i hi).1;have hp:aQ M.length (A++B)=true:=by
  rw[aP];intro x hx;rcases Qn.1 hx with h1|h1
  ·exact(aP _ _).1 pA x h1
  ·exact(aP _ _).1 pB x h1
 have hlen:aR (A++B)=n:=by rw[rF,hle,hle2];omega
 have hF:∀i,dZ (A++B) i=(hasB A i||hasB B i):=λi=>by rw[Az,nZ c1,nZ d1]
 refine⟨hp,xB hN hp ?_,λi hi=> ?_,hlen⟩
 ·unfold BZ;have e1:aK (dZ (A++B)) M.length=aK (hasB A) M.length+aK (hasB B) M.length:=by
   rw[aM _ _ _ λi _=>hF i];exact pQ _ _ _ λi _ h1 h2=>by have:=(hA i h1).2;have:=(hBf i h2).2;omega
  have e2:aR A=aK (hasB A) M.length:=by
   rw[fD _ c1,jT _ _ _ hN λi hi _=> ?_];rw[Bool.eq_false_iff];intro hc;have:=wJ (hA i hc).1;omega
  have e3:aR B=aK (hasB B) M.length:=by
   rw[fD _ d1,jT _ _ _ hN λi hi _=> ?_];rw[Bool.eq_false_iff];intro hc;have:=wJ (hBf i hc).1;omega
  rw[rF,e1,e2,e3];omega
 ·rw[hF,Bool.or_eq_true]at hi;rcases hi with h1|h1
  ·exact(hA i h1).1
  ·exact(hBf i h1).1
theorem rZ{M:List Bool}(hN:M.length<=65536){n h:Nat}(hfree:n<=aK (dA M) M.length):Taken M n (iH M n h):=by
 by_cases h0:n=0
 ·subst h0;refine⟨rfl,xB hN rfl (RY _),(λi hi=>by cases hi),rfl⟩
 ·cases hf:oK (dN (aT M) h) n with
  | some s=>
   rw[zV M n h s oM hf];obtain⟨s',rfl,_,hr,_⟩:=Gi hN oM hf;exact Gv hN oM hr
  | none=>
   cases hg:oK (aT M) n with
   | some s=>
    rw[Gw M n h s oM hf hg];obtain⟨s',rfl,hr,_⟩:=UJ hN oM hg;exact Gv hN oM hr
   | none=>
    rw[zU M n h oM hf hg];exact IY hN hfree
end Go.Proofs.YtphfgbbbejloaaaGreatDoor
