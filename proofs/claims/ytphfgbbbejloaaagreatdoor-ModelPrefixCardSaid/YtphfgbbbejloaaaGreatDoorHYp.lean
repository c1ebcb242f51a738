/- tegularef36: Names, Free, Lookup, Range. Conditions: as each theorem says. -/
import Derived.Test.YtphfgbbbejloaaaGreatDoorGMp
import Derived.Test.YtphfgbbbejloaaaGreatDoorHUp
set_option linter.unusedSimpArgs false
set_option linter.unusedVariables false
set_option linter.unusedSectionVars false
set_option maxRecDepth 100000
set_option maxHeartbeats 16000000
namespace Go.Proofs.YtphfgbbbejloaaaGreatDoor
open Go.RowKit Go.Maps
open Go.Proofs.Tryz
variable[Gst]
theorem aEd{P:Prop}(h:P:=by have:x.l.length<=100000:=qD HOK.o;omega):P:=h
theorem Rv{P:Prop}(h:P:=by rw[HAR.o,hcv];simp):P:=h
theorem aEg{P:Prop}(h:P:=by
  rintro e w1 ⟨sv,rfl,ho,hb⟩;obtain⟨sa,sc,rfl,_⟩:=ho.rd sM;have HB:=hD (HH.o.B.on hb);have hz:(e1==0)=false:=by simpa using he
  clear hb ho b0 b1 HH he;go_wp2_with fail;go_ret2;exact⟨rfl,HB.o⟩
  ):P:=h
theorem aEf{P:Prop}(h:P:=by
  rintro e w1 ⟨rfl,hb⟩;have hB:=(HH.o.B.on hb).aIw (cq #[nmV [],oo,oo,oo,oo] 94);clear hb b0 b1 HH;go_wp2_with fail;go_ret;exact⟨rfl,hB⟩
  ):P:=h
theorem aEe{P:Prop}(h:P:=by
  rintro e w1 ⟨rfl,hb⟩;have hB:=HH.o.B.on hb;clear hb b0 b1 HH;go_wp2_with fail;go_ret;exact⟨rfl,hB⟩
  ):P:=h
structure BH(w W:Wd)(a:OA)(n:Int)(m c:Nat):Prop where
 b0:W (cw w 0)=n
 b1:W (cw w 1)=some (.slice a m c)
 B:Below w w W
theorem BH.aIx{w W W':Wd}{a:OA}{n:Int}{m c:Nat}(h:BH w W a n m c)(hb:Below W W W'):BH w W' a n m c:=⟨hb.keep h.b0,hb.keep h.b1,h.B.on hb⟩
theorem BH.init(w:Wd)(a:OA)(n:Int)(m c:Nat):BH w (w.alloc (cq #[n,.slice a m c] 28)) a n m c:=⟨sM,sM,bR.aIw _⟩
theorem CE(F:Fam)(nm:LU)(p n:Int):
  (aN F.vs nm=none/\dP F nm p n=([],9))∨ ∃v,aN F.vs nm=some v/\
   ((inB p n v.n=false/\dP F nm p n=([],2))∨(inB p n v.n=true/\dP F nm p n=(inL v.l p n,0))):=by
 unfold dP
 cases hg:aN F.vs nm with
 |none=>exact .inl ⟨rfl,rfl⟩
 | some v=>
  refine .inr ⟨v,rfl,?_⟩;cases hn:inB p n v.n
  ·exact .inl ⟨rfl,by simp[hn]⟩
  ·exact .inr ⟨rfl,by simp[hn]⟩
theorem uK(F:Fam)(nm:LU)(p:Int):
  (aN F.vs nm=none/\aX F nm p=(0,false,9))∨ ∃v,aN F.vs nm=some v/\
   (((p<0∨v.n<=p)/\aX F nm p=(0,false,2))∨(0<=p/\p<v.n/\aX F nm p=(fU v.l p,fI v.l p,0))):=by
 unfold aX
 cases hg:aN F.vs nm with
 |none=>exact .inl ⟨rfl,rfl⟩
 | some v=>
  refine .inr ⟨v,rfl,?_⟩;cases hn:inB p 1 v.n
  ·have:¬ (0<=p/\0<=(1:Int)/\p<=v.n/\1<=v.n-p):=Yh hn;exact .inl ⟨oM,by simp[hn]⟩
  ·have:=(iK _ _ _).1 hn;exact .inr ⟨oM,oM,by simp[hn]⟩
theorem GK(F:Fam)(gv:Value)(nm:LU)(p n:Int)(w:Wd)(hF:F.ok)(h:cB w gv F)(hnm:nm.length<=maxLen):
  ep 96 #[gv,nmV nm,p,n] w λe w'=>∃sv,e= .returned (.tuple #[sv,.int .i64 (dP F nm p n).2])/\aG w' w sv (dP F nm p n).1/\Below w w w':=by
 obtain⟨a,c,ts,rfl,hr,hl,hts,_⟩:=h;have h32:=(kE hF hts).2;have HH:=hD (BH.init w a F.N ts.length c);have HR:=hD hr;have HL:=hD hl;have HTS:=hD hts;have HF:=hD hF;clear hr hl hts hF;rcases CE F nm p n with ⟨hg,hc⟩|⟨v,hg,⟨hn,hc⟩|⟨hn,hc⟩⟩
 ·rw[hc];have HAT:=hD (mG HTS.o hg);clear hg hc;go_enter func96,ntmps96;go_wp2_with fail;refine(gV F.N ts nm a c _ (HR.o.keep HH.o.B) _ HAT.o).m ?_;rintro e w1 ⟨rfl,hb⟩;have HH:=hD (HH.o.aIx hb);clear hb;have b0:=HH.o.b0;have b1:=HH.o.b1;go_wp2_with fail;go_ret2;exact⟨_,rfl,aG.nil _ _,HH.o.B⟩
 ·rw[hc];obtain⟨k,hk,hat,hv,hkn⟩:=gK HTS.o hg;have hok:=HF.o.vol v (aC hg).1;have HAT:=hD hat;have HMEM:=hD (Qm hk);have HGET:=hD (Qa hk);clear hkn;generalize ts[k]=x at *;subst hv;have HOK:=hD hok;clear hg hc hat hok;have HIN:=hD hn;clear hn;go_enter func96,ntmps96;go_wp2_with fail;refine(gV F.N ts nm a c _ (HR.o.keep HH.o.B) _ HAT.o).m ?_;rintro e w1 ⟨rfl,hb⟩;have HH:=hD (HH.o.aIx hb);clear hb;have b0:=HH.o.b0;have b1:=HH.o.b1;obtain⟨b,o,rfl,hat⟩:=(HR.o.keep HH.o.B).at oM;have HA:=hD (hat k x HGET.o);have e0:=HA.o.c0;have e1:=HA.o.c1;have e2:=HA.o.c2;have e3:=HA.o.c3;clear hat;go_wp2_with fail;refine(kV x p n _ ⟨by have:1<=x.n:=HOK.o.n1;omega,HOK.o.n2⟩ false HIN.o).m ?_;rintro e w2 ⟨rfl,hb⟩;have hB:=HH.o.B.on hb;clear hb e0 e1 e2 e3 b0 b1;go_wp2_with fail;go_ret2;exact⟨_,rfl,aG.nil _ _,hB⟩
 ·rw[hc];have HWI:=hD ((HF.o.vol v (aC hg).1).cut hn).1;obtain⟨k,hk,hat,hv,hkn⟩:=gK HTS.o hg;have hok:=HF.o.vol v (aC hg).1;have HAT:=hD hat;have HMEM:=hD (Qm hk);have HGET:=hD (Qa hk);clear hkn;generalize ts[k]=x at *;subst hv;have HOK:=hD hok;clear hg hc hat hok;have HIN:=hD hn;clear hn;go_enter func96,ntmps96;go_wp2_with fail;refine(gV F.N ts nm a c _ (HR.o.keep HH.o.B) _ HAT.o).m ?_;rintro e w1 ⟨rfl,hb⟩;have HH:=hD (HH.o.aIx hb);clear hb;have b0:=HH.o.b0;have b1:=HH.o.b1;obtain⟨b,o,rfl,hat⟩:=(HR.o.keep HH.o.B).at oM;have HA:=hD (hat k x HGET.o);have e0:=HA.o.c0;have e1:=HA.o.c1;have e2:=HA.o.c2;have e3:=HA.o.c3;clear hat;go_wp2_with fail;refine(kV x p n _ ⟨by have:1<=x.n:=HOK.o.n1;omega,HOK.o.n2⟩ true HIN.o).m ?_;rintro e w2 ⟨rfl,hb⟩;have HH:=hD (HH.o.aIx hb);have HA:=hD (HA.o.keep hb);clear hb e0 e1 e2 e3 b0 b1;have b1:=HH.o.b1;have e3:=HA.o.c3;go_wp2_with fail;refine(WP x.l p n x.a x.c _ ((HL.o x HMEM.o).keep HH.o.B) aEd HOK.o.valid HWI.o).m ?_;rintro e w3 ⟨sv,mv,rfl,_,hom,hb⟩;have hB:=HH.o.B.on hb;have hsz:=HH.o.B.size;clear hb e3 b1;go_wp2_with fail;go_ret2;exact⟨_,rfl,hom.mono hsz,hB⟩
theorem Oj(F:Fam)(gv:Value)(nm:LU)(p:Int)(w:Wd)(hF:F.ok)(h:cB w gv F)(hnm:nm.length<=maxLen):
  ep 45 #[gv,nmV nm,p] w (RB w (.tuple #[.int .i64 (aX F nm p).1,.bool (aX F nm p).2.1,.int .i64 (aX F nm p).2.2])):=by
 obtain⟨a,c,ts,rfl,hr,hl,hts,_⟩:=h;have h32:=(kE hF hts).2;have HH:=hD (BH.init w a F.N ts.length c);have HR:=hD hr;have HL:=hD hl;have HTS:=hD hts;have HF:=hD hF;clear hr hl hts hF;rcases uK F nm p with ⟨hg,hc⟩|⟨v,hg,⟨hn,hc⟩|⟨hn1,hn2,hc⟩⟩
 ·rw[hc];have HAT:=hD (mG HTS.o hg);clear hg hc;go_enter func45,ntmps45;go_wp2_with fail;refine(gV F.N ts nm a c _ (HR.o.keep HH.o.B) _ HAT.o).m ?_;rintro e w1 ⟨rfl,hb⟩;have HH:=hD (HH.o.aIx hb);clear hb;have b0:=HH.o.b0;have b1:=HH.o.b1;go_wp2_with fail;go_ret3;exact⟨rfl,HH.o.B⟩
 ·rw [hc];obtain⟨k,hk,hat,hv,hkn⟩:=gK HTS.o hg;have hok:=HF.o.vol v (aC hg).1;have HAT:=hD hat;have HMEM:=hD (Qm hk);have HGET:=hD (Qa hk);clear hkn;generalize ts[k]=x at *;subst hv;have HOK:=hD hok;clear hg hc hat hok;have hn':p<0∨x.n<=p:=hn;clear hn;go_enter func45,ntmps45;go_wp2_with fail;refine(gV F.N ts nm a c _ (HR.o.keep HH.o.B) _ HAT.o).m ?_;rintro e w1 ⟨rfl,hb⟩;have HH:=hD (HH.o.aIx hb);clear hb;have b0:=HH.o.b0;have b1:=HH.o.b1;obtain⟨b,o,rfl,hat⟩:=(HR.o.keep HH.o.B).at oM;have HA:=hD (hat k x HGET.o);have e0:=HA.o.c0;have e1:=HA.o.c1;have e2:=HA.o.c2;have e3:=HA.o.c3;clear hat;have HHB:=HH.o.B;clear HH;rcases hn' with hn|hn
  ·go_wp2_with fail;go_ret3;exact⟨rfl,HHB⟩
  ·have hp0:p<0∨0<=p:=oM
   rcases hp0 with hp0|hp0
   ·go_wp2_with fail;go_ret3;exact⟨rfl,HHB⟩
   ·go_wp2_with fail;go_ret3;exact⟨rfl,HHB⟩
 ·rw[hc];obtain⟨k,hk,hat,hv,hkn⟩:=gK HTS.o hg;have hok:=HF.o.vol v (aC hg).1;have HAT:=hD hat;have HMEM:=hD (Qm hk);have HGET:=hD (Qa hk);clear hkn;generalize ts[k]=x at *;subst hv;have HOK:=hD hok;clear hg hc hat hok;have hn3:p<x.n:=hn2;clear hn2;go_enter func45,ntmps45;go_wp2_with fail;refine(gV F.N ts nm a c _ (HR.o.keep HH.o.B) _ HAT.o).m ?_;rintro e w1 ⟨rfl,hb⟩;have HH:=hD (HH.o.aIx hb);clear hb;have b0:=HH.o.b0;have b1:=HH.o.b1;obtain⟨b,o,rfl,hat⟩:=(HR.o.keep HH.o.B).at oM;have HA:=hD (hat k x HGET.o);have e0:=HA.o.c0;have e1:=HA.o.c1;have e2:=HA.o.c2;have e3:=HA.o.c3;clear hat;go_wp2_with fail;refine(TI x.l p x.a x.c _ ((HL.o x HMEM.o).keep HH.o.B) (λz hz=>BD (aL HOK.o.valid z hz))).m ?_;rintro e w3 ⟨rfl,hb⟩;have hB:=HH.o.B.on hb;rw[Iq p (show aH x.l=true from HOK.o.valid),Ip p (show aH x.l=true from HOK.o.valid)];clear hb e0 e1 e2 e3 b0 b1;go_wp2_with fail;go_ret3;exact⟨rfl,hB⟩
structure IT(W:Wd)(T:Nat)(i:oW):Prop where
 t0:W (cw T 0)=some (nmV i.nm)
 t1:W (cw T 1)=i.n
 t2:W (cw T 2)=i.r
 t3:W (cw T 3)=i.m
 t4:W (cw T 4)=i.x
 g4:W.frozen? (cw T 4)=false
theorem IT.lt{W:Wd}{T:Nat}{i:oW}(h:IT W T i):T<W.heap.size:=Qj W (cw T 0) h.t0
theorem IT.aIx{W W':Wd}{T:Nat}{i:oW}(h:IT W T i)(hb:Below W W W'):IT W' T i:=
 ⟨hb.keep h.t0,hb.keep h.t1,hb.keep h.t2,hb.keep h.t3,hb.keep h.t4,hb.aJc h.t4 h.g4⟩
theorem IT.new(V:Wd)(B:Nat)(hB:V.heap.size=B)(i:oW)(t:TypeId):IT (V.alloc (cq #[nmV i.nm,i.n,i.r,i.m,i.x] t)) B i:=by
 subst hB;exact⟨sM,sM,sM,sM,sM,sM⟩
theorem IT.setx{W:Wd}{T:Nat}{i:oW}(h:IT W T i)(e:Int):IT (W.setCell (cw T 4) e) T ⟨i.nm,i.n,i.r,i.m,e⟩:=by
 have k:∀(j:Nat),4≠j->(W.setCell (cw T 4) e).cell? (cw T j)=W (cw T j):=λj hij=>Qk _ _ _ _ (λe=>hij (Addr.mk.inj e).2.1);exact⟨(k 0 oM).trans h.t0,(k 1 oM).trans h.t1,(k 2 oM).trans h.t2,(k 3 oM).trans h.t3,Qi _ _ _ h.t4,by rw[Qb];exact h.g4⟩
theorem IT.of_ri{w W:Wd}{T:Nat}(h:RI w W T)(i:oW):IT (pK W T i) T i:=by
 obtain⟨j0,j1,j2,j3,j4⟩:=h.cells i;refine⟨j0,j1,j2,j3,j4,?_⟩;rw[Qb,Qb,Qb,Qb,Qb];exact h.f4
theorem RI.aJf{w W:Wd}{R T j:Nat}{u:Value}(h:RI w W R)(hne:R≠T)(hT:w.heap.size<=T):RI w (W.setCell (cw T j) u) R:=by
 have k:∀j',(W.setCell (cw T j) u).cell? (cw R j')=W (cw R j'):=λj'=>cell_far hne;exact⟨(k 0).trans h.r0,(k 1).trans h.r1,(k 2).trans h.r2,(k 3).trans h.r3,(k 4).trans h.r4,by rw[Qb];exact h.f0,by rw[Qb];exact h.f1,by rw[Qb];exact h.f2,by rw[Qb];exact h.f3,by rw[Qb];exact h.f4,h.le,h.bel.setCell hT _⟩
structure IH(w W:Wd)(a:OA)(n:Int)(m c X T:Nat)(x:RT)(i:oW):Prop where
 bh:BH w W a n m c
 vx:VX W X x
 it:IT W T i
 ri:RI w W (cf w)
 xr:w.heap.size+1<X
 xt:X<T
theorem IH.aIx{w W W':Wd}{a:OA}{n:Int}{m c X T:Nat}{x:RT}{i:oW}(h:IH w W a n m c X T x i)(hb:Below W W W'):IH w W' a n m c X T x i:=
 ⟨h.bh.aIx hb,h.vx.aIx hb,h.it.aIx hb,h.ri.aIx hb,h.xr,h.xt⟩
theorem IH.setx{w W:Wd}{a:OA}{n:Int}{m c X T:Nat}{x:RT}{i:oW}(h:IH w W a n m c X T x i)(e:Int):IH w (W.setCell (cw T 4) e) a n m c X T x ⟨i.nm,i.n,i.r,i.m,e⟩:=by
 have h1:=h.xr;have h2:=h.xt;have k:∀b j,b≠T->(W.setCell (cw T 4) e).cell? (cw b j)=W (cw b j):=λb j hb=>cell_far hb;exact⟨⟨(k _ _ oM).trans h.bh.b0,(k _ _ oM).trans h.bh.b1,h.bh.B.setCell sO _⟩,
  ⟨(k _ _ oM).trans h.vx.x0,(k _ _ oM).trans h.vx.x1,(k _ _ oM).trans h.vx.x2,(k _ _ oM).trans h.vx.x3,by rw[Qb];exact h.vx.g0,by rw[Qb];exact h.vx.g2,by rw[Qb];exact h.vx.g3⟩,
  h.it.setx e,h.ri.aJf oM oM,h1,h2⟩
theorem BH.initI(w:Wd)(a:OA)(n:Int)(m c:Nat)(W:Wd)(hW:W=(w.alloc (cq #[n,.slice a m c] 28)).alloc (cq #[nmV [],oo,oo,oo,oo] 94)):
  BH w W a n m c/\RI w W (w.heap.size+1):=by
 subst hW;have h:=RI.new w _ 94 ((bQ w).aIw (cq #[n,.slice a m c] 28));rw[show(w.alloc (cq #[n,.slice a m c] 28)).heap.size=w.heap.size+1 by simp]at h;exact⟨(BH.init w a n m c).aIx (bR.aIw _),h⟩
theorem ED(F:Fam)(hF:F.ok){v:Vol}(hv:aN F.vs v.nm=some v):dW F v.nm=(⟨v.nm,v.n,v.r,aR v.l,dS F.C v.l⟩,0):=by
 unfold dW;rw[hv,wL hF (aC hv).1];rfl
theorem Fy{n:Nat}{w W:Wd}(h:Below n w W){T:Nat}(hT:n<=T)(i:oW):Below n w (pK W T i):=((((h.setCell hT _).setCell hT _).setCell hT _).setCell hT _).setCell hT _
theorem pX{W:Wd}{T:Nat}{i:oW}{p:Addr}(h:p.block≠T):(pK W T i).cell? p=W.cell? p:=by
 rw[cell_far h,cell_far h,cell_far h,cell_far h,cell_far h]
theorem wF{W:Wd}{T:Nat}{i:oW}{p:Addr}:(pK W T i).frozen? p=W.frozen? p:=by
 rw[Qb,Qb,Qb,Qb,Qb]
theorem IH.make{w W:Wd}{a:OA}{n:Int}{m c X T:Nat}{x:RT}(i:oW)(bh:BH w W a n m c)(vx:VX W X x)(ri:RI w W (cf w))(rt:RI w W T)(xr:w.heap.size+1<X)(xt:X<T):IH w (pK W T i) a n m c X T x i:=by
 refine ⟨⟨(pX sO).trans bh.b0,(pX sO).trans bh.b1,Fy bh.B oM i⟩,
  ⟨(pX sO).trans vx.x0,(pX sO).trans vx.x1,(pX sO).trans vx.x2,(pX sO).trans vx.x3,wF.trans vx.g0,wF.trans vx.g2,wF.trans vx.g3⟩,
  IT.of_ri rt i,?_,xr,xt⟩
 exact((((ri.aJf oM oM).aJf oM oM).aJf oM oM).aJf oM oM).aJf oM oM
def aHq(w:Wd)(a:OA)(n:Int)(m c X:Nat)(x:RT)(i:oW)(p:Value)(W:Wd):Prop:= ∃T,p= .pointer (cw T 0)/\IH w W a n m c X T x i
theorem WC(F:Fam)(gv:Value)(nm:LU)(w:Wd)(hF:F.ok)(h:cB w gv F)(hnm:nm.length<=maxLen):
    ep 36 #[gv,nmV nm] w (Bn w (dW F nm).1 (dW F nm).2):=by
  obtain⟨a,c,ts,rfl,hr,hl,hts,_⟩:=h;have h32:=(kE hF hts).2;obtain⟨h0,h1⟩:=BH.initI w a F.N ts.length c _ rfl;have HH:=hD h0;have HI:=hD h1;have HR:=hD hr;have HL:=hD hl;have HTS:=hD hts;have HF:=hD hF;clear hr hl hts hF h0 h1
  cases hg:aN F.vs nm with
  | none=>
    rw[show dW F nm=(⟨[],0,0,0,0⟩,9) by simp[dW,hg]];have HAT:=hD (mG HTS.o hg);clear hg;go_enter func36,ntmps36;go_wp2_with fail;refine(gV F.N ts nm a c _ (HR.o.keep HH.o.B) _ HAT.o).m ?_;rintro e w1 ⟨rfl,hb⟩;have HI1:=hD (HI.o.aIx hb);clear hb;have r0:=HI1.o.r0;have r1:=HI1.o.r1;have r2:=HI1.o.r2;have r3:=HI1.o.r3;have r4:=HI1.o.r4;have f0:=HI1.o.f0;have f1:=HI1.o.f1;have f2:=HI1.o.f2;have f3:=HI1.o.f3;have f4:=HI1.o.f4;go_wp2_with fail;have hj:=HI1.o.cells ⟨[],0,0,0,0⟩;have hbl:=HI1.o.below ⟨[],0,0,0,0⟩;show bodyPost _ _ _ _ _ (pK w1 (cf w) ⟨[],0,0,0,0⟩);clear r0 r1 r2 r3 r4 f0 f1 f2 f3 f4;generalize pK w1 (cf w) ⟨[],0,0,0,0⟩=W at hj hbl ⊢;obtain⟨j0,j1,j2,j3,j4⟩:=hj;simp only[nmV]at j0;refine br (.tuple #[.agg #[.string ⟨#[]⟩,oo,oo,oo,oo],.int .i64 9]) ?_;exact⟨rfl,hbl⟩
  | some v =>
    have hvn:=(aC hg).2;have hrf:=ED F HF.o (v:=v) (by rw[hvn];exact hg);rw[hvn]at hrf;rw[hrf];obtain⟨k,hk,hat,hv,hkn⟩:=gK HTS.o hg;have hok:=HF.o.vol v (aC hg).1;have HAT:=hD hat;have HMEM:=hD (Qm hk);have HGET:=hD (Qa hk);generalize ts[k]=x at *;subst hv;have HOK:=hD hok;have HKN:=hD hkn;have HCN:=hD F.aIz;have HRNG:=hD HF.o.range;clear hg hat hok hkn hvn hrf;go_enter func36,ntmps36;go_wp2_with fail;refine(gV F.N ts nm a c _ (HR.o.keep HH.o.B) _ HAT.o).m ?_;rintro e w1 ⟨rfl,hb⟩;have hva:=hb.aIw (cq #[nmV x.nm,x.n,x.r,x.sl] 54);have HH2:=hD (HH.o.aIx hva);have HI2:=hD (HI.o.aIx hva);have HX2:=hD (VX.new w1 _ rfl x 54);have HRX:Hid (w.heap.size+1<w1.heap.size):=hD (Qj w1 (cw (cf w) 0) (HI.o.aIx hb).r0);have b0:=(HH.o.aIx hb).b0;have b1:=(HH.o.aIx hb).b1;obtain⟨b,o,rfl,hat⟩:=(HR.o.keep (HH.o.aIx hb).B).at oM;obtain⟨e0,e1,e2,e3⟩:=hat k x HGET.o;clear hat hva hb;have x0:=HX2.o.x0;have x1:=HX2.o.x1;have x2:=HX2.o.x2;have x3:=HX2.o.x3;go_upto_region 5 with fail;clear e0 e1 e2 e3 b0 b1 x0 x1 x2 x3 HH HI;generalize w1.alloc (cq #[nmV x.nm,x.n,x.r,x.sl] 54)=w2 at *;generalize w1.heap.size=X at*
    go_cut [8] from 8 to 32 (λp wx=>aHq w (cw b o) F.N ts.length c X x ⟨x.nm,x.n,x.r,aR x.l,0⟩ p wx)
    case first =>
      have HV:=hD (HX2.o.aIx bR.drew);have HLX:=hD ((HL.o x HMEM.o).keep HH2.o.B.drew);have HWF:Hid (wfL x.l):=hD λz hz=>BD (aL HOK.o.valid z hz);have hXl:=HX2.o.lt;have hBV:xS x.l=aR x.l:=Db HOK.o.valid;have h9d:w2.drew.heap.size=w2.heap.size:=rfl;have HT0:Hid (RI w (w2.alloc (cq #[.string ⟨#[]⟩,oo,oo,oo,oo] 94)).drew w2):=hD (RI.aIx (RI.new w w2 94 HH2.o.B) bR.drew);have hAL:Below w2.drew.heap.size w2.drew (w2.alloc (cq #[.string ⟨#[]⟩,oo,oo,oo,oo] 94)).drew:=(Below.refl w2.drew.heap.size w2.drew).aIw (cq #[.string ⟨#[]⟩,oo,oo,oo,oo] 94);have HAV:=hD (HV.o.aIx hAL);have HAL:=hD hAL;clear hAL
      go_region_held3 (λw'=>w' (cw X 0)=some (nmV x.nm)/\w' (cw X 1)=x.n/\w' (cw X 2)=x.r/\w' (cw X 3)=some x.sl/\Below w2.drew.heap.size w2.drew w')
        (first
          |with_reducible exact⟨HV.o.x0,HV.o.x1,HV.o.x2,HV.o.x3,bR⟩
          | (have hH:= ‹_/\_/\_/\_/\Below w2.drew.heap.size w2.drew _›
             have hW:= ‹Below w2.drew.heap.size w2.drew _/\True›.1;have hJ:=Fy hW (T:=w2.heap.size) (Ye _) ⟨x.nm,x.n,x.r,aR x.l,0⟩
             first
              |with_reducible exact⟨(HV.o.aIx hJ).x0,(HV.o.aIx hJ).x1,(HV.o.aIx hJ).x2,(HV.o.aIx hJ).x3,hJ⟩
              |with_reducible exact⟨(HV.o.aIx (hW.aIw _)).x0,(HV.o.aIx (hW.aIw _)).x1,(HV.o.aIx (hW.aIw _)).x2,(HV.o.aIx (hW.aIw _)).x3,hW.aIw _⟩
              |with_reducible exact⟨(HV.o.aIx hW).x0,(HV.o.aIx hW).x1,(HV.o.aIx hW).x2,(HV.o.aIx hW).x3,hW⟩)
          |with_reducible exact⟨HAV.o.x0,HAV.o.x1,HAV.o.x2,HAV.o.x3,HAL.o⟩)
        (first
          |(go_at_call 58;have hH:= ‹_/\_/\_/\_/\Below w2.drew.heap.size w2.drew _›;refine(KT x.l x.a x.c _ (HLX.o.keep hH.2.2.2.2) HWF.o aEd).m ?_;rw[hBV];rintro e w3 ⟨rfl,hb3⟩;have hB3:Below w2.drew.heap.size w2.drew w3/\True:=⟨hH.2.2.2.2.on hb3,trivial⟩;(try(have HT3:=hD (HT0.o.aIx hb3);have t0:=HT3.o.r0;have t1:=HT3.o.r1;have t2:=HT3.o.r2;have t3:=HT3.o.r3;have t4:=HT3.o.r4;have s0:=HT3.o.f0;have s1:=HT3.o.f1;have s2:=HT3.o.f2;have s3:=HT3.o.f3;have s4:=HT3.o.f4))))
      · have h23:=(bQ w2).drew.on hB3.1;have hk:=h23.aIw (cq #[nmV x.nm,x.n,x.r,(aR x.l),oo] 94);have HQ:Hid (aHq w (cw b o) F.N ts.length c X x ⟨x.nm,x.n,x.r,aR x.l,0⟩ (.pointer (cw w3 0)) (w3.alloc (cq #[nmV x.nm,x.n,x.r,(aR x.l),oo] 94))):=
          hD ⟨_,rfl,HH2.o.aIx hk,HX2.o.aIx hk,IT.new w3 _ rfl ⟨x.nm,x.n,x.r,aR x.l,0⟩ _,HI2.o.aIx hk,HRX.o,by have:=h23.size;omega⟩
        clear h23 hk hB3 hb3;go_wp2_with fail;go_meet;exact HQ.o
      · have h23:=(bQ w2).drew.on hB3.1;have HQ:Hid (aHq w (cw b o) F.N ts.length c X x ⟨x.nm,x.n,x.r,aR x.l,0⟩ (.pointer (cw w2 0)) (pK w3 w2 ⟨x.nm,x.n,x.r,aR x.l,0⟩)):=
          hD ⟨_,rfl,IH.make _ (HH2.o.aIx h23) (HX2.o.aIx h23) (HI2.o.aIx h23) HT3.o HRX.o hXl⟩
        clear h23 hB3 hb3 t0 t1 t2 t3 t4 s0 s1 s2 s3 s4;go_wp2_with fail;go_meet;exact HQ.o
    case rest =>
      obtain⟨T,rfl,hih⟩:=hcut;obtain⟨W2,rfl⟩:∃W2:Wd,W2=wc:=⟨_,rfl⟩;have HM:=hD hih;have b0:=hih.bh.b0;have b1:=hih.bh.b1;clear hih;go_wp2_with fail;refine(tX F F.C rfl ts (cw b o) c _ HF.o HTS.o (HR.o.keep HM.o.bh.B) (HL.o.keep HM.o.bh.B)).m ?_;rintro e w5 ⟨cv,rfl,ho,hb⟩;obtain⟨ca,cc,rfl,_⟩:=ho.rd (by rw[HCN.o];exact HF.o.hN);have HM5:=hD (HM.o.aIx hb);have HOC:=hD (ho.mono HM.o.it.lt);have HLX:=hD ((HL.o x HMEM.o).keep (HM.o.aIx hb).bh.B);have HW5:=hD (HM.o.aIx hb).bh.B;clear ho hb b0 b1 HM;have hp0:aQ F.C.length x.l=true:=by rw[HCN.o];exact HOK.o.perm
      have HPM:=hD ((aP _ _).1 hp0);clear hp0;have HNN:=hD HF.o.hN;have hl9:x.l.length<=100000:=qD HOK.o;have HETK:=hD (zI F.C x.l);have HBD:Hid (∀k,0<=dS F.C (x.l.take k)/\dS F.C (x.l.take k)<=65536*100000):=hD λk=>by
        have h1:=AU F.C (x.l.take k) 65536 (λy hy=>by
          have h2:=(aP _ _).1 HOK.o.perm y (List.mem_of_mem_take hy);have h3:=HF.o.hN
          omega)
        have h4:=List.length_take_le' k x.l;omega
      have HVOL:Hid (x.vol.n=x.n/\x.vol.r=x.r/\x.vol.l=x.l):=hD ⟨rfl,rfl,rfl⟩;rw[HVOL.o.1,HVOL.o.2.1,HVOL.o.2.2];generalize F.C=C at *;have hC9:C.length<=65536:=by rw[HCN.o];exact HNN.o
      clear HOK HF HTS HR HGET HRNG HAT HH2 HI2 HX2 HRX HVOL;go_wp2_with fail;go_loopw [10] (λi wr=>∃k:Nat,k<=x.l.length/\i= .int .i64 k/\IH w wr (cw b o) F.N ts.length c X T x ⟨x.nm,x.n,x.r,aR x.l,dS C (x.l.take k)⟩/\dG wr (T+1) (.slice ca C cc) C) (λi _=>x.l.length-(intOf i).toNat)
      case atStart=>exact⟨0,Yf _,rfl,HM5.o,HOC.o⟩
      case round =>
        clear HM5 HOC;obtain⟨k,hk,rfl,hm,hoc⟩:=hrel;have HM:=hD hm;have HOC:=hD hoc;have v3:wr (cw X 3)=some (.slice x.a x.l.length x.c):=hm.vx.x3;by_cases hlt:k<x.l.length
        · have hrl:=(HL.o x HMEM.o).keep hm.bh.B;obtain⟨eb,eo,hea,hat⟩:=hrl.at oM;rw[hea]at v3;have HAT2:=hD (hat k _ (Qa hlt));obtain⟨y1,y2,y3⟩:=HPM.o _ (Qm hlt);have HT:=hD (HETK.o k hlt);obtain⟨d1,d2⟩:=HBD.o k;obtain⟨d3,d4⟩:=HBD.o (k+1);have HKY:=hD (Qa hlt);generalize x.l[k]=y at *;have HEX:Hid (dS C (x.l.take (k+1))=dS C (x.l.take (k+1))):=hD rfl;obtain⟨ex1,hex1⟩:∃e,dS C (x.l.take (k+1))=e:=⟨_,rfl⟩;replace HEX:=hD hex1;rw[hex1]at HT d3 d4;clear hex1;generalize dS C (x.l.take k)=ex0 at *;have a2:=HAT2.o.s;clear hm hoc hrl hat;have hk0:(0:Int)<=k:=oM
          have hk1:(k:Int)<x.l.length:=oM
          go_wp2_with fail;obtain⟨s0,hs0⟩:∃s0:Nat,(s0:Int)=y.s:=⟨y.s.toNat,oM⟩;obtain⟨n0,hn0⟩:∃n0:Nat,(n0:Int)=y.n:=⟨y.n.toNat,oM⟩;have HS0:=hD hs0;have HN0:=hD hn0;have HOX:Hid (ex1=ex0+aK (λj=>bN C (s0+j)) n0):=hD (by rw[HT.o];unfold Ji;rw[<-hs0,<-hn0];simp);have hsn:s0+n0<=C.length:=oM
          clear hs0 hn0 HT;go_loopw [11] (λt wi=>∃p:Nat,p<=n0/\t= .int .i64 ((s0:Int)+p)/\IH w wi (cw b o) F.N ts.length c X T x ⟨x.nm,x.n,x.r,aR x.l,ex0+aK (λj=>bN C (s0+j)) p⟩/\dG wi (T+1) (.slice ca C cc) C) (λt _=>(s0+n0)-(intOf t).toNat)
          case atStart=>exact⟨0,Yf _,by rw[<-HS0.o];simp,by simpa [aK]using HM.o,HOC.o⟩
          case round=>
            clear HM HOC v3 a2 HAT2;obtain⟨p,hp,rfl,hmi,hoi⟩:=hrel;have HA2:=hD (((HL.o x HMEM.o).keep hmi.bh.B).at oM);have HMI:=hD hmi;have HOI:=hD hoi;clear hmi hoi;have q3:wr (cw X 3)=some (.slice x.a x.l.length x.c):=HMI.o.vx.x3;rw[hea]at q3;have hat3:At wr eb eo k y:=by
              obtain⟨eb2,eo2,he2,hat2⟩:=HA2.o;rw[hea]at he2;injection he2 with he2;injection he2 with h9 h10;subst h9 h10;exact hat2 k y HKY.o
            have HA3:=hD hat3;clear hat3 HA2;have z3:=q3;have z1:=HA3.o.n;have z2:=HA3.o.s;have hw:IntKind.i64.wrap (y.s+y.n)=y.s+y.n:=IntWalk.i64_in _ (by have:=HCN.o;have:=HNN.o;omega);by_cases hpn:p<n0
            · have hlb:decide ((s0:Int)+p<y.s+y.n)=true:=Qo (by have:=HS0.o;have:=HN0.o;omega);go_wp2_with fail;refine wpr ?_
              repeat(go_big_quiet_step (fail))
              refine wqn λnq=> ?_;have HM2:=hD (HMI.o.aIx (World.aIy wr nq));have HO2:=hD (dG.keep HOI.o (World.aIy wr nq));have hsl:s0+p<C.length:=oM
              obtain⟨pa,pc,hpe,hpr⟩:=dG.rd HO2.o (by have:=HCN.o;have:=HNN.o;omega);injection hpe with hpe1 hpe2 hpe3;subst hpe1;obtain⟨cb,co,hca,hatc⟩:=hpr.at oM;clear hpr hpe2 hpe3;have h1:=hatc (s0+p) _ (getD_some C (s0+p) hsl);have hs1:(0:Int)<=(s0:Int)+p:=oM
              have hs2:(s0:Int)+p<C.length:=oM
              have HAR:Hid (aK (λj=>bN C (s0+j)) (p+1)=aK (λj=>bN C (s0+j)) p+if bN C (s0+p)=true then 1 else 0):=hD rfl;have hal:=iX (λj=>bN C (s0+j)) p;have hob:bN C (s0+p)=(C.getD (s0+p) 0==1):=by unfold bN;rw[Qw];simp
              rw[hob]at HAR;generalize C.getD (s0+p) 0=cv at *;generalize aK (λj=>bN C (s0+j)) p=ar0 at *;have h4:=HM2.o.it.t4;have g4:=HM2.o.it.g4;have hq9:wrap64 (ex0+(ar0:Int)+1)=ex0+ar0+1:=by unfold wrap64;have:=HCN.o;have:=HNN.o;omega
              clear hob hatc q3 z3 z1 z2 HA3 HMI HOI hw;cases hcv:(cv==1)
              · have HE:Hid (aK (λj=>bN C (s0+j)) (p+1)=ar0):=hD Rv;clear h4 g4 HAR;go_wp2_with fail;go_roundw
                case rel=>exact⟨p+1,oM,by go_num,by rw[HE.o];exact HM2.o,HO2.o⟩
                case measure=>simp[intOf];omega
              · have HE:Hid (aK (λj=>bN C (s0+j)) (p+1)=ar0+1):=hD Rv;have HM3:=hD (HM2.o.setx (ex0+ar0+1));have HO3:=hD (dG.away HO2.o (cw T 4) (.int .i64 (ex0+ar0+1)) (λe=>by have:=(dG.lt HO2.o _ e).1;simp only at this;omega));clear HAR;go_wp2_with fail;go_roundw
                case rel=>exact⟨p+1,oM,by go_num,by rw[HE.o,show ex0+((ar0+1:Nat):Int)=ex0+ar0+1 by omega];exact HM3.o,HO3.o⟩
                case measure=>simp[intOf];omega
            · have hpe:p=n0:=oM
              subst hpe;have hlb:decide ((s0:Int)+p<y.s+y.n)=false:=Qp (by have:=HS0.o;have:=HN0.o;omega);go_wp2_with fail;refine wpr ?_
              repeat(go_big_quiet_step (fail))
              refine wqn λnq=> ?_;have HM2:=hD (HMI.o.aIx (World.aIy wr nq));have HO2:=hD (dG.keep HOI.o (World.aIy wr nq));clear q3 z3 z1 z2 HA3 HMI HOI hw;go_wp2_with fail;go_roundw
              case rel=>exact⟨k+1,oM,by go_num,by rw[HEX.o,HOX.o];exact HM2.o,HO2.o⟩
              case measure=>simp[intOf];omega
        · obtain rfl:k=x.l.length:=oM
          rw[List.take_length]at HM;have hm2:=HM.o;have s0:=hm2.it.t0;have s1:=hm2.it.t1;have s2:=hm2.it.t2;have s3:=hm2.it.t3;have s4:=hm2.it.t4;have HRI:=hD hm2.ri;clear hm hm2;have r0:=HRI.o.r0;have r1:=HRI.o.r1;have r2:=HRI.o.r2;have r3:=HRI.o.r3;have r4:=HRI.o.r4;have f0:=HRI.o.f0;have f1:=HRI.o.f1;have f2:=HRI.o.f2;have f3:=HRI.o.f3;have f4:=HRI.o.f4;go_wp2_with fail;have hj:=HRI.o.cells ⟨x.nm,x.n,x.r,aR x.l,dS C x.l⟩;have hbl:=HRI.o.below ⟨x.nm,x.n,x.r,aR x.l,dS C x.l⟩;show bodyPost _ _ _ _ _ (pK wr (cf w) ⟨x.nm,x.n,x.r,aR x.l,dS C x.l⟩);clear r0 r1 r2 r3 r4 f0 f1 f2 f3 f4 s0 s1 s2 s3 s4 v3 HM HOC;generalize pK wr (cf w) ⟨x.nm,x.n,x.r,aR x.l,dS C x.l⟩=W at hj hbl ⊢;obtain⟨j0,j1,j2,j3,j4⟩:=hj;rw[<-HKN.o];simp only[nmV]at j0;have HBL:=hD hbl;clear hbl;refine br (.tuple #[.agg #[.string ⟨x.nm.toArray⟩,x.n,x.r,(aR x.l),(dS C x.l)],oo]) ?_;exact⟨rfl,HBL.o⟩
theorem cB.form{w:Wd}{gv:Value}{F:Fam}(h:cB w gv F):∃a n c,gv= .agg #[F.N,.slice a n c]:=by
 obtain⟨a,c,ts,h,_⟩:=h;exact⟨a,_,c,h⟩
theorem MM(F G:Fam)(e0:Int)(fv:Value)(nm:LU)(n r:Int)(w:Wd)(hF:F.ok)(h:bG w fv F)(hnm:nm.length<=maxLen)(he:aW F nm n r=(G,e0)):
  ep 166 #[fv,nmV nm,n,r] w (DK w G e0):=by
 have:=Va F fv nm n r w hF h hnm
 rwa [he]at this
theorem Si(F G:Fam)(e0:Int)(fv:Value)(nm other:LU)(w:Wd)(hF:F.ok)(hs:∀v∈F.vs,v.l.length<=9000)(h:bG w fv F)(hnm:nm.length<=maxLen)(hot:other.length<=maxLen)(he:bJ F nm other=(G,e0)):
  ep 168 #[fv,nmV nm,nmV other] w (DK w G e0):=by
 have:=Zv F fv nm other w hF hs h hnm hot
 rwa [he]at this
theorem MI(F G:Fam)(L:List E)(e0:Int)(fv:Value)(nm:LU)(w:Wd)(hF:F.ok)(hs:∀v∈F.vs,v.l.length<=9000)(h:bG w fv F)(hnm:nm.length<=maxLen)(he:aZ F nm=(G,L,e0)):
  ep 171 #[fv,nmV nm] w (tL w G L e0):=by
 have:=UW F fv nm w hF hs h hnm
 rwa [he]at this
theorem ZH(F G:Fam)(L:List E)(e0:Int)(fv:Value)(nm:LU)(x:E)(w:Wd)(hF:F.ok)(hs:∀v∈F.vs,v.l.length<=9000)(h:bG w fv F)(hnm:nm.length<=maxLen)(hx:x.wf)(he:aV F nm x=(G,L,e0)):
  ep 178 #[fv,nmV nm,.agg #[x.a,x.n,x.s]] w (tL w G L e0):=by
 have:=Vn F fv nm x w hF hs h hnm hx
 rwa [he]at this
theorem Rm(F G:Fam)(L:List E)(e0:Int)(fv:Value)(nm:LU)(p n:Int)(w:Wd)(hF:F.ok)(hs:∀v∈F.vs,v.l.length<=9000)(h:bG w fv F)(hnm:nm.length<=maxLen)(hp: -9223372036854775808<=p/\p<=9223372036854775807)(he:bS F nm p n=(G,L,e0)):
  ep 165 #[fv,nmV nm,p,n] w (tL w G L e0):=by
 have:=Vy F fv nm p n w hF hs h hnm hp
 rwa [he]at this
theorem BS(F:Fam)(im:LU)(i1 i2 i3 i4 e0:Int)(fv:Value)(nm:LU)(w:Wd)(hF:F.ok)(hs:∀v∈F.vs,v.l.length<=9000)(h:bG w fv F)(hnm:nm.length<=maxLen)(he:dW F nm=(⟨im,i1,i2,i3,i4⟩,e0)):
  ep 56 #[fv,nmV nm] w (RB w (.tuple #[.agg #[nmV im,i1,i2,i3,i4],e0])):=by
 have:=Ms F fv nm w hF hs h hnm
 rwa [he]at this
theorem JE(F:Fam)(fv:Value)(s k:Int)(w:Wd)(h:bG w fv F)(he:ofC F.C s=k):ep 160 #[fv,s] w (RB w k):=by
 subst he;exact UO F fv s w h
theorem bG.form{w:Wd}{fv:Value}{F:Fam}(h:bG w fv F):∃a c mb,fv= .agg #[.slice a F.N c,.map mb]:=by
 obtain⟨a,c,mb,h,_⟩:=h;exact⟨a,c,mb,h⟩
def na:LU:=[97]
def nb:LU:=[98]
theorem Ri.rd{w:Wd}{B:Nat}{v:Value}{l:List (LU)}(h:Ri w B v l):∃a c,v= .slice a l c/\(l=[]∨ ∃g,a=cw g 0/\ ∀k x,l[k]? =some x->w (cw g k)=some (nmV x)):=by
 rcases h.2 with ⟨rfl,hn⟩|⟨g,cap,cur,rfl,hb,hg,hn,hc,hs,ht⟩
 ·exact⟨_,_,by rw[hn],.inl (Qz hn)⟩
 ·refine⟨_,_,rfl,.inr ⟨g,rfl,λk x hk=> ?_⟩⟩;have hk':k<l.length:=(Qx.1 hk).1;rw[Ys (cap:=cap) h k oM,Yw,hk];rfl
theorem aBi{F:Fam}(hF:F.ok){v:Vol}(hv:v∈F.vs):dW F v.nm=(⟨v.nm,v.n,v.r,aR v.l,bF F.C v.l⟩,0):=by
 unfold dW;rw[rH hF.sorted hv];rfl
theorem Af(F:Fam)(im:LU)(i1 i2 i3 i4 e0:Int)(gv:Value)(nm:LU)(w:Wd)(hF:F.ok)(h:cB w gv F)(hnm:nm.length<=maxLen)(he:dW F nm=(⟨im,i1,i2,i3,i4⟩,e0)):
  ep 36 #[gv,nmV nm] w (RB w (.tuple #[.agg #[nmV im,i1,i2,i3,i4],e0])):=by
 have:=WC F gv nm w hF h hnm
 rwa [he]at this
theorem RH(F:Fam)(L:List E)(e0:Int)(fv:Value)(nm:LU)(p q:Int)(w:Wd)(hF:F.ok)(h:bG w fv F)(hn:nm.length<=maxLen)(hp: -9223372036854775808<=p/\p<=9223372036854775807)(hq: -9223372036854775808<=q/\q<=9223372036854775807)(he:dP F nm p q=(L,e0)):
  ep 74 #[fv,nmV nm,p,q] w λe w'=>∃sv,e= .returned (.tuple #[sv,e0])/\aG w' w sv L/\Below w w w':=by
 have:=Im F fv nm p q w hF h hn hp hq
 rwa [he]at this
theorem aGp(C:List Int)(k:Nat)(h:k<C.length):ofC C k=C.getD k 0:=by
 unfold ofC;rw[Qf ⟨oM,oM⟩];simp
def Dt(w:Wd)(na:OA)(l:List (LU)):Prop:=l=[]∨ ∃g,na=cw g 0/\ ∀k x,l[k]? =some x->w (cw g k)=some (nmV x)
theorem Dt.keep{w w':Wd}{na:OA}{l:List (LU)}(h:Dt w na l)(hb:Below w w w'):Dt w' na l:=
 h.imp id λ⟨g,h1,h2⟩=>⟨g,h1,λk x hk=>hb.keep (h2 k x hk)⟩
open Go.ChangeShapes Go.WideShapes Go.ChangeAt Go.Deep
section
variable{w0 W W':Wd}{T S:Nat}{u v x y u' v' x' y':Value}{F G:Fam}
end
section
variable{H:Type}{enc:TypeId × Value->H}{w:Wd}
end
theorem Ct(im:LU)(i1 i2 i3 i4:Int)(w:Wd)(h:0<=i2/\i2<=65536/\0<=i4/\i4<=65536):
  ep 224 #[.agg #[nmV im,i1,i2,i3,i4]] w (RB w (.int .i64 (max 0 (i2-i4)))):=by
 have hk:=(bQ w).aIw (cq #[nmV im,i1,i2,i3,i4] 94);go_enter func224,ntmps224;go_wp2_with fail;go_ret;exact⟨rfl,hk⟩
theorem Ce(a b:Int)(w:Wd)(v:Int)(hv:iL a b=v):
  ep 205 #[a,b] w (RB w v):=by
 have hB:=bQ w;subst hv;unfold iL;by_cases h:a>b
 ·rw[Qf h];go_enter func205,ntmps205;go_wp2_with fail;go_ret;exact⟨rfl,hB⟩
 ·rw[Qe h];go_enter func205,ntmps205;go_wp2_with fail;go_ret;exact⟨rfl,hB⟩
theorem mZ{F:Fam}{nm:LU}(h:aN F.vs nm=none):dW F nm=(⟨[],0,0,0,0⟩,9)/\gQ F nm=(0,9):=by
 unfold dW gQ;rw[h];exact⟨rfl,rfl⟩
theorem lD{F:Fam}{nm:LU}{v:Vol}(h:aN F.vs nm=some v):dW F nm=(⟨v.nm,v.n,v.r,aR v.l,bF F.C v.l⟩,0)/\gQ F nm=(max 0 (v.r-bF F.C v.l),0):=by
 unfold dW gQ;rw[h];exact⟨rfl,rfl⟩
theorem Bq{F:Fam}(hF:F.ok){v:Vol}(hv:v∈F.vs):0<=bF F.C v.l/\bF F.C v.l<=65536:=by
 have h1:=iX (λi=>oC v.l i&&bN F.C i) F.C.length;have h2:=hF.hN;rw[F.aIz]at h1;unfold bF;rw[F.aIz];omega
theorem EE{F:Fam}(hF:F.ok)(nm:LU):∃im i1 i2 i3 i4 e0,dW F nm=(⟨im,i1,i2,i3,i4⟩,e0)/\gQ F nm=(max 0 (i2-i4),e0)/\0<=i2/\i2<=65536/\0<=i4/\i4<=65536:=by
 cases hg:aN F.vs nm with
 |none=>exact⟨[],0,0,0,0,9,(mZ hg).1,(mZ hg).2,oM⟩
 | some v=>
  have hm:=(aC hg).1;have hv:=hF.vol v hm;have h1:=Bq hF hm;have h2:=hv.r1;have h4:=hv.r0;have h5:=hv.n2;have h3:=hv.n1;exact⟨v.nm,v.n,v.r,_,_,0,(lD hg).1,(lD hg).2,oM,oM,h1.1,h1.2⟩
theorem Gu(F:Fam)(k e0:Int)(fv:Value)(nm:LU)(w:Wd)(hF:F.ok)(hs:∀v∈F.vs,v.l.length<=9000)(h:bG w fv F)(hnm:nm.length<=maxLen)(he:gQ F nm=(k,e0)):
  ep 204 #[fv,nmV nm] w (RB w (.tuple #[k,e0])):=by
 obtain⟨im,i1,i2,i3,i4,e1,hi,hc,hi2⟩:=EE hF nm;rw[hc]at he;obtain⟨rfl,rfl⟩:=Prod.mk.inj he;obtain⟨a,c,mb,rfl⟩:=h.form;have hb:=(bQ w).aIw (cq #[.slice a F.N c,.map mb] 121);have HI:=hD (BS F im i1 i2 i3 i4 e1 _ nm _ hF hs (h.keep hb) hnm hi);have HB:=hD hb;have HI2:=hD hi2;clear he hc hi hi2 hb h hs hF;go_enter func204,ntmps204;go_wp2_with fail;refine HI.o.m ?_;rintro e w1 ⟨rfl,hb⟩;have HB1:=hD (HB.o.on hb);clear hb;go_wp2_with fail;refine(Ct im i1 i2 i3 i4 _ (by have:=HI2.o;omega)).m ?_;rintro e w2 ⟨rfl,hb⟩;have HB2:=hD ((HB1.o.aIw _).on hb);clear hb;go_wp2_with fail;go_ret2;exact⟨rfl,HB2.o⟩
structure CM(w W:Wd)(u v:Value)(F:Fam)(s:Int):Prop where
 b0:W (cw w 0)=some u
 b1:W (cw w 1)=some v
 t:W (cw (cf w) 0)=s
 f:W.frozen? (cw (cf w) 0)=false
 fam:bG W (.agg #[u,v]) F
 B:Below w w W
theorem CM.aIx{w W W':Wd}{u v:Value}{F:Fam}{s:Int}(h:CM w W u v F s)(hb:Below W W W'):CM w W' u v F s:=
 ⟨hb.keep h.b0,hb.keep h.b1,hb.keep h.t,hb.aJc h.t h.f,h.fam.keep hb,h.B.on hb⟩
theorem CM.put{w W:Wd}{u v:Value}{F:Fam}{s:Int}(h:CM w W u v F s)(hf:bG w (.agg #[u,v]) F)(k:Int):CM w (W.setCell (cw (cf w) 0) k) u v F k:=by
 have hB:=h.B.setCell (p:=(cw (cf w) 0)) sO k;refine⟨(cell_far (Nat.ne_of_lt (Nat.lt_succ_self _))).trans h.b0,(cell_far (Nat.ne_of_lt (Nat.lt_succ_self _))).trans h.b1,Qi _ _ _ h.t,by rw[Qb];exact h.f,hf.keep hB,hB⟩
theorem CM.init(w:Wd)(u v:Value)(F:Fam)(hf:bG w (.agg #[u,v]) F):CM w ((w.alloc (cq #[u,v] 121)).alloc (cq #[oo] 3)) u v F 0:=by
 have hB:=((bQ w).aIw (cq #[u,v] 121)).aIw (cq #[oo] 3);have e:(w.alloc (cq #[u,v] 121)).heap.size=w.heap.size+1:=by simp
 refine⟨(bR.aIw _).keep sM,(bR.aIw _).keep sM,?_,?_,hf.keep hB,hB⟩
 ·rw[<-e,World.cell?_alloc_new];rfl
 ·rw[<-e];simp
def aCz(w W:Wd)(u v:Value)(F:Fam)(s:Int)(na:OA)(l:List (LU))(e:Ending)(W':Wd):Prop:=e= .returned (.tuple #[])/\CM w W' u v F s/\Dt W' na l
theorem Dt.put{W:Wd}{na:OA}{l:List (LU)}(h:Dt W na l){T:Nat}{s:Int}(ht:W (cw T 0)=s)(k:Value):Dt (W.setCell (cw T 0) k) na l:=by
 refine h.imp id λ⟨g,h1,h2⟩=>⟨g,h1,λj x hj=> ?_⟩;by_cases hg:g=T
 ·subst hg
  cases l with
  |nil=>simp at hj
  | cons y r=>
   have:=h2 0 y rfl;rw[ht]at this;cases this
 ·exact(cell_far hg).trans (h2 j x hj)
theorem aAf(F:Fam)(k e0 s q:Int)(u v:Value)(nm:LU)(w W:Wd)(na:OA)(l:List (LU))(hF:F.ok)(hs:∀v∈F.vs,v.l.length<=9000)(hf:bG w (.agg #[u,v]) F)(h:CM w W u v F s)(hn:Dt W na l)(hnm:nm.length<=maxLen)(he:gQ F nm=(k,e0))(hk:0<=k/\k<=65536)(hq:0<=s/\s<=1000000000)(hq2:s+k=q):
  ep 229 #[nmV nm,.pointer (cw w 0),.pointer (cw (cf w) 0)] W (aCz w W u v F q na l):=by
 have HH:=hD h;have HN:=hD hn;have HF:=hD hf;have b0:=h.b0;have b1:=h.b1;have HI:=hD (Gu F k e0 _ nm _ hF hs h.fam hnm he);have HQ:=hD hq2;clear h hn hF hs hf he hq2;obtain⟨a,c,mb,hfv⟩:=HF.o.form;obtain⟨rfl,rfl⟩:u= .slice a F.N c/\v= .map mb:=by simpa using hfv
 clear hfv;go_enter func229,ntmps229;go_wp2_with fail;refine HI.o.m ?_;rintro e w1 ⟨rfl,hb⟩;have HH:=hD (HH.o.aIx hb);have HN:=hD (HN.o.keep hb);clear hb b0 b1;have t0:=HH.o.t;have f0:=HH.o.f;go_wp2_with fail;rw[HQ.o]
 go_end0
 exact⟨rfl,HH.o.put HF.o _,HN.o.put HH.o.t _⟩
theorem Iz{F:Fam}(hF:F.ok){v:Vol}(hv:v∈F.vs):gQ F v.nm=(aY F.C v,0):=by
 unfold gQ;rw[rH hF.sorted hv]
theorem xP{F:Fam}(hF:F.ok){v:Vol}(hv:v∈F.vs):0<=aY F.C v/\aY F.C v<=65536:=by
 have h1:=hF.vol v hv;have h2:=h1.r0;have h3:=h1.r1;have h4:=h1.n2;have h5:=Ve F.C v h2;omega
def rR(C:List Int)(vs:List Vol):Int:=(vs.map (aY C)).sum
theorem Gx(C:List Int)(vs:List Vol)(k:Nat)(h:k<vs.length):rR C (vs.take (k+1))=rR C (vs.take k)+aY C vs[k]:=by
 unfold rR;rw[Qh h,Yz,List.sum_append];simp
theorem aAg{C:List Int}{vs:List Vol}(h:∀v∈vs,0<=aY C v/\aY C v<=65536):0<=rR C vs/\rR C vs<=65536*vs.length:=by
 induction vs with
 |nil=>simp[rR]
 | cons x r ih=>
  have h1:=ih λv hv=>h v (by simp[hv]);have h2:=h x sM;unfold rR at h1 ⊢;simp only[List.map_cons,List.sum_cons,List.length_cons];omega
theorem tH{F:Fam}(hF:F.ok)(k:Nat):0<=rR F.C (F.vs.take k)/\rR F.C (F.vs.take k)<=2097152:=by
 have h1:=aAg (C:=F.C) (vs:=F.vs.take k) λv hv=>xP hF (List.mem_of_mem_take hv);have h2:=hF.few;have h3:(F.vs.take k).length<=F.vs.length:=by rw[Yp];omega
 omega
theorem NI(F:Fam)(q:Int)(fv:Value)(w:Wd)(hF:F.ok)(hs:∀v∈F.vs,v.l.length<=9000)(h:bG w fv F)(hq:iC F=q):
  ep 184 #[fv] w (RB w q):=by
 obtain⟨fa,fc,fm,rfl⟩:=h.form;have HH:=hD (CM.init w _ _ F h);have HF:=hD hF;have HS:=hD hs;have HW:=hD h;have HQ:=hD hq;have h32:=hF.few;clear hF hs h hq;go_enter func184,ntmps184;go_wp2_with fail;have b0:=HH.o.b0;have b1:=HH.o.b1;refine(Io F _ _ HF.o HH.o.fam).m ?_;rintro e w1 ⟨nv,rfl,hns,hb⟩;obtain⟨na,nc,rfl,hnr⟩:=hns.rd;rw[Yy];have HNR:Hid (Dt w1 na (F.vs.map (·.nm))):=hD hnr;have HH:=hD (HH.o.aIx hb);clear hnr hns hb b0 b1;go_wp2_with fail;go_loopw [11] (λi wr=>∃k:Nat,k<=F.vs.length/\i= .int .i64 k/\CM w wr (.slice fa F.N fc) (.map fm) F (rR F.C (F.vs.take k))/\Dt wr na (F.vs.map (·.nm))) (λi _=>F.vs.length-(intOf i).toNat)
 case atStart=>exact⟨0,Yf _,rfl,HH.o,HNR.o⟩
 case round=>
  obtain⟨k,hk,rfl,hc,hn⟩:=hrel;have HC:=hD hc;have HN:=hD hn;clear hc hn;by_cases hlt:k<F.vs.length
  ·have hn:=HN.o;have hge:(F.vs.map (·.nm))[k]? =some F.vs[k].nm:=by
    rw[Yw,Qa hlt];rfl
   obtain⟨g,hna,hnm⟩:=hn.resolve_left (λe=>by rw[e]at hge;simp at hge);subst hna;have hnc:=hnm k _ hge;have hmem:=Qm hlt;have HT:=hD (Gx F.C F.vs k hlt);have HCL:=hD (Iz HF.o hmem);have HLE:=hD (xP HF.o hmem);have HNL:Hid (F.vs[k].nm.length<=maxLen):=hD (pU (HF.o.vol _ hmem).name);have HSB:=hD (tH HF.o k);have hk0:(0:Int)<=k:=oM
   have hk1:(k:Int)<F.vs.length:=oM
   clear hmem hge hnm hn;generalize F.vs[k].nm=nm at *;generalize aY F.C F.vs[k]=cv at *;generalize rR F.C (F.vs.take k)=sm at *;go_wp2_with fail;refine(aAf F cv 0 sm _ _ _ nm w _ _ _ HF.o HS.o HW.o HC.o HN.o HNL.o HCL.o HLE.o ⟨HSB.o.1,by have:=HSB.o.2;omega⟩ HT.o.symm).m ?_;rintro e w2 ⟨rfl,hc,hn⟩;have HC2:=hD hc;have HN2:=hD hn;clear hnc hc hn;go_wp2_with fail;go_roundw
   case rel=>exact⟨k+1,oM,by go_num,HC2.o,HN2.o⟩
   case measure=>simp[intOf];omega
  ·obtain rfl:k=F.vs.length:=oM
   have hc:=HC.o;rw[List.take_length]at hc;have t0:=hc.t;have e:rR F.C F.vs=q:=HQ.o;rw[e]at t0;have hB:=hc.B;clear hc e;go_wp2_with fail;go_ret;exact⟨rfl,hB⟩
theorem XQ(l:List E)(M:Int)(h:∀x∈l,0<=x.n/\x.n<=M):0<=aR l/\aR l<=M*l.length:=by
 induction l with
 |nil=>simp[aR]
 | cons x r ih=>
  have h1:=ih λy hy=>h y (by simp[hy]);have h2:=h x sM;rw[sN,List.length_cons,show((r.length+1:Nat):Int)=r.length+1 by omega,Int.mul_add];omega
theorem UF(C:List Int)(k:Nat):0<=aR ((iY C).take k)/\aR ((iY C).take k)<=4294967296:=by
 have h1:=XQ ((iY C).take k) 65536 λx hx=>by
  have:=(aB x).1 ((dX (picks (bH C) C.length)).1.1 x (List.mem_of_mem_take hx)).2;omega
 have h2:=oH C;have h3:((iY C).take k).length<=(iY C).length:=by rw[Yp];omega
 omega
theorem Ae{F:Fam}(hF:F.ok): -2097152<=dC F/\dC F<=65536:=by
 have h1:=iX (bH F.C) F.N;have h2:=hF.hN;have h3:=tH hF F.vs.length;rw[List.take_length]at h3;have h4:iC F=rR F.C F.vs:=rfl;unfold dC jD;omega
structure RM(w W:Wd)(u v:Value)(F:Fam):Prop where
 b0:W (cw w 0)=some u
 b1:W (cw w 1)=some v
 fam:bG W (.agg #[u,v]) F
 B:Below w w W
theorem RM.aIx{w W W':Wd}{u v:Value}{F:Fam}(h:RM w W u v F)(hb:Below W W W'):RM w W' u v F:=
 ⟨hb.keep h.b0,hb.keep h.b1,h.fam.keep hb,h.B.on hb⟩
theorem RM.init(w:Wd)(u v:Value)(F:Fam)(hf:bG w (.agg #[u,v]) F):RM w (w.alloc (cq #[u,v] 121)) u v F:=by
 have hB:=(bQ w).aIw (cq #[u,v] 121);exact⟨sM,sM,hf.keep hB,hB⟩
theorem zS(F:Fam)(q:Int)(fv:Value)(w:Wd)(hF:F.ok)(hs:∀v∈F.vs,v.l.length<=9000)(h:bG w fv F)(hq:dC F=q):
  ep 120 #[fv] w (RB w q):=by
 obtain⟨fa,fc,fm,rfl⟩:=h.form;have HH:=hD (RM.init w _ _ F h);have HF:=hD hF;have HS:=hD hs;have hc1:=tH hF F.vs.length;rw[List.take_length]at hc1;have HQ:Hid (aR (iY F.C)-rR F.C F.vs=q):=hD (by rw[YT hF];exact hq);have HCS:Hid (iC F=rR F.C F.vs):=hD rfl;clear hF hs h hq;generalize rR F.C F.vs=cs at *;go_enter func120,ntmps120;go_wp2_with fail;have b0:=HH.o.b0;have b1:=HH.o.b1;refine(NI F cs _ _ HF.o HS.o HH.o.fam HCS.o).m ?_;rintro e w1 ⟨rfl,hb⟩;have HH:=hD (HH.o.aIx hb);clear hb b0 b1;have b0:=HH.o.b0;have b1:=HH.o.b1;go_wp2_with fail;refine(Mx F _ _ HH.o.fam).m ?_;rintro e w2 ⟨sv,rfl,ho,hb⟩;have hfl:=oH F.C;obtain⟨za,zc,rfl,hz⟩:=ho.rd oM;have HZ:=hD hz;have HP:=hD (UF F.C);have HB:=hD (HH.o.B.on hb);clear ho hb b0 b1 hz HH HF HS;generalize iY F.C=Z at *;go_wp2_with fail;go_loopw [3,12] (λv i wr=>∃k:Nat,k<=Z.length/\i= .int .i64 k/\v= .int .i64 (-cs+aR (Z.take k))/\Below w2 w2 wr) (λ_ i _=>Z.length-(intOf i).toNat)
 case atStart=>exact⟨0,Yf _,rfl,by simp[aR],bR⟩
 case round=>
  obtain⟨k,hk,rfl,rfl,hB⟩:=hrel;by_cases hlt:k<Z.length
  ·obtain⟨b,o,rfl,hat⟩:=(HZ.o.keep hB).at oM;obtain⟨h1,h2,h3⟩:=hat k _ (Qa hlt);have HT:=hD (BP Z k hlt);have q1:=HP.o k;have q2:=HP.o (k+1);rw[HT.o]at q2;have hk0:(0:Int)<=k:=oM
   have hk1:(k:Int)<Z.length:=oM
   generalize Z[k]=x at *;generalize aR (Z.take k)=sm at *;obtain⟨xa,xn,xs⟩:=x;simp only at h1 h2 h3 q2;have HBK:=hD (hB.aIw (cq #[xa,xn,xs] 128));clear hat hB;go_wp2_with fail;go_roundw
   case rel=>exact⟨k+1,oM,by go_num,by rw[HT.o];simp[Int.add_assoc],HBK.o⟩
   case measure=>simp[intOf];omega
  ·obtain rfl:k=Z.length:=oM
   rw[List.take_length];have e: -cs+aR Z=q:=by have:=HQ.o;omega
   rw[e];have hR:=HB.o.on hB;clear hB e;go_wp2_with fail;go_ret;exact⟨rfl,hR⟩
theorem Er(n r:Int):(BF n r=true/\1<=n/\n<=65536/\0<=r/\r<=n)∨(BF n r=false/\(n<1∨(1<=n/\(65536<n∨(n<=65536/\(r<0∨(0<=r/\n<r))))))):=by
 unfold BF;by_cases h:1<=n/\n<=65536/\0<=r/\r<=n
 ·exact .inl ⟨by simp[h],h⟩
 ·exact .inr ⟨by simpa using h,oM⟩
theorem NH(F:Fam)(q:Int)(fv:Value)(n r:Int)(w:Wd)(hF:F.ok)(hs:∀v∈F.vs,v.l.length<=9000)(h:bG w fv F)(hq:fG F n r=q):
  ep 167 #[fv,n,r] w (RB w q):=by
 obtain⟨fa,fc,fm,rfl⟩:=h.form;have HH:=hD (RM.init w _ _ F h);have HF:=hD hF;have HS:=hD hs;clear hF hs h;rcases Er n r with ⟨hn,hn2⟩|⟨hn,hn2⟩
 ·have HQ:Hid (iL r (dC F)=q):=hD (by rw[<-hq];unfold fG;rw[hn,Qe sM]);clear hn hq;go_enter func167,ntmps167;have b0:=HH.o.b0;have b1:=HH.o.b1;go_wp2_with fail;refine(zS F _ _ _ HF.o HS.o HH.o.fam rfl).m ?_;rintro e w1 ⟨rfl,hb⟩;have HB:=hD (HH.o.B.on hb);clear hb b0 b1;generalize dC F=rm at *;go_wp2_with fail;refine(Ce _ _ _ _ HQ.o).m ?_;rintro e w2 ⟨rfl,hb⟩;have hR:=HB.o.on hb;clear hb;go_wp2_with fail;go_ret;exact⟨rfl,hR⟩
 ·have hq2:(1:Int)=q:=by rw[<-hq];unfold fG;rw[hn,Qf rfl]
  subst hq2;have hB:=HH.o.B;clear hn hq HH;rcases hn2 with h1|⟨h1,h2|⟨h2,h3|⟨h3,h4⟩⟩⟩
  all_goals
   go_enter func167,ntmps167;go_wp2_with fail;go_ret;exact⟨rfl,hB⟩
theorem Fv{F:Fam}(hF:F.ok)(nm:LU):(dW F nm=(⟨[],0,0,0,0⟩,9)/\eD F nm=9)∨ ∃im i1 i2 i3 i4,dW F nm=(⟨im,i1,i2,i3,i4⟩,0)/\eD F nm=iL (i2-max 0 (i2-i4)) (dC F)/\0<=i2/\i2<=65536/\0<=i4/\i4<=65536:=by
 cases hg:aN F.vs nm with
 |none=>exact .inl ⟨(mZ hg).1,by unfold eD;rw[hg]⟩
 | some v=>
  have hm:=(aC hg).1;have hv:=hF.vol v hm;have h1:=Bq hF hm;have h2:=hv.r1;have h4:=hv.r0;have h5:=hv.n2;exact .inr ⟨v.nm,v.n,v.r,_,_,(lD hg).1,by unfold eD;rw[hg];rfl,h4,oM,h1.1,h1.2⟩
theorem VE(im:LU)(i1 i2 i3 i4 m:Int)(w:Wd)(h:0<=i2/\i2<=65536/\0<=i4/\i4<=65536)(hm:max 0 (i2-i4)=m):
  ep 224 #[.agg #[nmV im,i1,i2,i3,i4]] w (RB w m):=by
 subst hm;exact Ct im i1 i2 i3 i4 w h
theorem SY(F:Fam)(q:Int)(fv:Value)(nm:LU)(w:Wd)(hF:F.ok)(hs:∀v∈F.vs,v.l.length<=9000)(h:bG w fv F)(hnm:nm.length<=maxLen)(hq:eD F nm=q):
  ep 169 #[fv,nmV nm] w (RB w q):=by
 obtain⟨fa,fc,fm,rfl⟩:=h.form;have HH:=hD (RM.init w _ _ F h);have HF:=hD hF;have HS:=hD hs;clear hs h;rcases Fv hF nm with ⟨hi,hc⟩|⟨im,i1,i2,i3,i4,hi,hc,hb⟩
 ·have hq2:(9:Int)=q:=by rw[<-hq,hc]
  subst hq2;have HI:=hD hi;clear hi hc hq hF;go_enter func169,ntmps169;have b0:=HH.o.b0;have b1:=HH.o.b1;go_wp2_with fail;refine(BS F [] 0 0 0 0 9 _ nm _ HF.o HS.o HH.o.fam hnm HI.o).m ?_;exact aEf
 ·have HQ:Hid (iL (i2-max 0 (i2-i4)) (dC F)=q):=hD (by rw[<-hq,hc]);have HI:=hD hi;have HB:=hD hb;have HRB:=hD (Ae hF);clear hi hc hq hF hb;go_enter func169,ntmps169;have b0:=HH.o.b0;have b1:=HH.o.b1;go_wp2_with fail;refine(BS F im i1 i2 i3 i4 0 _ nm _ HF.o HS.o HH.o.fam hnm HI.o).m ?_;rintro e w1 ⟨rfl,hb⟩;have hk:=hb.aIw (cq #[nmV im,i1,i2,i3,i4] 94);have HH:=hD (HH.o.aIx hk);have HT:=hD (IT.new w1 _ rfl ⟨im,i1,i2,i3,i4⟩ 94);clear hb hk b0 b1;go_upto_region 4 with fail;generalize w1.alloc (cq #[nmV im,i1,i2,i3,i4] 94)=W at *;generalize w1.heap.size=T at *;obtain⟨rm,hr⟩:∃rm,dC F=rm:=⟨_,rfl⟩;rw[hr]at HQ HRB;have HR:=hD hr;clear hr;have hmx:0<=max 0 (i2-i4)/\max 0 (i2-i4)<=65536:=by have:=HB.o;omega
  obtain⟨hb1,hb2,_,_⟩:=HB.o;obtain⟨mx,hr⟩:∃mx,max 0 (i2-i4)=mx:=⟨_,rfl⟩;rw[hr]at HQ hmx;obtain⟨hm1,hm2⟩:=hmx;have HMX:=hD hr;clear hr;have b0:=HH.o.b0;have b1:=HH.o.b1;have t0:=HT.o.t0;have t1:=HT.o.t1;have t2:=HT.o.t2;have t3:=HT.o.t3;have t4:=HT.o.t4;refine wpr ?_
  repeat(go_big_quiet_step ((first|(go_at_call 224;exact Calls.aJb (VE im i1 i2 i3 i4 mx _ HB.o HMX.o))|(go_at_call 120;exact Calls.aJb (zS F rm _ _ HF.o HS.o (HH.o.fam.keep (World.aIy _ _)) HR.o))|(go_at_call 205;exact Calls.aJb (Ce _ _ _ q HQ.o)))))
  refine wqn λnq=> ?_;have hB:=HH.o.B.on (World.aIy W nq);clear b0 b1 t0 t1 t2 t3 t4;go_wp2_with fail;go_ret;exact⟨rfl,hB⟩
theorem Es{F:Fam}(hF:F.ok)(hs:∀v∈F.vs,v.l.length<=9000)(nm:LU)(p n:Int):(∃e0,e0≠0/\dP F nm p n=([],e0)/\jP F nm p n=(0,e0))∨
  ∃L,dP F nm p n=(L,0)/\jP F nm p n=(n-dS F.C L,0)/\0<=n/\n<=65536/\aQ F.N L=true/\L.length<=65536:=by
 rcases CE F nm p n with ⟨hg,hc⟩|⟨v,hg,⟨hn,hc⟩|⟨hn,hc⟩⟩
 ·exact .inl ⟨9,dE,hc,by unfold jP;rw[hc];rfl⟩
 ·exact .inl ⟨2,dE,hc,by unfold jP;rw[hc];rfl⟩
 ·have hm:=(aC hg).1;have hv:=hF.vol v hm;have h1:=(iK _ _ _).1 hn;have h2:=hv.n2;have h3:=(mV v.l p n (aL hv.valid)).1;have h4:=hv.short.1;exact .inr ⟨inL v.l p n,hc,by unfold jP;rw[hc];rfl,oM,oM,Dw p n hv.perm,oM⟩
theorem zT(F:Fam)(k e0:Int)(fv:Value)(nm:LU)(p n:Int)(w:Wd)(hF:F.ok)(hs:∀v∈F.vs,v.l.length<=9000)(h:bG w fv F)(hnm:nm.length<=maxLen)(hp: -9223372036854775808<=p/\p<=9223372036854775807)(hn: -9223372036854775808<=n/\n<=9223372036854775807)(hq:jP F nm p n=(k,e0)):
  ep 154 #[fv,nmV nm,p,n] w (RB w (.tuple #[k,e0])):=by
 obtain⟨fa,fc,fm,rfl⟩:=h.form;have HH:=hD (RM.init w _ _ F h);have HF:=hD hF;have HS:=hD hs;clear h;rcases Es hF hs nm p n with ⟨e1,he,hr,hc⟩|⟨L,hr,hc,hn1,hn2,hpm,hlen⟩
 ·rw[hc]at hq;obtain⟨rfl,rfl⟩:=Prod.mk.inj hq;have HR:=hD hr;clear hc hq hr hF hs;go_enter func154,ntmps154;have b0:=HH.o.b0;have b1:=HH.o.b1;go_wp2_with fail;refine(RH F [] e1 _ nm p n _ HF.o HH.o.fam hnm hp hn HR.o).m ?_;exact aEg
 ·rw [hc]at hq;obtain⟨hk,rfl⟩:=Prod.mk.inj hq;have HR:=hD hr;have HK:=hD hk;have HC9:=hD F.aIz;have HN9:=hD hF.hN;have HPM:=hD ((aP _ _).1 hpm);have HETK:=hD (zI F.C L);have HBD:Hid (∀k,0<=dS F.C (L.take k)/\dS F.C (L.take k)<=65536*65536):=hD λk=>by
   have h1:=AU F.C (L.take k) 65536 (λy hy=>by
    have h2:=(aP _ _).1 hpm y (List.mem_of_mem_take hy);have h3:=hF.hN
    omega)
   have h4:=List.length_take_le' k L;omega
  clear hc hq hr hk hpm hF hs;go_enter func154,ntmps154;have b0:=HH.o.b0;have b1:=HH.o.b1;go_wp2_with fail;refine(RH F L 0 _ nm p n _ HF.o HH.o.fam hnm hp hn HR.o).m ?_;rintro e w1 ⟨sv,rfl,ho,hb⟩;obtain⟨sa,sc,rfl,hl⟩:=ho.rd oM;have HL:=hD hl;have HH1:=hD (HH.o.aIx hb);clear hb ho hl b0 b1 HH;go_wp2_with fail;go_loopw [3,28] (λv i wr=>∃k:Nat,k<=L.length/\i= .int .i64 k/\v= .int .i64 (n-dS F.C (L.take k))/\Below w1 w1 wr) (λ_ i _=>L.length-(intOf i).toNat)
  case atStart=>exact⟨0,Yf _,rfl,by simp[dS],bR⟩
  case round=>
   obtain⟨k,hk,rfl,rfl,hB⟩:=hrel;by_cases hlt:k<L.length
   ·obtain ⟨b,o,rfl,hat⟩:=(HL.o.keep hB).at oM;obtain⟨h1,h2,h3⟩:=hat k _ (Qa hlt);have HT:=hD (HETK.o k hlt);obtain⟨y1,y2,y3⟩:=HPM.o _ (Qm hlt);obtain⟨d1,d2⟩:=HBD.o k;have hk0:(0:Int)<=k:=oM
    have hk1:(k:Int)<L.length:=oM
    generalize L[k]=x at *;obtain⟨xa,xn,xs⟩:=x;simp only at h1 h2 h3 y1 y2 y3;obtain⟨s0,rfl⟩:=Qr y2;obtain⟨n0,rfl⟩:=Qr (show 0<=xn by omega);have HOX:Hid (dS F.C (L.take (k+1))=dS F.C (L.take k)+aK (λj=>bN F.C (s0+j)) n0):=hD (by rw[HT.o];rfl);generalize dS F.C (L.take k)=ex at *;have hBK:=hB.aIw (cq #[xa,n0,s0] 128);have HBK:=hD hBK;have HH2:=hD (HH1.o.aIx hBK);have hx1:(wr.alloc (cq #[xa,n0,s0] 128)).cell? (cw wr.heap.size 1)=n0:=by simp
    have hx2:(wr.alloc (cq #[xa,n0,s0] 128)).cell? (cw wr.heap.size 2)=s0:=by simp
    have HX1:=hD hx1;have HX2:=hD hx2;have hsn:s0+n0<=F.N:=oM
    have hN9:F.N<=65536:=HN9.o;clear hat hB hBK HT;go_wp2_with fail;clear h1 h2 h3 hx1 hx2;generalize wr.alloc (cq #[xa,n0,s0] 128)=W2 at *;generalize wr.heap.size=X at *;go_loopw [3,14] (λv t wi=>∃p:Nat,p<=n0/\t= .int .i64 ((s0:Int)+p)/\v= .int .i64 (n-ex-aK (λj=>bN F.C (s0+j)) p)/\Below W2 W2 wi) (λ_ t _=>(s0+n0)-(intOf t).toNat)
    case atStart=>exact⟨0,Yf _,sM,by simp[aK],bR⟩
    case round=>
     obtain⟨p,hp,rfl,rfl,hBi⟩:=hrel;have x1:=hBi.keep HX1.o;have x2:=hBi.keep HX2.o;have a1:=iX (λj=>bN F.C (s0+j)) p;by_cases hpn:p<n0
     ·have HM:=hD (HH2.o.aIx hBi);have HBI:=hD hBi;have b0:=HM.o.b0;have b1:=HM.o.b1;have HOF:Hid (ofC F.C ((s0:Int)+p)=F.C.getD (s0+p) 0):=hD (by
       have:=aGp F.C (s0+p) (by rw[HC9.o];omega)
       rwa [show((s0+p:Nat):Int)=(s0:Int)+p by omega]at this)
      have HA:Hid (aK (λj=>bN F.C (s0+j)) (p+1)=aK (λj=>bN F.C (s0+j)) p+(if F.C.getD (s0+p) 0=1 then 1 else 0)):=hD (by simp[aK,bN]);generalize F.C.getD (s0+p) 0=cv at *;generalize aK (λj=>bN F.C (s0+j)) p=ar at *;clear hBi;by_cases hc:cv=1
      ·subst hc;go_wp2_with fail;refine(JE F _ _ 1 _ HM.o.fam HOF.o).m ?_;rintro e w3 ⟨rfl,hb⟩;have HBE:=hD (HBI.o.on hb);clear hb b0 b1 x1 x2;go_wp2_with fail;go_roundw
       case rel=>exact⟨p+1,oM,by go_num,by rw[HA.o,Qf trivial];congr 1;omega,HBE.o⟩
       case measure=>simp[intOf];omega
      ·have hcf:(cv==1)=false:=by simpa using hc
       rw[Qe hc]at HA;clear hc;go_wp2_with fail;refine(JE F _ _ cv _ HM.o.fam HOF.o).m ?_;rintro e w3 ⟨rfl,hb⟩;have HBE:=hD (HBI.o.on hb);clear hb b0 b1 x1 x2;go_wp2_with fail;go_roundw
       case rel=>exact⟨p+1,oM,by go_num,by rw[HA.o];rfl,HBE.o⟩
       case measure=>simp[intOf];omega
     ·obtain rfl:p=n0:=oM
      have HBE:=hD (HBK.o.on hBi);clear hBi;go_wp2_with fail;go_roundw
      case rel=>exact⟨k+1,oM,by go_num,by rw[HOX.o];congr 1;omega,HBE.o⟩
      case measure=>simp[intOf];omega
   ·obtain rfl:k=L.length:=oM
    rw[List.take_length];rw[HK.o];have hR:=HH1.o.B.on hB;clear hB;go_wp2_with fail;go_ret2;exact⟨rfl,hR⟩
theorem IA{F:Fam}(hF:F.ok)(nm:LU):0<=(gQ F nm).1/\(gQ F nm).1<=65536:=by
 obtain⟨im,i1,i2,i3,i4,e0,_,hc,h⟩:=EE hF nm;rw[hc];simp only;omega
theorem Gt(F:Fam)(q:Int)(fv:Value)(nm:LU)(p n:Int)(w:Wd)(hF:F.ok)(hs:∀v∈F.vs,v.l.length<=9000)(h:bG w fv F)(hnm:nm.length<=maxLen)(hp: -9223372036854775808<=p/\p<=9223372036854775807)(hn: -9223372036854775808<=n/\n<=9223372036854775807)(hq:fM F nm p n=q):
  ep 155 #[fv,nmV nm,p,n] w (RB w q):=by
 obtain⟨fa,fc,fm,rfl⟩:=h.form;have HH:=hD (RM.init w _ _ F h);have HF:=hD hF;have HS:=hD hs;have HCB:=hD (IA hF nm);have HRB:=hD (Ae hF);unfold fM at hq;obtain⟨nd,hnd⟩:∃nd,jP F nm p n=nd:=⟨_,rfl⟩;obtain⟨nk,e0⟩:=nd;rw[hnd]at hq;simp only at hq;have HN:=hD hnd;clear h hnd hF hs;by_cases he:e0=0
 ·subst he;rw[Qf rfl]at hq;obtain⟨ck,hck⟩:∃ck,gQ F nm=ck:=⟨_,rfl⟩;obtain⟨cv,ce⟩:=ck;rw[hck]at hq HCB;obtain⟨rm,hrm⟩:∃rm,dC F=rm:=⟨_,rfl⟩;rw[hrm]at hq HRB;have HC:=hD hck;have HR:=hD hrm;have HQ:=hD hq;obtain⟨c1,c2⟩:=HCB.o;obtain⟨r1,r2⟩:=HRB.o;simp only at c1 c2;clear hck hrm hq;go_enter func155,ntmps155;have b0:=HH.o.b0;have b1:=HH.o.b1;go_wp2_with fail;refine(zT F nk 0 _ nm p n _ HF.o HS.o HH.o.fam hnm hp hn HN.o).m ?_;rintro e w1 ⟨rfl,hb⟩;have HH:=hD (HH.o.aIx hb);clear hb b0 b1;have b0:=HH.o.b0;have b1:=HH.o.b1;go_wp2_with fail;refine(Gu F cv ce _ nm _ HF.o HS.o HH.o.fam hnm HC.o).m ?_;rintro e w2 ⟨rfl,hb⟩;have HH:=hD (HH.o.aIx hb);clear hb b0 b1;have b0:=HH.o.b0;have b1:=HH.o.b1;go_wp2_with fail;refine(zS F rm _ _ HF.o HS.o HH.o.fam HR.o).m ?_;rintro e w3 ⟨rfl,hb⟩;have HH:=hD (HH.o.aIx hb);clear hb b0 b1;go_wp2_with fail;refine(Ce _ _ _ q HQ.o).m ?_;rintro e w4 ⟨rfl,hb⟩;have hB:=HH.o.B.on hb;clear hb;go_wp2_with fail;go_ret;exact⟨rfl,hB⟩
 ·rw[Qe he]at hq;subst hq;have hz:(e0==0)=false:=by simpa using he
  clear he;go_enter func155,ntmps155;have b0:=HH.o.b0;have b1:=HH.o.b1;go_wp2_with fail;refine(zT F nk e0 _ nm p n _ HF.o HS.o HH.o.fam hnm hp hn HN.o).m ?_;exact aEe
structure QM(w W:Wd)(u v:Value)(F:Fam):Prop where
 b0:W (cw w 0)=some u
 b1:W (cw w 1)=some v
 fam:cB W (.agg #[u,v]) F
 B:Below w w W
theorem QM.aIx{w W W':Wd}{u v:Value}{F:Fam}(h:QM w W u v F)(hb:Below W W W'):QM w W' u v F:=
 ⟨hb.keep h.b0,hb.keep h.b1,h.fam.keep hb,h.B.on hb⟩
theorem QM.init(w:Wd)(u v:Value)(F:Fam)(hf:cB w (.agg #[u,v]) F):QM w (w.alloc (cq #[u,v] 28)) u v F:=by
 have hB:=(bQ w).aIw (cq #[u,v] 28);exact⟨sM,sM,hf.keep hB,hB⟩
theorem Md{F:Fam}(hF:F.ok)(nm:LU):(∃e0,e0≠0/\dW F nm=(⟨[],0,0,0,0⟩,e0)/\gQ F nm=(0,e0))∨ ∃im i1 i2 i3 i4,dW F nm=(⟨im,i1,i2,i3,i4⟩,0)/\gQ F nm=(max 0 (i2-i4),0)/\0<=i2/\i2<=65536/\0<=i4/\i4<=65536:=by
 cases hg:aN F.vs nm with
 |none=>exact .inl ⟨9,dE,(mZ hg).1,(mZ hg).2⟩
 | some v=>
  have hm:=(aC hg).1;have hv:=hF.vol v hm;have h1:=Bq hF hm;have h2:=hv.r1;have h4:=hv.r0;have h5:=hv.n2;exact .inr ⟨v.nm,v.n,v.r,_,_,(lD hg).1,(lD hg).2,h4,oM,h1.1,h1.2⟩
theorem Bv(F:Fam)(k e0:Int)(gv:Value)(nm:LU)(w:Wd)(hF:F.ok)(h:cB w gv F)(hnm:nm.length<=maxLen)(he:gQ F nm=(k,e0)):
  ep 105 #[gv,nmV nm] w (RB w (.tuple #[k,e0])):=by
 obtain⟨a,m,c,rfl⟩:=h.form;have HH:=hD (QM.init w _ _ F h);have HF:=hD hF;clear h;rcases Md hF nm with ⟨e1,hz,hi,hc⟩|⟨im,i1,i2,i3,i4,hi,hc,h1,h2,h3,h4⟩
 ·rw[hc]at he;obtain⟨rfl,rfl⟩:=Prod.mk.inj he;have HI:=hD hi;have hz:(e1==0)=false:=by simpa using hz
  clear he hc hi hF;go_enter func105,ntmps105;have b0:=HH.o.b0;have b1:=HH.o.b1;go_wp2_with fail;refine(Af F [] 0 0 0 0 e1 _ nm _ HF.o HH.o.fam hnm HI.o).m ?_;rintro e w1 ⟨rfl,hb⟩;have hB:=(HH.o.B.on hb).aIw (cq #[nmV [],oo,oo,oo,oo] 94);clear hb b0 b1 HH;go_wp2_with fail;go_ret2;exact⟨rfl,hB⟩
 ·rw[hc]at he;obtain⟨rfl,rfl⟩:=Prod.mk.inj he;have HI:=hD hi;clear he hc hi hF;go_enter func105,ntmps105;have b0:=HH.o.b0;have b1:=HH.o.b1;go_wp2_with fail;refine(Af F im i1 i2 i3 i4 0 _ nm _ HF.o HH.o.fam hnm HI.o).m ?_;rintro e w1 ⟨rfl,hb⟩;have hB:=(HH.o.B.on hb).aIw (cq #[nmV im,i1,i2,i3,i4] 94);clear hb b0 b1 HH;go_wp2_with fail;go_ret2;exact⟨rfl,hB⟩
theorem Oy(F:Fam)(q:Int)(gv:Value)(w:Wd)(hF:F.ok)(h:cB w gv F)(hq:iC F=q):
  ep 145 #[gv] w (RB w q):=by
 have hfr:=h;obtain⟨a,c,ts,rfl,hr,hl,hts,_⟩:=h;have HH:=hD (QM.init w _ _ F hfr);have HF:=hD hF;have HR:=hD hr;have HTS:=hD hts;have HLEN:=hD (kE hF hts).1;have h32:=(kE hF hts).2;have HQ:Hid (rR F.C F.vs=q):=hD hq;clear hF hfr hr hl hts hq;go_enter func145,ntmps145;go_wp2_with fail;go_loopw [3,4] (λv i wr=>∃k:Nat,k<=ts.length/\i= .int .i64 k/\v= .int .i64 (rR F.C (F.vs.take k))/\QM w wr F.N (.slice a ts c) F) (λ_ i _=>ts.length-(intOf i).toNat)
 case atStart=>exact⟨0,Yf _,rfl,rfl,HH.o⟩
 case round=>
  obtain⟨k,hk,rfl,rfl,hm⟩:=hrel;have HM:=hD hm;have b0:=hm.b0;have b1:=hm.b1;clear hm;by_cases hlt:k<ts.length
  ·obtain⟨b,o,hab,hat⟩:=(HR.o.keep HM.o.B).at oM;have hat2:=hat k _ (Qa hlt);have hlv:k<F.vs.length:=by rw[<-HTS.o,Yy];exact hlt
   have hvk:F.vs[k]=ts[k].vol:=by simp[<-HTS.o]
   have hmem:ts[k].vol∈F.vs:=by rw[<-HTS.o];exact Yr (Qm hlt)
   have HT:=hD (Gx F.C F.vs k hlv);rw[hvk]at HT;have HCL:=hD (Iz HF.o hmem);obtain⟨g1,g2⟩:=xP HF.o hmem;have HNL:Hid (ts[k].vol.nm.length<=maxLen):=hD (pU (HF.o.vol _ hmem).name);obtain⟨g3,g4⟩:=tH HF.o k;have hk0:(0:Int)<=k:=oM
   have hk1:(k:Int)<ts.length:=oM
   have e0:=hat2.c0;have e9:ts[k].nm=ts[k].vol.nm:=rfl;rw[e9]at e0;clear hat hat2 hlv hvk hmem e9;generalize aY F.C ts[k].vol=cv at *;generalize ts[k].vol.nm=nm at *;generalize rR F.C (F.vs.take k)=sm at *;subst hab;go_wp2_with fail;refine wpr ?_
   repeat(go_big_quiet_step ((go_at_call 105;exact Calls.aJb (Bv F cv 0 _ nm _ HF.o (HM.o.fam.keep (World.aIy _ _)) HNL.o HCL.o))))
   refine wqn λnq=> ?_;have HM2:=hD (HM.o.aIx (World.aIy wr nq));clear b0 b1 e0 HM;go_wp2_with fail;go_roundw
   case rel=>exact⟨k+1,oM,by go_num,by rw[HT.o],HM2.o⟩
   case measure=>simp[intOf];omega
  ·obtain rfl:k=ts.length:=oM
   have e:rR F.C (F.vs.take ts.length)=q:=by rw[HLEN.o,List.take_length];exact HQ.o
   rw[e];have hB:=HM.o.B;clear e;go_wp2_with fail;go_ret;exact⟨rfl,hB⟩
theorem EX{F:Fam}{gv:Value}{w:Wd}(hF:F.ok)(h:cB w gv F):
  ep 59 #[gv] w λe w'=>∃v,e= .returned v/\dG w' w v F.C/\Below w w w':=by
 obtain⟨a,c,ts,rfl,hr,hl,hts,_⟩:=h;exact tX F F.C rfl ts a c w hF hts hr hl
theorem aFr{F:Fam}{a:OA}{c:Nat}{w:Wd}{u:Int}(hF:F.ok)(hr:RdI w a F.C)(hu:oZ F.C=u):
  ep 195 #[.slice a F.N c] w (RB w u):=by
 subst hu;have:=Tx F.C a c w hr (gH hF.range oM oM)
 rwa [F.aIz]at this
theorem Ow(F:Fam)(q:Int)(gv:Value)(w:Wd)(hF:F.ok)(h:cB w gv F)(hq:jD F=q):
  ep 144 #[gv] w (RB w q):=by
 obtain ⟨a,m,c,rfl⟩:=h.form;have HH:=hD (QM.init w _ _ F h);have HF:=hD hF;obtain⟨u,hu⟩:∃u,oZ F.C=u:=⟨_,rfl⟩;have HU:=hD hu;have HQ:Hid ((F.N:Int)-u=q):=hD (by rw[<-hu,UE hF];exact hq);have hub:0<=u/\u<=F.N:=by
  have h1:=Rl (C:=F.C) (gH hF.range oM oM);rw[F.aIz,hu]at h1;exact h1
 have hN:=hF.hN;have HCL:=hD F.aIz;clear h hu hF hq;obtain⟨hu1,hu2⟩:=hub;go_enter func144,ntmps144;go_upto_region 1 with fail;generalize w.alloc (cq #[F.N,.slice a m c] 28)=W at *;have HV:=hD (HH.o.aIx bR.drew)
 go_region_held3 (λw'=>w' (cw w 0)=F.N/\w' (cw w 1)=some (.slice a m c)/\Below W.drew.heap.size W.drew w')
  (first
   |with_reducible exact⟨HV.o.b0,HV.o.b1,bR⟩
   |with_reducible exact⟨HQ2.o.b0,HQ2.o.b1,hW2⟩
   |with_reducible exact⟨HQ1.o.b0,HQ1.o.b1,hW1⟩)
  (first
   |(go_at_call 59;have hW:=(‹_/\_/\Below W.drew.heap.size W.drew _›).2.2;refine(EX HF.o (HV.o.aIx hW).fam).m ?_;rintro e v1 ⟨sv,rfl,ho,hb1⟩;obtain⟨ca,cc,rfl,hrc⟩:=ho.rd (by rw[HCL.o];exact hN);have HRC:=hD hrc;rw[HCL.o];have hW1:=hW.on hb1;have HQ1:=hD (HV.o.aIx hW1))
   |(go_at_call 195;have hW:=(‹_/\_/\Below W.drew.heap.size W.drew _›).2.2;refine(aFr HF.o HRC.o HU.o).m ?_;rintro e v2 ⟨rfl,hb2⟩;have hW2:=hW.on hb2;have HQ2:=hD (HV.o.aIx hW2)))
 have hB:=HQ2.o.B;have hqq:=HQ.o;subst hqq;have hw:IntKind.i64.wrap ((F.N:Int)-u)=F.N-u:=IntWalk.i64_in _ oM;clear hW1 hW2 hb1 hb2 ho hrc HQ1 HQ2 HV;go_wp2_with fail;go_ret;exact⟨rfl,hB⟩
theorem Eg(F:Fam)(q:Int)(gv:Value)(w:Wd)(hF:F.ok)(h:cB w gv F)(hq:dC F=q):
  ep 104 #[gv] w (RB w q):=by
 obtain⟨a,m,c,rfl⟩:=h.form;have HH:=hD (QM.init w _ _ F h);have HF:=hD hF;obtain⟨fr,hfr⟩:∃fr,jD F=fr:=⟨_,rfl⟩;obtain⟨cl,hcl⟩:∃cl,iC F=cl:=⟨_,rfl⟩;have hq2:fr-cl=q:=by rw[<-hq,<-hfr,<-hcl];rfl
 have hfb:0<=fr/\fr<=65536:=by
  have h1:=iX (bH F.C) F.N;have h2:=hF.hN;rw[<-hfr];unfold jD;omega
 have hcb:0<=cl/\cl<=2097152:=by
  have h3:=tH hF F.vs.length;rw[List.take_length]at h3;have h4:iC F=rR F.C F.vs:=rfl;omega
 have HFR:=hD hfr;have HCL:=hD hcl;obtain⟨f1,f2⟩:=hfb;obtain⟨g1,g2⟩:=hcb;subst hq2;clear h hF hq hfr hcl;go_enter func104,ntmps104;have b0:=HH.o.b0;have b1:=HH.o.b1;go_upto_region 1 with fail;refine wpr ?_
 repeat(go_big_quiet_step ((first|(go_at_call 144;exact Calls.aJb (Ow F fr _ _ HF.o (HH.o.fam.keep (World.aIy _ _)) HFR.o))|(go_at_call 145;exact Calls.aJb (Oy F cl _ _ HF.o (HH.o.fam.keep (World.aIy _ _)) HCL.o)))))
 refine wqn λnq=> ?_;have hB:=HH.o.B.on (World.aIy _ nq);have hw:IntKind.i64.wrap (fr-cl)=fr-cl:=IntWalk.i64_in _ oM;clear b0 b1;go_wp2_with fail;go_ret;exact⟨rfl,hB⟩
theorem WG(C:List Int)(l:List E)(q:Int)(ca la:OA)(cc lc:Nat)(w:Wd)(hrC:RdI w ca C)(hr:Rd w la l)(hp:aQ C.length l=true)(hC:C.length<=65536)(hl:l.length<=65536)(hq:dS C l=q):
  ep 192 #[.slice ca C cc,.slice la l lc] w (RB w q):=by
 have HRC:=hD hrC;have HR:=hD hr;have HK:=hD hq;have HPM:=hD ((aP _ _).1 hp);have HETK:=hD (zI C l);have HBD:Hid (∀k,0<=dS C (l.take k)/\dS C (l.take k)<=65536*65536):=hD λk=>by
  have h1:=AU C (l.take k) 65536 (λy hy=>by
   have h2:=(aP _ _).1 hp y (List.mem_of_mem_take hy)
   omega)
  have h4:=List.length_take_le' k l;omega
 clear hrC hr hq hp;go_enter func192,ntmps192;go_wp2_with fail;go_loopw [5,6] (λv i wr=>∃k:Nat,k<=l.length/\i= .int .i64 k/\v= .int .i64 (dS C (l.take k))/\Below w w wr) (λ_ i _=>l.length-(intOf i).toNat)
 case atStart=>exact⟨0,Yf _,rfl,by simp[dS],bR⟩
 case round=>
  obtain⟨k,hk,rfl,rfl,hB⟩:=hrel;by_cases hlt:k<l.length
  ·obtain ⟨eb,eo,rfl,hat⟩:=(HR.o.keep hB).at oM;have HAT:=hD (hat k _ (Qa hlt));have HT:=hD (HETK.o k hlt);obtain⟨y1,y2,y3⟩:=HPM.o _ (Qm hlt);obtain⟨d1,d2⟩:=HBD.o k;have hk0:(0:Int)<=k:=oM
   have hk1:(k:Int)<l.length:=oM
   generalize l[k]=x at *;obtain⟨xa,xn,xs⟩:=x;simp only at y1 y2 y3;obtain⟨s0,rfl⟩:=Qr y2;obtain⟨n0,rfl⟩:=Qr (show 0<=xn by omega);have HOX:Hid (dS C (l.take (k+1))=dS C (l.take k)+aK (λj=>bN C (s0+j)) n0):=hD (by rw[HT.o];rfl);generalize dS C (l.take k)=ex at *;have hsn:s0+n0<=C.length:=oM
   have a2:wr (cw eb (eo+k*3+2))=s0:=HAT.o.s;have HB:=hD hB;clear hat hB HT;go_wp2_with fail;clear a2;generalize wr=wo at *;go_loopw [5,7] (λv t wi=>∃p:Nat,p<=n0/\t= .int .i64 ((s0:Int)+p)/\v= .int .i64 (ex+aK (λj=>bN C (s0+j)) p)/\Below wo wo wi) (λ_ t _=>(s0+n0)-(intOf t).toNat)
   case atStart=>exact⟨0,Yf _,sM,by simp[aK],bR⟩
   case round=>
    obtain⟨p,hp,rfl,rfl,hBi⟩:=hrel;have z1:wr (cw eb (eo+k*3+1))=n0:=hBi.keep HAT.o.n;have z2:wr (cw eb (eo+k*3+2))=s0:=hBi.keep HAT.o.s;have hw:IntKind.i64.wrap ((s0:Int)+n0)=s0+n0:=IntWalk.i64_in _ oM;have a1:=iX (λj=>bN C (s0+j)) p;have HBI:=hD hBi;clear hBi;by_cases hpn:p<n0
    ·have hlb:decide ((s0:Int)+p<s0+n0)=true:=Qo oM;go_wp2_with fail;refine wpr ?_
     repeat(go_big_quiet_step (fail))
     refine wqn λnq=> ?_;have HM:=hD (HBI.o.on (World.aIy wr nq));have hsl:s0+p<C.length:=oM
     obtain⟨cb,co,rfl,hatc⟩:=(HRC.o.keep (HB.o.on HM.o)).at oM;have h1:=hatc (s0+p) _ (getD_some C (s0+p) hsl);have hs1:(0:Int)<=(s0:Int)+p:=oM
     have hs2:(s0:Int)+p<C.length:=oM
     have HAR:Hid (aK (λj=>bN C (s0+j)) (p+1)=aK (λj=>bN C (s0+j)) p+if bN C (s0+p)=true then 1 else 0):=hD rfl;have hob:bN C (s0+p)=(C.getD (s0+p) 0==1):=by unfold bN;rw[Qw];simp
     rw[hob]at HAR;generalize C.getD (s0+p) 0=cv at *;generalize aK (λj=>bN C (s0+j)) p=ar at *;clear hob hatc z1 z2 hw hlb;cases hcv:(cv==1)
     ·have HE:Hid (aK (λj=>bN C (s0+j)) (p+1)=ar):=hD Rv;clear HAR;go_wp2_with fail;go_roundw
      case rel=>exact⟨p+1,oM,by go_num,by rw[HE.o],HM.o⟩
      case measure=>simp[intOf];omega
     ·have HE:Hid (aK (λj=>bN C (s0+j)) (p+1)=ar+1):=hD Rv;clear HAR;go_wp2_with fail;go_roundw
      case rel=>exact⟨p+1,oM,by go_num,by rw[HE.o];congr 1;omega,HM.o⟩
      case measure=>simp[intOf];omega
    ·obtain rfl:p=n0:=oM
     have hlb:decide ((s0:Int)+p<s0+p)=false:=Qp oM;go_wp2_with fail;refine wpr ?_
     repeat(go_big_quiet_step (fail))
     refine wqn λnq=> ?_;have HM:=hD (HB.o.on (HBI.o.on (World.aIy wr nq)));clear z1 z2 hw hlb;go_wp2_with fail;go_roundw
     case rel=>exact⟨k+1,oM,by go_num,by rw[HOX.o],HM.o⟩
     case measure=>simp[intOf];omega
  ·obtain rfl:k=l.length:=oM
   rw[List.take_length];rw[HK.o];go_wp2_with fail;go_ret;exact⟨rfl,hB⟩
theorem Ee(F:Fam)(L:List E)(e0:Int)(gv:Value)(nm:LU)(p n:Int)(w:Wd)(hF:F.ok)(h:cB w gv F)(hnm:nm.length<=maxLen)(he:dP F nm p n=(L,e0)):
  ep 96 #[gv,nmV nm,p,n] w λe w'=>∃sv,e= .returned (.tuple #[sv,e0])/\aG w' w sv L/\Below w w w':=by
 have:=GK F gv nm p n w hF h hnm
 rwa [he]at this
theorem Eh(F:Fam)(k e0:Int)(gv:Value)(nm:LU)(p n:Int)(w:Wd)(hF:F.ok)(hs:∀v∈F.vs,v.l.length<=9000)(h:cB w gv F)(hnm:nm.length<=maxLen)(hq:jP F nm p n=(k,e0)):
  ep 137 #[gv,nmV nm,p,n] w (RB w (.tuple #[k,e0])):=by
 obtain⟨a,m,c,rfl⟩:=h.form;have HH:=hD (QM.init w _ _ F h);have HF:=hD hF;clear h;rcases Es hF hs nm p n with ⟨e1,he,hr,hc⟩|⟨L,hr,hc,hn1,hn2,hpm,hlen⟩
 ·rw[hc]at hq;obtain⟨rfl,rfl⟩:=Prod.mk.inj hq;have HR:=hD hr;clear hc hq hr hF hs;go_enter func137,ntmps137;have b0:=HH.o.b0;have b1:=HH.o.b1;go_wp2_with fail;refine(Ee F [] e1 _ nm p n _ HF.o HH.o.fam hnm HR.o).m ?_;exact aEg
 ·rw [hc]at hq;obtain⟨hk,rfl⟩:=Prod.mk.inj hq;obtain⟨ex,hex⟩:∃ex,dS F.C L=ex:=⟨_,rfl⟩;have hxb:0<=ex/\ex<=65536*65536:=by
   have h1:=AU F.C L 65536 (λy hy=>by
    have h2:=(aP _ _).1 hpm y hy;have h3:=hF.hN
    omega)
   rw[<-hex];omega
  obtain⟨x1,x2⟩:=hxb;rw[hex]at hk;subst hk;have HEX:=hD hex;have HR:=hD hr;have HPM:=hD hpm;have HC9:=hD F.aIz;have HN9:=hD hF.hN;clear hc hq hr hpm hF hs hex;go_enter func137,ntmps137;have b0:=HH.o.b0;have b1:=HH.o.b1;go_wp2_with fail;refine(Ee F L 0 _ nm p n _ HF.o HH.o.fam hnm HR.o).m ?_;rintro e w1 ⟨sv,rfl,ho,hb⟩;obtain⟨sa,sc,rfl,hl⟩:=ho.rd oM;have HL:=hD hl;have HH1:=hD (HH.o.aIx hb);clear hb ho hl b0 b1 HH;have b0:=HH1.o.b0;have b1:=HH1.o.b1;go_wp2_with fail;refine(EX HF.o HH1.o.fam).m ?_;rintro e w2 ⟨cv,rfl,ho,hb⟩;obtain⟨ca,cc,rfl,hrc⟩:=ho.rd (by rw[HC9.o];exact HN9.o);have HRC:=hD hrc;have HH2:=hD (HH1.o.aIx hb);have HL2:=hD (HL.o.keep hb);clear hb ho hrc b0 b1 HH1 HL;go_wp2_with fail;refine(WG F.C L ex ca sa cc sc _ HRC.o HL2.o (by rw[HC9.o];exact HPM.o) (by rw[HC9.o];exact HN9.o) hlen HEX.o).m ?_;rintro e w3 ⟨rfl,hb⟩;have hB:=HH2.o.B.on hb;clear hb;go_wp2_with fail;go_ret2;exact⟨rfl,hB⟩
theorem uS(a b:Int):(a>b/\iL a b=11)∨(a<=b/\iL a b=0):=by
 unfold iL;by_cases h:a>b
 ·exact .inl ⟨h,Qf h⟩
 ·exact .inr ⟨oM,Qe h⟩
theorem Ox(F:Fam)(q:Int)(gv:Value)(n r:Int)(w:Wd)(hF:F.ok)(h:cB w gv F)(hq:fG F n r=q):
  ep 66 #[gv,n,r] w (RB w q):=by
 obtain⟨a,m,c,rfl⟩:=h.form;have HH:=hD (QM.init w _ _ F h);have HF:=hD hF;clear hF h;rcases Er n r with ⟨hn,hn2⟩|⟨hn,hn2⟩
 ·obtain ⟨rm,hrm⟩:∃rm,dC F=rm:=⟨_,rfl⟩;have hq2:iL r rm=q:=by rw[<-hq,<-hrm];unfold fG;rw[hn,Qe sM]
  have HRM:=hD hrm;clear hn hq hrm;rcases uS r rm with ⟨hc,he⟩|⟨hc,he⟩
  all_goals
   have hq3:=he.symm.trans hq2;subst hq3;clear he hq2;go_enter func66,ntmps66;have b0:=HH.o.b0;have b1:=HH.o.b1;go_wp2_with fail;refine(Eg F rm _ _ HF.o HH.o.fam HRM.o).m ?_;rintro e w1 ⟨rfl,hb⟩;have hB:=HH.o.B.on hb;clear hb b0 b1;go_wp2_with fail;go_ret;exact⟨rfl,hB⟩
 ·have hq2:(1:Int)=q:=by rw[<-hq];unfold fG;rw[hn,Qf rfl]
  subst hq2;have hB:=HH.o.B;clear hn hq HH;rcases hn2 with h1|⟨h1,h2|⟨h2,h3|⟨h3,h4⟩⟩⟩
  all_goals
   go_enter func66,ntmps66;go_wp2_with fail;go_ret;exact⟨rfl,hB⟩
theorem Dn{F:Fam}(hF:F.ok)(nm:LU):(dW F nm=(⟨[],0,0,0,0⟩,9)/\eD F nm=9)∨ ∃im i1 i2 i3 i4 mx,dW F nm=(⟨im,i1,i2,i3,i4⟩,0)/\gQ F nm=(mx,0)/\eD F nm=iL (i2-mx) (dC F)/\0<=i2/\i2<=65536/\0<=mx/\mx<=65536:=by
 cases hg:aN F.vs nm with
 |none=>exact .inl ⟨(mZ hg).1,by unfold eD;rw[hg]⟩
 | some v=>
  have hm:=(aC hg).1;have hv:=hF.vol v hm;have h1:=xP hF hm;have h2:=hv.r1;have h4:=hv.r0;have h5:=hv.n2;exact .inr ⟨v.nm,v.n,v.r,_,_,aY F.C v,(lD hg).1,(lD hg).2,by unfold eD;rw[hg],h4,oM,h1.1,h1.2⟩
theorem TQ(F:Fam)(q:Int)(gv:Value)(nm:LU)(w:Wd)(hF:F.ok)(h:cB w gv F)(hnm:nm.length<=maxLen)(hq:eD F nm=q):
  ep 68 #[gv,nmV nm] w (RB w q):=by
 obtain⟨a,m,c,rfl⟩:=h.form;have HH:=hD (QM.init w _ _ F h);have HF:=hD hF;clear h;rcases Dn hF nm with ⟨hi,hc⟩|⟨im,i1,i2,i3,i4,mx,hi,hcl,hc,g1,g2,g3,g4⟩
 ·have hq2:(9:Int)=q:=by rw[<-hq,hc]
  subst hq2;have HI:=hD hi;clear hi hc hq hF;go_enter func68,ntmps68;have b0:=HH.o.b0;have b1:=HH.o.b1;go_wp2_with fail;refine(Af F [] 0 0 0 0 9 _ nm _ HF.o HH.o.fam hnm HI.o).m ?_;exact aEf
 ·obtain ⟨rm,hrm⟩:∃rm,dC F=rm:=⟨_,rfl⟩;have hrb:=Ae hF;rw[hc,hrm]at hq;rw[hrm]at hrb;obtain⟨r1,r2⟩:=hrb;have HRM:=hD hrm;have HI:=hD hi;have HCL:=hD hcl;clear hi hcl hc hrm hF;have key:(rm-(i2-mx)<0/\q=11)∨(0<=rm-(i2-mx)/\q=0):=by
   rcases uS (i2-mx) rm with ⟨h1,h2⟩|⟨h1,h2⟩
   ·exact .inl ⟨oM,by rw[<-hq,h2]⟩
   ·exact .inr ⟨oM,by rw[<-hq,h2]⟩
  clear hq;rcases key with ⟨hk,rfl⟩|⟨hk,rfl⟩
  all_goals
   go_enter func68,ntmps68;have b0:=HH.o.b0;have b1:=HH.o.b1;go_wp2_with fail;refine(Af F im i1 i2 i3 i4 0 _ nm _ HF.o HH.o.fam hnm HI.o).m ?_;rintro e w1 ⟨rfl,hb⟩;have hk9:=hb.aIw (cq #[nmV im,i1,i2,i3,i4] 94);have HH:=hD (HH.o.aIx hk9);have HT:=hD (IT.new w1 _ rfl ⟨im,i1,i2,i3,i4⟩ 94);clear hb hk9 b0 b1;have b0:=HH.o.b0;have b1:=HH.o.b1;go_wp2_with fail;refine(Bv F mx 0 _ nm _ HF.o HH.o.fam hnm HCL.o).m ?_;rintro e w2 ⟨rfl,hb⟩;have HH:=hD (HH.o.aIx hb);have HT:=hD (HT.o.aIx hb);clear hb b0 b1;go_upto_region 5 with fail;generalize w1.heap.size=T at *;have b0:=HH.o.b0;have b1:=HH.o.b1;have t2:=HT.o.t2;have hw1:IntKind.i64.wrap (i2-mx)=i2-mx:=IntWalk.i64_in _ oM;have hw2:IntKind.i64.wrap (rm-(i2-mx))=rm-(i2-mx):=IntWalk.i64_in _ oM
   first
    |have hd:decide (rm-(i2-mx)<0)=true:=Qo oM
    |have hd:decide (rm-(i2-mx)<0)=false:=Qp oM
   refine wpr ?_
   repeat(go_big_quiet_step ((go_at_call 104;exact Calls.aJb (Eg F rm _ _ HF.o (HH.o.fam.keep (World.aIy _ _)) HRM.o))))
   refine wqn λnq=> ?_;have hB:=HH.o.B.on (World.aIy w2 nq);clear b0 b1 t2 hw1 hw2;go_wp2_with fail;go_ret;exact⟨rfl,hB⟩
theorem TN(F:Fam)(q:Int)(gv:Value)(nm:LU)(p n:Int)(w:Wd)(hF:F.ok)(hs:∀v∈F.vs,v.l.length<=9000)(h:cB w gv F)(hnm:nm.length<=maxLen)(hq:fM F nm p n=q):
  ep 136 #[gv,nmV nm,p,n] w (RB w q):=by
 obtain⟨a,m,c,rfl⟩:=h.form;have HH:=hD (QM.init w _ _ F h);have HF:=hD hF;have HS:=hD hs;have HCB:=hD (IA hF nm);have HRB:=hD (Ae hF);unfold fM at hq;obtain⟨nd,hnd⟩:∃nd,jP F nm p n=nd:=⟨_,rfl⟩;obtain⟨nk,e0⟩:=nd;rw[hnd]at hq;simp only at hq;have HN:=hD hnd;clear h hnd hF hs;by_cases he:e0=0
 ·subst he;rw[Qf rfl]at hq;obtain⟨ck,hck⟩:∃ck,gQ F nm=ck:=⟨_,rfl⟩;obtain⟨cv,ce⟩:=ck;rw[hck]at hq HCB;obtain⟨rm,hrm⟩:∃rm,dC F=rm:=⟨_,rfl⟩;rw[hrm]at hq HRB;have HC:=hD hck;have HR:=hD hrm;obtain⟨c1,c2⟩:=HCB.o;obtain⟨r1,r2⟩:=HRB.o;simp only at c1 c2;clear hck hrm;have key:(nk>cv+max 0 rm/\q=11)∨(nk<=cv+max 0 rm/\q=0):=by
   rcases uS nk (cv+max 0 rm)with ⟨h1,h2⟩|⟨h1,h2⟩
   ·exact .inl ⟨h1,by rw[<-hq,h2]⟩
   ·exact .inr ⟨h1,by rw[<-hq,h2]⟩
  clear hq;rcases key with ⟨hk,rfl⟩|⟨hk,rfl⟩
  all_goals
   go_enter func136,ntmps136;have b0:=HH.o.b0;have b1:=HH.o.b1;go_wp2_with fail;refine(Eh F nk 0 _ nm p n _ HF.o HS.o HH.o.fam hnm HN.o).m ?_;rintro e w1 ⟨rfl,hb⟩;have HH:=hD (HH.o.aIx hb);clear hb b0 b1;have b0:=HH.o.b0;have b1:=HH.o.b1;go_wp2_with fail;refine(Bv F cv ce _ nm _ HF.o HH.o.fam hnm HC.o).m ?_;rintro e w2 ⟨rfl,hb⟩;have HH:=hD (HH.o.aIx hb);clear hb b0 b1;have b0:=HH.o.b0;have b1:=HH.o.b1;go_wp2_with fail;refine(Eg F rm _ _ HF.o HH.o.fam HR.o).m ?_;rintro e w3 ⟨rfl,hb⟩;have hB:=HH.o.B.on hb;clear hb b0 b1;go_wp2_with fail;go_ret;exact⟨rfl,hB⟩
 ·rw[Qe he]at hq;subst hq;have hz:(e0==0)=false:=by simpa using he
  clear he;go_enter func136,ntmps136;have b0:=HH.o.b0;have b1:=HH.o.b1;go_wp2_with fail;refine(Eh F nk e0 _ nm p n _ HF.o HS.o HH.o.fam hnm HN.o).m ?_;exact aEe
theorem newI(W:Wd)(n:Nat)(hn:n=W.heap.size)(x:Int)(t:TypeId):∀j u,([Value.int .i64 x]:List Value)[j]? =some u->(W.alloc (cq #[x] t)).cell? (((cw n 0):Addr).add j)=some u:=by
 subst hn;intro j u hj
 cases j with
 |zero=>simp at hj;subst hj;simp[Addr.add]
 |succ j=>simp at hj
def LowI(C:List Int)(w:Wd)(v i:Value)(wr:Wd):Prop:=
 Below w w wr/\ ∃k:Nat,k<=C.length/\i=k/\((v=sn/\ ∀j,j<k->bH C j=false)∨ ∃s g c:Nat,s<C.length/\bH C s=true/\v= .slice (cw g 0) 1 c/\wr (cw g 0)=s)
def JX(F:Fam)(w:Wd)(e:Ending)(w':Wd):Prop:=
 Below w w w'/\((e= .returned (.slice none 0 0)/\jD F=0)∨ ∃s g c:Nat,s<F.N/\F.C.getD s 0=0/\e= .returned (.slice (cw g 0) 1 c)/\w' (cw g 0)=s)
theorem Ei(F:Fam)(gv:Value)(w:Wd)(hF:F.ok)(h:cB w gv F):
  ep 138 #[gv,ol] w (JX F w):=by
 obtain ⟨a,m,c,rfl⟩:=h.form;have HH:=hD (QM.init w _ _ F h);have HF:=hD hF;have HCL:=hD F.aIz;have hN:=hF.hN;have HFR:Hid ((∀j,j<F.C.length->bH F.C j=false)->jD F=0):=hD λh=>by
  unfold jD;rw[dK _ _ λj hj=>h j (by rw[F.aIz];exact hj)];rfl
 have hC9:F.C.length<=65536:=by rw[F.aIz];exact hN
 clear hF h;obtain⟨i0,hi,hz0,hz1,hz2⟩:=info_parts RQ;go_enter func138,ntmps138;have b0:=HH.o.b0;have b1:=HH.o.b1;go_wp2_with fail;refine(EX HF.o HH.o.fam).m ?_;rintro e w1 ⟨cv,rfl,ho,hb⟩;obtain⟨ca,cc,rfl,hrc⟩:=ho.rd hC9;have HRC:=hD hrc;have HB:=hD (HH.o.B.on hb);have HQ:Hid (∀e w',(Below w w w'/\((e= .returned (.slice none 0 0)/\ ∀j,j<F.C.length->bH F.C j=false)∨ ∃s g c:Nat,s<F.C.length/\bH F.C s=true/\e= .returned (.slice (cw g 0) 1 c)/\w' (cw g 0)=s))->JX F w e w'):=hD λe w' ⟨h1,h2⟩=>⟨h1,h2.imp (λ⟨q1,q2⟩=>⟨q1,HFR.o q2⟩) λ⟨s,g,c,q1,q2,q3⟩=>⟨s,g,c,by rw[F.aIz]at q1;exact q1,by simpa [bH]using q2,q3⟩⟩;clear hb ho hrc b0 b1 HH HFR HF HCL;generalize F.C=C at *;go_wp2_with fail;go_loopw [6,7] (λv i wr=>LowI C w1 v i wr) (λ_ i _=>C.length-(intOf i).toNat)
 case atStart=>exact⟨bR,0,Yf _,rfl,.inl ⟨rfl,λj hj=>by omega⟩⟩
 case round=>
  obtain⟨hB,k,hk,rfl,⟨rfl,hz⟩|⟨s,g,c2,hs,hzs,rfl,hcell⟩⟩:=hrel
  ·have HZ:=hD hz;clear hz;by_cases hlt:k<C.length
   ·obtain ⟨cb,co,rfl,hatc⟩:=(HRC.o.keep hB).at oM;have h1:=hatc k _ (getD_some C k hlt);have hk0:(0:Int)<=k:=oM
    have hk1:(k:Int)<C.length:=oM
    have hzb:bH C k=(C.getD k 0==0):=by unfold bH;rw[Qw];simp
    generalize C.getD k 0=cv at *;have HBK:=hD hB;clear hatc hB;cases hcv:(cv==0)
    ·rw [hcv]at hzb;have HZB:=hD hzb;clear hzb;go_wp2_with fail;go_roundw
     case rel=>exact⟨HBK.o,k+1,oM,by go_num,.inl ⟨rfl,λj hj=>by
      by_cases e:j=k
      ·subst e;exact HZB.o
      ·exact HZ.o j oM⟩⟩
     case measure=>simp[intOf];omega
    ·rw[hcv]at hzb;have HZB:=hD hzb;clear hzb
     go_wp2_with (at_builtin;refine aO _ rfl _ _ 66 rfl wr.heap.size 3 i0 oo 1 8 underlying66 hi hz0 hz1 hz2 rfl dE _ _ _ rfl (dG.nil _ _) (cw wr.heap.size 0) 1 1 [.int .i64 k] rfl rfl (newI _ _ rfl _ _) (by intro u hu;simp at hu;subst hu;rfl) sM (by simp[maxLen]) (by simp only[World.size_alloc];omega) ?_;intro v1 w2 hown1 hgrow1 hwhere1)
     have ho:=dG.append (C:=[]) (D:=[(k:Int)]) hown1 rfl;have HBE:=hD ((HBK.o.aIw (cq #[k] 3)).aJa hgrow1 λj hj=>by cases hj);rcases ho.form with ⟨_,hno⟩|⟨g,c1,rfl,_,_,_,_,hat,_⟩
     ·simp at hno
     have HAT:=hD (hat 0 _ rfl);clear hown1 hgrow1 hwhere1 ho hat h1;go_wp2_with fail;go_roundw
     case rel=>exact⟨HBE.o,k+1,oM,by go_num,.inr ⟨k,g,c1,hlt,HZB.o,rfl,HAT.o⟩⟩
     case measure=>simp[intOf];omega
   ·obtain rfl:k=C.length:=oM
    have HR:=hD (HB.o.on hB);clear hB;go_wp2_with fail;go_ret;exact HQ.o _ _ ⟨HR.o,.inl ⟨rfl,HZ.o⟩⟩
  ·have HR:=hD (HB.o.on hB);have HCE:=hD hcell;have HZS:=hD hzs;clear hB hcell hzs;have hend:∀e w',(Below w w w'/\((e= .returned (.slice none 0 0)/\ ∀j,j<C.length->bH C j=false)∨ ∃s g c:Nat,s<C.length/\bH C s=true/\e= .returned (.slice (cw g 0) 1 c)/\w' (cw g 0)=s))->JX F w e w':=HQ.o;clear hend;by_cases hlt:k<C.length
   all_goals
    have hd:((k:Int)<C.length)∨ ¬((k:Int)<C.length):=oM
    clear hd;go_wp2_with fail;go_ret;exact HQ.o _ _ ⟨HR.o,.inr ⟨s,g,c2,hs,HZS.o,rfl,HCE.o⟩⟩
end Go.Proofs.YtphfgbbbejloaaaGreatDoor
