/-
  tegularef36: Names, Free, Lookup, Range.
  tegularef36: qE.
  tegularef36: Apply.
  Conditions: as each theorem says.
-/
import Derived.Test.YtaiklhbakldfhaaGreatGN
import Derived.Test.YtaiklhbakldfhaaGreatGG
import Derived.Test.YtaiklhbakldfhaaGreatHU
namespace Go.Proofs.YtaiklhbakldfhaaGreat
open Go.Lib (hid)
set_option linter.unusedSimpArgs false
set_option linter.unusedVariables false
set_option maxRecDepth 100000
set_option maxHeartbeats 16000000
open Go.RowKit Go.Maps
theorem aZs (n:Int) (w:World) (hn:0<=n/\n<=255):Calls Tryz.prog 48 #[.int .u8 n] w fun e w'=>e= .returned (nmV (aY n))/\Below w.heap.size w w':=by
 have hcv:(convert 23 9 (.slice (some ⟨w.heap.size,0,none⟩) 1 1)).run Tryz.prog (w.alloc (.cells #[.int .u8 (97+n%6)] 5))= .ok (nmV [UInt8.ofNat (97+(n%6).toNat)]) (w.alloc (.cells #[.int .u8 (97+n%6)] 5)):=run_convert_bytes_back (P:=Tryz.prog) (w.alloc (.cells #[.int .u8 (97+n%6)] 5)) 23 9 5 ⟨w.heap.size,0,none⟩ 1 [UInt8.ofNat (97+(n%6).toNat)] Tryz.underlying23 Tryz.underlying5 Tryz.underlying9 (fun j hj=>by
  simp at hj;subst hj;simp[Addr.add]
  omega)
 by_cases h5:n%6=5
 ·have e:aY n=aMu:=if_pos h5;rw[e];clear e hcv;go_enter Tryz.func48,Tryz.ntmps48;go_wp2;go_ret;exact⟨rfl,Below.refl _ _⟩
 ·have e:aY n=[UInt8.ofNat (97+(n%6).toNat)]:=if_neg h5;rw[<-e]at hcv;clear e;generalize aY n=ns at hcv ⊢;have d5:(n%6==5)=false:=by simpa using h5
  go_enter Tryz.func48,Tryz.ntmps48;go_wp2_with fail;go_ret;exact⟨rfl,(Below.refl _ _).bMq _⟩
structure BH (w W:World) (a:Option Addr) (n:Int) (m c:Nat):Prop where
 b0:W.cell? ⟨w.heap.size,0,none⟩=some (.int .i64 n)
 b1:W.cell? ⟨w.heap.size,1,none⟩=some (.slice a m c)
 B:Below w.heap.size w W
theorem BH.later {w W W':World} {a:Option Addr} {n:Int} {m c:Nat} (h:BH w W a n m c) (hb:Below W.heap.size W W'):BH w W' a n m c:=⟨hb.keep h.b0,hb.keep h.b1,h.B.on hb⟩
theorem BH.init (w:World) (a:Option Addr) (n:Int) (m c:Nat):BH w (w.alloc (.cells #[.int .i64 n,.slice a m c] 31)) a n m c:=⟨by simp,by simp,(Below.refl _ _).bMq _⟩
theorem aDh (F:Fam) (nm:List UInt8) (p n:Int):
  (aP F.vs nm=none/\fU F nm p n=([],9))∨ ∃v,aP F.vs nm=some v/\
   ((inB p n v.n=false/\fU F nm p n=([],2))∨(inB p n v.n=true/\fU F nm p n=(inL v.l p n,0))):=by
 unfold fU
 cases hg:aP F.vs nm with
 |none=>exact .inl ⟨rfl,rfl⟩
 | some v=>
  refine .inr ⟨v,rfl,?_⟩;cases hn:inB p n v.n
  ·exact .inl ⟨rfl,by simp[hn]⟩
  ·exact .inr ⟨rfl,by simp[hn]⟩
theorem tZ (F:Fam) (nm:List UInt8) (p:Int):
  (aP F.vs nm=none/\fQ F nm p=(0,false,9))∨ ∃v,aP F.vs nm=some v/\
   (((p<0∨v.n<=p)/\fQ F nm p=(0,false,2))∨(0<=p/\p<v.n/\fQ F nm p=(fK v.l p,fH v.l p,0))):=by
 unfold fQ
 cases hg:aP F.vs nm with
 |none=>exact .inl ⟨rfl,rfl⟩
 | some v=>
  refine .inr ⟨v,rfl,?_⟩;cases hn:inB p 1 v.n
  ·have:¬ (0<=p/\0<=(1:Int)/\p<=v.n/\1<=v.n-p):=of_decide_eq_false hn;exact .inl ⟨by omega,by simp[hn]⟩
  ·have:=(iN _ _ _).1 hn;exact .inr ⟨by omega,by omega,by simp[hn]⟩
theorem aZp (F:Fam) (gv:Value) (nm:List UInt8) (p n:Int) (w:World) (hF:F.ok) (h:bI w gv F) (hnm:nm.length<=maxLen):
  Calls Tryz.prog 187 #[gv,nmV nm,.int .i64 p,.int .i64 n] w fun e w'=>∃ sv,e= .returned (.tuple #[sv,.int .i64 (fU F nm p n).2])/\aG w' w.heap.size sv (fU F nm p n).1/\Below w.heap.size w w':=by
 obtain⟨a,c,ts,rfl,hr,hl,hts,_⟩:=h;have h32:=(jN hF hts).2;have HH:=hid (BH.init w a F.N ts.length c);have HR:=hid hr;have HL:=hid hl;have HTS:=hid hts;have HF:=hid hF;clear hr hl hts hF;rcases aDh F nm p n with ⟨hg,hc⟩|⟨v,hg,⟨hn,hc⟩|⟨hn,hc⟩⟩
 ·rw[hc];have HAT:=hid (mO HTS.o hg);clear hg hc;go_enter Tryz.func187,Tryz.ntmps187;go_wp2_with fail;refine(gU F.N ts nm a c _ (HR.o.keep HH.o.B) _ HAT.o).mono ?_;rintro e w1 ⟨rfl,hb⟩;have HH:=hid (HH.o.later hb);clear hb;have b0:=HH.o.b0;have b1:=HH.o.b1;go_wp2_with fail;go_ret2;exact⟨_,rfl,aG.nil _ _,HH.o.B⟩
 ·rw[hc];obtain⟨k,hk,hat,hv,hkn⟩:=gQ HTS.o hg;have hok:=HF.o.vol v (aH hg).1;have HAT:=hid hat;have HMEM:=hid (List.getElem_mem hk);have HGET:=hid (List.getElem?_eq_getElem hk);clear hkn;generalize ts[k]=x at *;subst hv;have HOK:=hid hok;clear hg hc hat hok;have HIN:=hid hn;clear hn;go_enter Tryz.func187,Tryz.ntmps187;go_wp2_with fail;refine(gU F.N ts nm a c _ (HR.o.keep HH.o.B) _ HAT.o).mono ?_;rintro e w1 ⟨rfl,hb⟩;have HH:=hid (HH.o.later hb);clear hb;have b0:=HH.o.b0;have b1:=HH.o.b1;obtain⟨b,o,rfl,hat⟩:=(HR.o.keep HH.o.B).at (by omega);have HA:=hid (hat k x HGET.o);have e0:=HA.o.c0;have e1:=HA.o.c1;have e2:=HA.o.c2;have e3:=HA.o.c3;clear hat;go_wp2_with fail;refine(lH x p n _ ⟨by have:1<=x.n:=HOK.o.n1;omega,HOK.o.n2⟩ false HIN.o).mono ?_;rintro e w2 ⟨rfl,hb⟩;have hB:=HH.o.B.on hb;clear hb e0 e1 e2 e3 b0 b1;go_wp2_with fail;go_ret2;exact⟨_,rfl,aG.nil _ _,hB⟩
 ·rw[hc];have HWI:=hid ((HF.o.vol v (aH hg).1).cut hn).1;obtain⟨k,hk,hat,hv,hkn⟩:=gQ HTS.o hg;have hok:=HF.o.vol v (aH hg).1;have HAT:=hid hat;have HMEM:=hid (List.getElem_mem hk);have HGET:=hid (List.getElem?_eq_getElem hk);clear hkn;generalize ts[k]=x at *;subst hv;have HOK:=hid hok;clear hg hc hat hok;have HIN:=hid hn;clear hn;go_enter Tryz.func187,Tryz.ntmps187;go_wp2_with fail;refine(gU F.N ts nm a c _ (HR.o.keep HH.o.B) _ HAT.o).mono ?_;rintro e w1 ⟨rfl,hb⟩;have HH:=hid (HH.o.later hb);clear hb;have b0:=HH.o.b0;have b1:=HH.o.b1;obtain⟨b,o,rfl,hat⟩:=(HR.o.keep HH.o.B).at (by omega);have HA:=hid (hat k x HGET.o);have e0:=HA.o.c0;have e1:=HA.o.c1;have e2:=HA.o.c2;have e3:=HA.o.c3;clear hat;go_wp2_with fail;refine(lH x p n _ ⟨by have:1<=x.n:=HOK.o.n1;omega,HOK.o.n2⟩ true HIN.o).mono ?_;rintro e w2 ⟨rfl,hb⟩;have HH:=hid (HH.o.later hb);have HA:=hid (HA.o.keep hb);clear hb e0 e1 e2 e3 b0 b1;have b1:=HH.o.b1;have e3:=HA.o.c3;go_wp2_with fail;refine(bDv x.l p n x.a x.c _ ((HL.o x HMEM.o).keep HH.o.B) (by have:x.l.length<=100000:=nQ HOK.o;omega) HOK.o.valid HWI.o).mono ?_;rintro e w3 ⟨sv,mv,rfl,_,hom,hb⟩;have hB:=HH.o.B.on hb;have hsz:=HH.o.B.size;clear hb e3 b1;go_wp2_with fail;go_ret2;exact⟨_,rfl,hom.mono hsz,hB⟩
theorem aFu (F:Fam) (gv:Value) (nm:List UInt8) (p:Int) (w:World) (hF:F.ok) (h:bI w gv F) (hnm:nm.length<=maxLen):
  Calls Tryz.prog 105 #[gv,nmV nm,.int .i64 p] w fun e w'=>e= .returned (.tuple #[.int .i64 (fQ F nm p).1,.bool (fQ F nm p).2.1,.int .i64 (fQ F nm p).2.2])/\Below w.heap.size w w':=by
 obtain⟨a,c,ts,rfl,hr,hl,hts,_⟩:=h;have h32:=(jN hF hts).2;have HH:=hid (BH.init w a F.N ts.length c);have HR:=hid hr;have HL:=hid hl;have HTS:=hid hts;have HF:=hid hF;clear hr hl hts hF;rcases tZ F nm p with ⟨hg,hc⟩|⟨v,hg,⟨hn,hc⟩|⟨hn1,hn2,hc⟩⟩
 ·rw[hc];have HAT:=hid (mO HTS.o hg);clear hg hc;go_enter Tryz.func105,Tryz.ntmps105;go_wp2_with fail;refine(gU F.N ts nm a c _ (HR.o.keep HH.o.B) _ HAT.o).mono ?_;rintro e w1 ⟨rfl,hb⟩;have HH:=hid (HH.o.later hb);clear hb;have b0:=HH.o.b0;have b1:=HH.o.b1;go_wp2_with fail;go_ret3;exact⟨rfl,HH.o.B⟩
 ·rw [hc];obtain⟨k,hk,hat,hv,hkn⟩:=gQ HTS.o hg;have hok:=HF.o.vol v (aH hg).1;have HAT:=hid hat;have HMEM:=hid (List.getElem_mem hk);have HGET:=hid (List.getElem?_eq_getElem hk);clear hkn;generalize ts[k]=x at *;subst hv;have HOK:=hid hok;clear hg hc hat hok;have hn':p<0∨x.n<=p:=hn;clear hn;go_enter Tryz.func105,Tryz.ntmps105;go_wp2_with fail;refine(gU F.N ts nm a c _ (HR.o.keep HH.o.B) _ HAT.o).mono ?_;rintro e w1 ⟨rfl,hb⟩;have HH:=hid (HH.o.later hb);clear hb;have b0:=HH.o.b0;have b1:=HH.o.b1;obtain⟨b,o,rfl,hat⟩:=(HR.o.keep HH.o.B).at (by omega);have HA:=hid (hat k x HGET.o);have e0:=HA.o.c0;have e1:=HA.o.c1;have e2:=HA.o.c2;have e3:=HA.o.c3;clear hat;have HHB:=HH.o.B;clear HH;rcases hn' with hn|hn
  ·go_wp2_with fail;go_ret3;exact⟨rfl,HHB⟩
  ·have hp0:p<0∨0<=p:=by omega
   rcases hp0 with hp0|hp0
   ·go_wp2_with fail;go_ret3;exact⟨rfl,HHB⟩
   ·go_wp2_with fail;go_ret3;exact⟨rfl,HHB⟩
 ·rw[hc];obtain⟨k,hk,hat,hv,hkn⟩:=gQ HTS.o hg;have hok:=HF.o.vol v (aH hg).1;have HAT:=hid hat;have HMEM:=hid (List.getElem_mem hk);have HGET:=hid (List.getElem?_eq_getElem hk);clear hkn;generalize ts[k]=x at *;subst hv;have HOK:=hid hok;clear hg hc hat hok;have hn3:p<x.n:=hn2;clear hn2;go_enter Tryz.func105,Tryz.ntmps105;go_wp2_with fail;refine(gU F.N ts nm a c _ (HR.o.keep HH.o.B) _ HAT.o).mono ?_;rintro e w1 ⟨rfl,hb⟩;have HH:=hid (HH.o.later hb);clear hb;have b0:=HH.o.b0;have b1:=HH.o.b1;obtain⟨b,o,rfl,hat⟩:=(HR.o.keep HH.o.B).at (by omega);have HA:=hid (hat k x HGET.o);have e0:=HA.o.c0;have e1:=HA.o.c1;have e2:=HA.o.c2;have e3:=HA.o.c3;clear hat;go_wp2_with fail;refine(aZv x.l p x.a x.c _ ((HL.o x HMEM.o).keep HH.o.B) (fun z hz=>aBv (aK HOK.o.valid z hz))).mono ?_;rintro e w3 ⟨rfl,hb⟩;have hB:=HH.o.B.on hb;rw[aLe p (show aI x.l=true from HOK.o.valid),aLd p (show aI x.l=true from HOK.o.valid)];clear hb e0 e1 e2 e3 b0 b1;go_wp2_with fail;go_ret3;exact⟨rfl,hB⟩
open Go.RowKit Go.Maps
structure IT (W:World) (T:Nat) (i:qE):Prop where
 t0:W.cell? ⟨T,0,none⟩=some (nmV i.nm)
 t1:W.cell? ⟨T,1,none⟩=some (.int .i64 i.n)
 t2:W.cell? ⟨T,2,none⟩=some (.int .i64 i.r)
 t3:W.cell? ⟨T,3,none⟩=some (.int .i64 i.m)
 t4:W.cell? ⟨T,4,none⟩=some (.int .i64 i.x)
 g4:W.frozen? ⟨T,4,none⟩=false
theorem IT.lt {W:World} {T:Nat} {i:qE} (h:IT W T i):T<W.heap.size:=World.block_lt_of_cell? W ⟨T,0,none⟩ h.t0
theorem IT.later {W W':World} {T:Nat} {i:qE} (h:IT W T i) (hb:Below W.heap.size W W'):IT W' T i:=
 ⟨hb.keep h.t0,hb.keep h.t1,hb.keep h.t2,hb.keep h.t3,hb.keep h.t4,hb.bMw h.t4 h.g4⟩
theorem IT.new (V:World) (B:Nat) (hB:V.heap.size=B) (i:qE) (t:TypeId):IT (V.alloc (.cells #[nmV i.nm,.int .i64 i.n,.int .i64 i.r,.int .i64 i.m,.int .i64 i.x] t)) B i:=by
 subst hB;exact⟨by simp,by simp,by simp,by simp,by simp,by simp⟩
theorem IT.setx {W:World} {T:Nat} {i:qE} (h:IT W T i) (e:Int):IT (W.setCell ⟨T,4,none⟩ (.int .i64 e)) T ⟨i.nm,i.n,i.r,i.m,e⟩:=by
 have k:∀ (j:Nat),4≠j->(W.setCell ⟨T,4,none⟩ (.int .i64 e)).cell? ⟨T,j,none⟩=W.cell? ⟨T,j,none⟩:=fun j hij=>World.cell?_setCell_other _ _ _ _ (fun e=>hij (Addr.mk.inj e).2.1);exact⟨(k 0 (by omega)).trans h.t0,(k 1 (by omega)).trans h.t1,(k 2 (by omega)).trans h.t2,(k 3 (by omega)).trans h.t3,World.cell?_setCell_same _ _ _ h.t4,by rw[World.frozen?_setCell];exact h.g4⟩
theorem IT.of_ri {w W:World} {T:Nat} (h:RI w W T) (i:qE):IT (qU W T i) T i:=by
 obtain⟨j0,j1,j2,j3,j4⟩:=h.cells i;refine⟨j0,j1,j2,j3,j4,?_⟩;rw[World.frozen?_setCell,World.frozen?_setCell,World.frozen?_setCell,World.frozen?_setCell,World.frozen?_setCell];exact h.f4
theorem RI.bMx {w W:World} {R T j:Nat} {u:Value} (h:RI w W R) (hne:R≠T) (hT:w.heap.size<=T):RI w (W.setCell ⟨T,j,none⟩ u) R:=by
 have k:∀ j',(W.setCell ⟨T,j,none⟩ u).cell? ⟨R,j',none⟩=W.cell? ⟨R,j',none⟩:=fun j'=>cell_far hne;exact⟨(k 0).trans h.r0,(k 1).trans h.r1,(k 2).trans h.r2,(k 3).trans h.r3,(k 4).trans h.r4,by rw[World.frozen?_setCell];exact h.f0,by rw[World.frozen?_setCell];exact h.f1,by rw[World.frozen?_setCell];exact h.f2,by rw[World.frozen?_setCell];exact h.f3,by rw[World.frozen?_setCell];exact h.f4,h.le,h.bel.setCell hT _⟩
structure IH (w W:World) (a:Option Addr) (n:Int) (m c X T:Nat) (x:RT) (i:qE):Prop where
 bh:BH w W a n m c
 vx:VX W X x
 it:IT W T i
 ri:RI w W (w.heap.size+1)
 xr:w.heap.size+1<X
 xt:X<T
theorem IH.later {w W W':World} {a:Option Addr} {n:Int} {m c X T:Nat} {x:RT} {i:qE} (h:IH w W a n m c X T x i) (hb:Below W.heap.size W W'):IH w W' a n m c X T x i:=
 ⟨h.bh.later hb,h.vx.later hb,h.it.later hb,h.ri.later hb,h.xr,h.xt⟩
theorem IH.setx {w W:World} {a:Option Addr} {n:Int} {m c X T:Nat} {x:RT} {i:qE} (h:IH w W a n m c X T x i) (e:Int):IH w (W.setCell ⟨T,4,none⟩ (.int .i64 e)) a n m c X T x ⟨i.nm,i.n,i.r,i.m,e⟩:=by
 have h1:=h.xr;have h2:=h.xt;have k:∀ b j,b≠T->(W.setCell ⟨T,4,none⟩ (.int .i64 e)).cell? ⟨b,j,none⟩=W.cell? ⟨b,j,none⟩:=fun b j hb=>cell_far hb;exact⟨⟨(k _ _ (by omega)).trans h.bh.b0,(k _ _ (by omega)).trans h.bh.b1,h.bh.B.setCell (by simp only;omega) _⟩,
  ⟨(k _ _ (by omega)).trans h.vx.x0,(k _ _ (by omega)).trans h.vx.x1,(k _ _ (by omega)).trans h.vx.x2,(k _ _ (by omega)).trans h.vx.x3,by rw[World.frozen?_setCell];exact h.vx.g0,by rw[World.frozen?_setCell];exact h.vx.g2,by rw[World.frozen?_setCell];exact h.vx.g3⟩,
  h.it.setx e,h.ri.bMx (by omega) (by omega),h1,h2⟩
theorem BH.initI (w:World) (a:Option Addr) (n:Int) (m c:Nat) (W:World) (hW:W=(w.alloc (.cells #[.int .i64 n,.slice a m c] 31)).alloc (.cells #[nmV [],.int .i64 0,.int .i64 0,.int .i64 0,.int .i64 0] 73)):
  BH w W a n m c/\RI w W (w.heap.size+1):=by
 subst hW;have h:=RI.new w _ 73 ((Below.refl w.heap.size w).bMq (.cells #[.int .i64 n,.slice a m c] 31));rw[show(w.alloc (.cells #[.int .i64 n,.slice a m c] 31)).heap.size=w.heap.size+1 by simp]at h;exact⟨(BH.init w a n m c).later ((Below.refl _ _).bMq _),h⟩
theorem aGx (F:Fam) (hF:F.ok) {v:Vol} (hv:aP F.vs v.nm=some v):eP F v.nm=(⟨v.nm,v.n,v.r,aT v.l,dQ F.C v.l⟩,0):=by
 unfold eP;rw[hv,wK hF (aH hv).1];rfl
theorem uP {n:Nat} {w W:World} (h:Below n w W) {T:Nat} (hT:n<=T) (i:qE):Below n w (qU W T i):=((((h.setCell hT _).setCell hT _).setCell hT _).setCell hT _).setCell hT _
theorem qI {W:World} {T:Nat} {i:qE} {p:Addr} (h:p.block≠T):(qU W T i).cell? p=W.cell? p:=by
 rw[cell_far h,cell_far h,cell_far h,cell_far h,cell_far h]
theorem wD {W:World} {T:Nat} {i:qE} {p:Addr}:(qU W T i).frozen? p=W.frozen? p:=by
 rw[World.frozen?_setCell,World.frozen?_setCell,World.frozen?_setCell,World.frozen?_setCell,World.frozen?_setCell]
theorem IH.make {w W:World} {a:Option Addr} {n:Int} {m c X T:Nat} {x:RT} (i:qE) (bh:BH w W a n m c) (vx:VX W X x) (ri:RI w W (w.heap.size+1)) (rt:RI w W T) (xr:w.heap.size+1<X) (xt:X<T):IH w (qU W T i) a n m c X T x i:=by
 refine ⟨⟨(qI (by simp only;omega)).trans bh.b0,(qI (by simp only;omega)).trans bh.b1,uP bh.B (by omega) i⟩,
  ⟨(qI (by simp only;omega)).trans vx.x0,(qI (by simp only;omega)).trans vx.x1,(qI (by simp only;omega)).trans vx.x2,(qI (by simp only;omega)).trans vx.x3,wD.trans vx.g0,wD.trans vx.g2,wD.trans vx.g3⟩,
  IT.of_ri rt i,?_,xr,xt⟩
 exact((((ri.bMx (by omega) (by omega)).bMx (by omega) (by omega)).bMx (by omega) (by omega)).bMx (by omega) (by omega)).bMx (by omega) (by omega)
def bLu (w:World) (a:Option Addr) (n:Int) (m c X:Nat) (x:RT) (i:qE) (p:Value) (W:World):Prop:= ∃T,p= .pointer (some ⟨T,0,none⟩)/\IH w W a n m c X T x i
theorem bDq (F:Fam) (gv:Value) (nm:List UInt8) (w:World) (hF:F.ok) (h:bI w gv F) (hnm:nm.length<=maxLen):
    Calls Tryz.prog 70 #[gv,nmV nm] w (aSx w (eP F nm).1 (eP F nm).2):=by
  obtain⟨a,c,ts,rfl,hr,hl,hts,_⟩:=h;have h32:=(jN hF hts).2;obtain⟨h0,h1⟩:=BH.initI w a F.N ts.length c _ rfl;have HH:=hid h0;have HI:=hid h1;have HR:=hid hr;have HL:=hid hl;have HTS:=hid hts;have HF:=hid hF;clear hr hl hts hF h0 h1
  cases hg:aP F.vs nm with
  | none=>
    rw[show eP F nm=(⟨[],0,0,0,0⟩,9) by simp[eP,hg]];have HAT:=hid (mO HTS.o hg);clear hg;go_enter Tryz.func70,Tryz.ntmps70;go_wp2_with fail;refine(gU F.N ts nm a c _ (HR.o.keep HH.o.B) _ HAT.o).mono ?_;rintro e w1 ⟨rfl,hb⟩;have HI1:=hid (HI.o.later hb);clear hb;have r0:=HI1.o.r0;have r1:=HI1.o.r1;have r2:=HI1.o.r2;have r3:=HI1.o.r3;have r4:=HI1.o.r4;have f0:=HI1.o.f0;have f1:=HI1.o.f1;have f2:=HI1.o.f2;have f3:=HI1.o.f3;have f4:=HI1.o.f4;go_wp2_with fail;have hj:=HI1.o.cells ⟨[],0,0,0,0⟩;have hbl:=HI1.o.below ⟨[],0,0,0,0⟩;show bodyPost _ _ _ _ _ (qU w1 (w.heap.size+1) ⟨[],0,0,0,0⟩);clear r0 r1 r2 r3 r4 f0 f1 f2 f3 f4;generalize qU w1 (w.heap.size+1) ⟨[],0,0,0,0⟩=W at hj hbl ⊢;obtain⟨j0,j1,j2,j3,j4⟩:=hj;simp only[nmV]at j0
    (try simp only[Exit.inBlock,Exit.then])
    refine bodyPost_ret (v:= .tuple #[.agg #[.string ⟨#[]⟩,.int .i64 0,.int .i64 0,.int .i64 0,.int .i64 0],.int .i64 9]) (by first|(rw[results_cell_tmp rfl];go_simp;done)|(rw[aB rfl];go_simp;done)|(rw[aA rfl];go_simp;done)) rfl ?_;exact⟨rfl,hbl⟩
  | some v =>
    have hvn:=(aH hg).2;have hrf:=aGx F HF.o (v:=v) (by rw[hvn];exact hg);rw[hvn]at hrf;rw[hrf];obtain⟨k,hk,hat,hv,hkn⟩:=gQ HTS.o hg;have hok:=HF.o.vol v (aH hg).1;have HAT:=hid hat;have HMEM:=hid (List.getElem_mem hk);have HGET:=hid (List.getElem?_eq_getElem hk);generalize ts[k]=x at *;subst hv;have HOK:=hid hok;have HKN:=hid hkn;have HCN:=hid F.bMs;have HRNG:=hid HF.o.range;clear hg hat hok hkn hvn hrf;go_enter Tryz.func70,Tryz.ntmps70;go_wp2_with fail;refine(gU F.N ts nm a c _ (HR.o.keep HH.o.B) _ HAT.o).mono ?_;rintro e w1 ⟨rfl,hb⟩;have hva:=hb.bMq (.cells #[nmV x.nm,.int .i64 x.n,.int .i64 x.r,x.sl] 153);have HH2:=hid (HH.o.later hva);have HI2:=hid (HI.o.later hva);have HX2:=hid (VX.new w1 _ rfl x 153);have HRX:Hid (w.heap.size+1<w1.heap.size):=hid (World.block_lt_of_cell? w1 ⟨w.heap.size+1,0,none⟩ (HI.o.later hb).r0);have b0:=(HH.o.later hb).b0;have b1:=(HH.o.later hb).b1;obtain⟨b,o,rfl,hat⟩:=(HR.o.keep (HH.o.later hb).B).at (by omega);obtain⟨e0,e1,e2,e3⟩:=hat k x HGET.o;clear hat hva hb;have x0:=HX2.o.x0;have x1:=HX2.o.x1;have x2:=HX2.o.x2;have x3:=HX2.o.x3;go_upto_region 5 with fail;clear e0 e1 e2 e3 b0 b1 x0 x1 x2 x3 HH HI;generalize w1.alloc (.cells #[nmV x.nm,.int .i64 x.n,.int .i64 x.r,x.sl] 153)=w2 at *;generalize w1.heap.size=X at*
    go_cut [8] from 8 to 32 (fun p wx=>bLu w (some ⟨b,o,none⟩) F.N ts.length c X x ⟨x.nm,x.n,x.r,aT x.l,0⟩ p wx)
    case first =>
      have HV:=hid (HX2.o.later (Below.refl _ _).drew);have HLX:=hid ((HL.o x HMEM.o).keep HH2.o.B.drew);have HWF:Hid (wfL x.l):=hid fun z hz=>aBv (aK HOK.o.valid z hz);have hXl:=HX2.o.lt;have hBV:xX x.l=aT x.l:=aDx HOK.o.valid;have h9d:w2.drew.heap.size=w2.heap.size:=rfl;have HT0:Hid (RI w (w2.alloc (.cells #[.string ⟨#[]⟩,.int .i64 0,.int .i64 0,.int .i64 0,.int .i64 0] 73)).drew w2.heap.size):=hid (RI.later (RI.new w w2 73 HH2.o.B) (Below.refl _ _).drew);have hAL:Below w2.drew.heap.size w2.drew (w2.alloc (.cells #[.string ⟨#[]⟩,.int .i64 0,.int .i64 0,.int .i64 0,.int .i64 0] 73)).drew:=(Below.refl w2.drew.heap.size w2.drew).bMq (.cells #[.string ⟨#[]⟩,.int .i64 0,.int .i64 0,.int .i64 0,.int .i64 0] 73);have HAV:=hid (HV.o.later hAL);have HAL:=hid hAL;clear hAL
      go_region_held3 (fun w'=>w'.cell? ⟨X,0,none⟩=some (nmV x.nm)/\w'.cell? ⟨X,1,none⟩=some (.int .i64 x.n)/\w'.cell? ⟨X,2,none⟩=some (.int .i64 x.r)/\w'.cell? ⟨X,3,none⟩=some x.sl/\Below w2.drew.heap.size w2.drew w')
        (first
          |with_reducible exact⟨HV.o.x0,HV.o.x1,HV.o.x2,HV.o.x3,Below.refl _ _⟩
          | (have hH:= ‹_/\_/\_/\_/\Below w2.drew.heap.size w2.drew _›
             have hW:= ‹Below w2.drew.heap.size w2.drew _/\True›.1;have hJ:=uP hW (T:=w2.heap.size) (Nat.le_refl _) ⟨x.nm,x.n,x.r,aT x.l,0⟩
             first
              |with_reducible exact⟨(HV.o.later hJ).x0,(HV.o.later hJ).x1,(HV.o.later hJ).x2,(HV.o.later hJ).x3,hJ⟩
              |with_reducible exact⟨(HV.o.later (hW.bMq _)).x0,(HV.o.later (hW.bMq _)).x1,(HV.o.later (hW.bMq _)).x2,(HV.o.later (hW.bMq _)).x3,hW.bMq _⟩
              |with_reducible exact⟨(HV.o.later hW).x0,(HV.o.later hW).x1,(HV.o.later hW).x2,(HV.o.later hW).x3,hW⟩)
          |with_reducible exact⟨HAV.o.x0,HAV.o.x1,HAV.o.x2,HAV.o.x3,HAL.o⟩)
        (first
          |(go_at_call 127;have hH:= ‹_/\_/\_/\_/\Below w2.drew.heap.size w2.drew _›;refine(aPh x.l x.a x.c _ (HLX.o.keep hH.2.2.2.2) HWF.o (by have:x.l.length<=100000:=nQ HOK.o;omega)).mono ?_;rw[hBV];rintro e w3 ⟨rfl,hb3⟩;have hB3:Below w2.drew.heap.size w2.drew w3/\True:=⟨hH.2.2.2.2.on hb3,trivial⟩;(try(have HT3:=hid (HT0.o.later hb3);have t0:=HT3.o.r0;have t1:=HT3.o.r1;have t2:=HT3.o.r2;have t3:=HT3.o.r3;have t4:=HT3.o.r4;have s0:=HT3.o.f0;have s1:=HT3.o.f1;have s2:=HT3.o.f2;have s3:=HT3.o.f3;have s4:=HT3.o.f4))))
      · have h23:=(Below.refl w2.heap.size w2).drew.on hB3.1;have hk:=h23.bMq (.cells #[nmV x.nm,.int .i64 x.n,.int .i64 x.r,.int .i64 (aT x.l),.int .i64 0] 73);have HQ:Hid (bLu w (some ⟨b,o,none⟩) F.N ts.length c X x ⟨x.nm,x.n,x.r,aT x.l,0⟩ (.pointer (some ⟨w3.heap.size,0,none⟩)) (w3.alloc (.cells #[nmV x.nm,.int .i64 x.n,.int .i64 x.r,.int .i64 (aT x.l),.int .i64 0] 73))):=
          hid ⟨_,rfl,HH2.o.later hk,HX2.o.later hk,IT.new w3 _ rfl ⟨x.nm,x.n,x.r,aT x.l,0⟩ _,HI2.o.later hk,HRX.o,by have:=h23.size;omega⟩
        clear h23 hk hB3 hb3;go_wp2_with fail;go_meet;exact HQ.o
      · have h23:=(Below.refl w2.heap.size w2).drew.on hB3.1;have HQ:Hid (bLu w (some ⟨b,o,none⟩) F.N ts.length c X x ⟨x.nm,x.n,x.r,aT x.l,0⟩ (.pointer (some ⟨w2.heap.size,0,none⟩)) (qU w3 w2.heap.size ⟨x.nm,x.n,x.r,aT x.l,0⟩)):=
          hid ⟨_,rfl,IH.make _ (HH2.o.later h23) (HX2.o.later h23) (HI2.o.later h23) HT3.o HRX.o hXl⟩
        clear h23 hB3 hb3 t0 t1 t2 t3 t4 s0 s1 s2 s3 s4;go_wp2_with fail;go_meet;exact HQ.o
    case rest =>
      obtain⟨T,rfl,hih⟩:=hcut;obtain⟨W2,rfl⟩:∃ W2:World,W2=wc:=⟨_,rfl⟩;have HM:=hid hih;have b0:=hih.bh.b0;have b1:=hih.bh.b1;clear hih;go_wp2_with fail;refine(tL F F.C rfl ts (some ⟨b,o,none⟩) c _ HF.o HTS.o (HR.o.keep HM.o.bh.B) (HL.o.keep HM.o.bh.B)).mono ?_;rintro e w5 ⟨cv,rfl,ho,hb⟩;obtain⟨ca,cc,rfl,_⟩:=ho.rd (by rw[HCN.o];exact HF.o.hN);have HM5:=hid (HM.o.later hb);have HOC:=hid (ho.mono HM.o.it.lt);have HLX:=hid ((HL.o x HMEM.o).keep (HM.o.later hb).bh.B);have HW5:=hid (HM.o.later hb).bh.B;clear ho hb b0 b1 HM;have hp0:aS F.C.length x.l=true:=by rw[HCN.o];exact HOK.o.perm
      have HPM:=hid ((aO _ _).1 hp0);clear hp0;have HNN:=hid HF.o.hN;have hl9:x.l.length<=100000:=nQ HOK.o;have HETK:=hid (zH F.C x.l);have HBD:Hid (∀k,0<=dQ F.C (x.l.take k)/\dQ F.C (x.l.take k)<=65536*100000):=hid fun k=>by
        have h1:=aAv F.C (x.l.take k) 65536 (fun y hy=>by
          have h2:=(aO _ _).1 HOK.o.perm y (List.mem_of_mem_take hy);have h3:=HF.o.hN
          omega)
        have h4:=List.length_take_le' k x.l;omega
      have HVOL:Hid (x.vol.n=x.n/\x.vol.r=x.r/\x.vol.l=x.l):=hid ⟨rfl,rfl,rfl⟩;rw[HVOL.o.1,HVOL.o.2.1,HVOL.o.2.2];generalize F.C=C at *;have hC9:C.length<=65536:=by rw[HCN.o];exact HNN.o
      clear HOK HF HTS HR HGET HRNG HAT HH2 HI2 HX2 HRX HVOL;go_wp2_with fail;go_loopw [10] (fun i wr=>∃ k:Nat,k<=x.l.length/\i= .int .i64 k/\IH w wr (some ⟨b,o,none⟩) F.N ts.length c X T x ⟨x.nm,x.n,x.r,aT x.l,dQ C (x.l.take k)⟩/\dE wr (T+1) (.slice ca C.length cc) C) (fun i _=>x.l.length-(intOf i).toNat)
      case atStart=>exact⟨0,Nat.zero_le _,rfl,HM5.o,HOC.o⟩
      case round =>
        clear HM5 HOC;obtain⟨k,hk,rfl,hm,hoc⟩:=hrel;have HM:=hid hm;have HOC:=hid hoc;have v3:wr.cell? ⟨X,3,none⟩=some (.slice x.a x.l.length x.c):=hm.vx.x3;by_cases hlt:k<x.l.length
        · have hrl:=(HL.o x HMEM.o).keep hm.bh.B;obtain⟨eb,eo,hea,hat⟩:=hrl.at (by omega);rw[hea]at v3;have HAT2:=hid (hat k _ (List.getElem?_eq_getElem hlt));obtain⟨y1,y2,y3⟩:=HPM.o _ (List.getElem_mem hlt);have HT:=hid (HETK.o k hlt);obtain⟨d1,d2⟩:=HBD.o k;obtain⟨d3,d4⟩:=HBD.o (k+1);have HKY:=hid (List.getElem?_eq_getElem hlt);generalize x.l[k]=y at *;have HEX:Hid (dQ C (x.l.take (k+1))=dQ C (x.l.take (k+1))):=hid rfl;obtain⟨ex1,hex1⟩:∃ e,dQ C (x.l.take (k+1))=e:=⟨_,rfl⟩;replace HEX:=hid hex1;rw[hex1]at HT d3 d4;clear hex1;generalize dQ C (x.l.take k)=ex0 at *;have a2:=HAT2.o.s;clear hm hoc hrl hat;have hk0:(0:Int)<=k:=by omega
          have hk1:(k:Int)<x.l.length:=by omega
          go_wp2_with fail;obtain⟨s0,hs0⟩:∃ s0:Nat,(s0:Int)=y.s:=⟨y.s.toNat,by omega⟩;obtain⟨n0,hn0⟩:∃ n0:Nat,(n0:Int)=y.n:=⟨y.n.toNat,by omega⟩;have HS0:=hid hs0;have HN0:=hid hn0;have HOX:Hid (ex1=ex0+aL (fun j=>bB C (s0+j)) n0):=hid (by rw[HT.o];unfold aMr;rw[<-hs0,<-hn0];simp);have hsn:s0+n0<=C.length:=by omega
          clear hs0 hn0 HT;go_loopw [11] (fun t wi=>∃ p:Nat,p<=n0/\t= .int .i64 ((s0:Int)+p)/\IH w wi (some ⟨b,o,none⟩) F.N ts.length c X T x ⟨x.nm,x.n,x.r,aT x.l,ex0+aL (fun j=>bB C (s0+j)) p⟩/\dE wi (T+1) (.slice ca C.length cc) C) (fun t _=>(s0+n0)-(intOf t).toNat)
          case atStart=>exact⟨0,Nat.zero_le _,by rw[<-HS0.o];simp,by simpa [aL]using HM.o,HOC.o⟩
          case round=>
            clear HM HOC v3 a2 HAT2;obtain⟨p,hp,rfl,hmi,hoi⟩:=hrel;have HA2:=hid (((HL.o x HMEM.o).keep hmi.bh.B).at (by omega));have HMI:=hid hmi;have HOI:=hid hoi;clear hmi hoi;have q3:wr.cell? ⟨X,3,none⟩=some (.slice x.a x.l.length x.c):=HMI.o.vx.x3;rw[hea]at q3;have hat3:At wr eb eo k y:=by
              obtain⟨eb2,eo2,he2,hat2⟩:=HA2.o;rw[hea]at he2;injection he2 with he2;injection he2 with h9 h10;subst h9 h10;exact hat2 k y HKY.o
            have HA3:=hid hat3;clear hat3 HA2;have z3:=q3;have z1:=HA3.o.n;have z2:=HA3.o.s;have hw:IntKind.i64.wrap (y.s+y.n)=y.s+y.n:=IntWalk.i64_in _ (by have:=HCN.o;have:=HNN.o;omega);by_cases hpn:p<n0
            · have hlb:decide ((s0:Int)+p<y.s+y.n)=true:=decide_eq_true (by have:=HS0.o;have:=HN0.o;omega);go_wp2_with fail;refine aC (by kernel_rfl) (by kernel_rfl) ?_
              repeat(go_big_quiet_step (fail))
              refine wpQuiet_nil ?_;intro _ hw';obtain⟨nq,hw''⟩:=hw';subst hw'';have HM2:=hid (HMI.o.later (World.bMr wr nq));have HO2:=hid (dE.keep HOI.o (World.bMr wr nq));have hsl:s0+p<C.length:=by omega
              obtain⟨pa,pc,hpe,hpr⟩:=dE.rd HO2.o (by have:=HCN.o;have:=HNN.o;omega);injection hpe with hpe1 hpe2 hpe3;subst hpe1;obtain⟨cb,co,hca,hatc⟩:=hpr.at (by omega);clear hpr hpe2 hpe3;have h1:=hatc (s0+p) _ (getD_some C (s0+p) hsl);have hs1:(0:Int)<=(s0:Int)+p:=by omega
              have hs2:(s0:Int)+p<C.length:=by omega
              have HAR:Hid (aL (fun j=>bB C (s0+j)) (p+1)=aL (fun j=>bB C (s0+j)) p+if bB C (s0+p)=true then 1 else 0):=hid rfl;have hal:=iP (fun j=>bB C (s0+j)) p;have hob:bB C (s0+p)=(C.getD (s0+p) 0==1):=by unfold bB;rw[Bool.eq_iff_iff];simp
              rw[hob]at HAR;generalize C.getD (s0+p) 0=cv at *;generalize aL (fun j=>bB C (s0+j)) p=ar0 at *;have h4:=HM2.o.it.t4;have g4:=HM2.o.it.g4;have hq9:wrap64 (ex0+(ar0:Int)+1)=ex0+ar0+1:=by unfold wrap64;have:=HCN.o;have:=HNN.o;omega
              clear hob hatc q3 z3 z1 z2 HA3 HMI HOI hw;cases hcv:(cv==1)
              · have HE:Hid (aL (fun j=>bB C (s0+j)) (p+1)=ar0):=hid (by rw[HAR.o,hcv];simp);clear h4 g4 HAR;go_wp2_with fail;go_roundw
                case rel=>exact⟨p+1,by omega,by go_num,by rw[HE.o];exact HM2.o,HO2.o⟩
                case measure=>simp[intOf];omega
              · have HE:Hid (aL (fun j=>bB C (s0+j)) (p+1)=ar0+1):=hid (by rw[HAR.o,hcv];simp);have HM3:=hid (HM2.o.setx (ex0+ar0+1));have HO3:=hid (dE.away HO2.o ⟨T,4,none⟩ (.int .i64 (ex0+ar0+1)) (fun e=>by have:=(dE.lt HO2.o _ e).1;simp only at this;omega));clear HAR;go_wp2_with fail;go_roundw
                case rel=>exact⟨p+1,by omega,by go_num,by rw[HE.o,show ex0+((ar0+1:Nat):Int)=ex0+ar0+1 by omega];exact HM3.o,HO3.o⟩
                case measure=>simp[intOf];omega
            · have hpe:p=n0:=by omega
              subst hpe;have hlb:decide ((s0:Int)+p<y.s+y.n)=false:=decide_eq_false (by have:=HS0.o;have:=HN0.o;omega);go_wp2_with fail;refine aC (by kernel_rfl) (by kernel_rfl) ?_
              repeat(go_big_quiet_step (fail))
              refine wpQuiet_nil ?_;intro _ hw';obtain⟨nq,hw''⟩:=hw';subst hw'';have HM2:=hid (HMI.o.later (World.bMr wr nq));have HO2:=hid (dE.keep HOI.o (World.bMr wr nq));clear q3 z3 z1 z2 HA3 HMI HOI hw;go_wp2_with fail;go_roundw
              case rel=>exact⟨k+1,by omega,by go_num,by rw[HEX.o,HOX.o];exact HM2.o,HO2.o⟩
              case measure=>simp[intOf];omega
        · obtain rfl:k=x.l.length:=by omega
          rw[List.take_length]at HM;have hm2:=HM.o;have s0:=hm2.it.t0;have s1:=hm2.it.t1;have s2:=hm2.it.t2;have s3:=hm2.it.t3;have s4:=hm2.it.t4;have HRI:=hid hm2.ri;clear hm hm2;have r0:=HRI.o.r0;have r1:=HRI.o.r1;have r2:=HRI.o.r2;have r3:=HRI.o.r3;have r4:=HRI.o.r4;have f0:=HRI.o.f0;have f1:=HRI.o.f1;have f2:=HRI.o.f2;have f3:=HRI.o.f3;have f4:=HRI.o.f4;go_wp2_with fail;have hj:=HRI.o.cells ⟨x.nm,x.n,x.r,aT x.l,dQ C x.l⟩;have hbl:=HRI.o.below ⟨x.nm,x.n,x.r,aT x.l,dQ C x.l⟩;show bodyPost _ _ _ _ _ (qU wr (w.heap.size+1) ⟨x.nm,x.n,x.r,aT x.l,dQ C x.l⟩);clear r0 r1 r2 r3 r4 f0 f1 f2 f3 f4 s0 s1 s2 s3 s4 v3 HM HOC;generalize qU wr (w.heap.size+1) ⟨x.nm,x.n,x.r,aT x.l,dQ C x.l⟩=W at hj hbl ⊢;obtain⟨j0,j1,j2,j3,j4⟩:=hj;rw[<-HKN.o];simp only[nmV]at j0;have HBL:=hid hbl;clear hbl
          (try simp only[Exit.inBlock,Exit.then])
          refine bodyPost_ret (v:= .tuple #[.agg #[.string ⟨x.nm.toArray⟩,.int .i64 x.n,.int .i64 x.r,.int .i64 (aT x.l),.int .i64 (dQ C x.l)],.int .i64 0]) (by first|(rw[results_cell_tmp rfl];go_simp;done)|(rw[aB rfl];go_simp;done)|(rw[aA rfl];go_simp;done)) rfl ?_;exact⟨rfl,HBL.o⟩
open Go.RowKit Go.Maps
structure SX (W:World) (X:Nat) (s:aW):Prop where
 s0:W.cell? ⟨X,0,none⟩=some (.int .u8 s.k)
 s1:W.cell? ⟨X,1,none⟩=some (.int .u8 s.v)
 s2:W.cell? ⟨X,2,none⟩=some (.int .u8 s.o)
 s3:W.cell? ⟨X,3,none⟩=some (.int .u8 s.a)
 s4:W.cell? ⟨X,4,none⟩=some (.int .u8 s.n)
 s5:W.cell? ⟨X,5,none⟩=some (.int .u8 s.s)
abbrev aW.val (s:aW):Value:= .agg #[.int .u8 s.k,.int .u8 s.v,.int .u8 s.o,.int .u8 s.a,.int .u8 s.n,.int .u8 s.s]
theorem SX.later {W W':World} {X:Nat} {s:aW} (h:SX W X s) (hb:Below W.heap.size W W'):SX W' X s:=
 ⟨hb.keep h.s0,hb.keep h.s1,hb.keep h.s2,hb.keep h.s3,hb.keep h.s4,hb.keep h.s5⟩
theorem SX.new (V:World) (B:Nat) (hB:V.heap.size=B) (s:aW) (t:TypeId):SX (V.alloc (.cells #[.int .u8 s.k,.int .u8 s.v,.int .u8 s.o,.int .u8 s.a,.int .u8 s.n,.int .u8 s.s] t)) B s:=by
 subst hB;exact⟨by simp,by simp,by simp,by simp,by simp,by simp⟩
structure PH (w W:World) (t:TypeId) (u v z0 z1:Value) (s:aW):Prop where
 fb:Bx W w.heap.size t u v
 sx:SX W (w.heap.size+1) s
 rb:Bx W (w.heap.size+1+1) t z0 z1
 B:Below w.heap.size w W
theorem PH.later {w W W':World} {t:TypeId} {u v z0 z1:Value} {s:aW} (h:PH w W t u v z0 z1 s) (hb:Below W.heap.size W W'):PH w W' t u v z0 z1 s:=
 ⟨h.fb.later hb,h.sx.later hb,h.rb.later hb,h.B.on hb⟩
theorem PH.init (w W:World) (t ts:TypeId) (u v z0 z1:Value) (s:aW) (hW:W=((w.alloc (.cells #[u,v] t)).alloc (.cells #[.int .u8 s.k,.int .u8 s.v,.int .u8 s.o,.int .u8 s.a,.int .u8 s.n,.int .u8 s.s] ts)).alloc (.cells #[z0,z1] t)):PH w W t u v z0 z1 s:=by
 subst hW;have h1:=(Below.refl (w.alloc (.cells #[u,v] t)).heap.size (w.alloc (.cells #[u,v] t))).bMq (.cells #[.int .u8 s.k,.int .u8 s.v,.int .u8 s.o,.int .u8 s.a,.int .u8 s.n,.int .u8 s.s] ts);have h2:=(Below.refl ((w.alloc (.cells #[u,v] t)).alloc (.cells #[.int .u8 s.k,.int .u8 s.v,.int .u8 s.o,.int .u8 s.a,.int .u8 s.n,.int .u8 s.s] ts)).heap.size ((w.alloc (.cells #[u,v] t)).alloc (.cells #[.int .u8 s.k,.int .u8 s.v,.int .u8 s.o,.int .u8 s.a,.int .u8 s.n,.int .u8 s.s] ts))).bMq (.cells #[z0,z1] t);exact⟨((Bx.new w _ rfl u v t).later h1).later h2,(SX.new (w.alloc (.cells #[u,v] t)) (w.heap.size+1) (by simp) s ts).later h2,Bx.new _ _ (by simp) z0 z1 t,(((Below.refl _ _).bMq _).bMq _).bMq _⟩
theorem PH.far {w W:World} {t:TypeId} {u v z0 z1:Value} {s:aW} {T:Nat} (h:PH w W t u v z0 z1 s) (hT:w.heap.size+1+1<T) (x y:Value):PH w (dN W T x y) t u v z0 z1 s:=
 ⟨h.fb.far (by omega) x y,⟨(cO (by simp only;omega)).trans h.sx.s0,(cO (by simp only;omega)).trans h.sx.s1,(cO (by simp only;omega)).trans h.sx.s2,(cO (by simp only;omega)).trans h.sx.s3,(cO (by simp only;omega)).trans h.sx.s4,(cO (by simp only;omega)).trans h.sx.s5⟩,h.rb.far (by omega) x y,(h.B.setCell (by simp only;omega) _).setCell (by simp only;omega) _⟩
theorem PH.below {w W:World} {t:TypeId} {u v z0 z1:Value} {s:aW} (h:PH w W t u v z0 z1 s) (x y:Value):Below w.heap.size w (dN W (w.heap.size+1+1) x y):=(h.B.setCell (by simp only;omega) _).setCell (by simp only;omega) _
theorem dZ (n:Int) (nm:List UInt8) (w:World) (hn:0<=n/\n<=255) (h:aY n=nm):Calls Tryz.prog 48 #[.int .u8 n] w fun e w'=>e= .returned (nmV nm)/\Below w.heap.size w w':=by
 subst h;exact aZs n w hn
theorem bI.form {w:World} {gv:Value} {F:Fam} (h:bI w gv F):∃ a n c,gv= .agg #[.int .i64 F.N,.slice a n c]:=by
 obtain⟨a,c,ts,h,_⟩:=h;exact⟨a,_,c,h⟩
def bKe (w:World) (fam:World->Value->Fam->Prop) (t:TypeId) (u v z0 z1:Value) (s:aW) (G:Fam) (x0:Int) (p q:Value) (W:World):Prop:=
 ∃T x y,p= .pointer (some ⟨T,0,none⟩)/\q= .int .i64 x0/\Bx W T t x y/\fam W (.agg #[x,y]) G/\PH w W t u v z0 z1 s/\T≠w.heap.size+1+1
theorem bAb (F:Fam) (gv:Value) (s:aW) (w:World) (hF:F.ok) (h:bI w gv F) (hs:s.ok):
  Calls Tryz.prog 107 #[gv,s.val] w (aIl w (iB F s).1 (iB F s).2.1 (iB F s).2.2):=by
 obtain⟨a,n,c,rfl⟩:=h.form;have HH:=hid (PH.init w _ 31 66 (.int .i64 F.N) (.slice a n c) (.int .i64 0) (.slice none 0 0) s rfl);have HFAM:=hid h;have HF:=hid hF;obtain⟨nm,hnm,hnl⟩:∃ nm,aY s.v=nm/\nm.length<=maxLen:=⟨_,rfl,xL _⟩;obtain⟨ot,hot,hol⟩:∃ nm,aY s.o=nm/\nm.length<=maxLen:=⟨_,rfl,xL _⟩;have HNM:=hid hnm;have HOT:=hid hot;have HS:=hid hs;have bk:=hs.k;have ba:=hs.a;have bn:=hs.n;have bs:=hs.s;have hst:iB F s=if s.k%8=0 then ((aU F nm s.n s.a).1,[],(aU F nm s.n s.a).2)else if s.k%8=1 then ((bJ F nm ot).1,[],(bJ F nm ot).2)else if s.k%8=2 then bC F nm else if s.k%8=3 then bY F nm s.a s.n else aQ F nm ⟨s.a,s.n,s.s⟩:=by rw[<-hnm,<-hot];rfl
 rw[hst];clear h hF hs hst hnm hot;by_cases h0:s.k%8=0
 ·rw[if_pos h0];have e0:(s.k%8==0)=true:=by simpa using h0
  obtain⟨G,x0,hcr⟩:∃ G x0,aU F nm s.n s.a=(G,x0):=⟨_,_,rfl⟩;have HC:=hid hcr;rw[hcr];clear h0 hcr;go_enter Tryz.func107,Tryz.ntmps107;go_wp2_with fail;refine(dZ s.v nm _ HS.o.v HNM.o).mono ?_;rintro e w1 ⟨rfl,hb⟩;have HH:=hid (HH.o.later hb);clear hb;have b0:=HH.o.fb.c0;have b1:=HH.o.fb.c1;have s0:=HH.o.sx.s0;have s1:=HH.o.sx.s1;have s2:=HH.o.sx.s2;have s3:=HH.o.sx.s3;have s4:=HH.o.sx.s4;have s5:=HH.o.sx.s5;have r0:=HH.o.rb.c0;have r1:=HH.o.rb.c1;have f0:=HH.o.rb.f0;have f1:=HH.o.rb.f1;go_wp2_with fail;have hq:=aUf F _ nm s.n s.a _ HF.o (HFAM.o.keep HH.o.B) hnl;rw[HC.o]at hq;refine hq.mono ?_;rintro e w2 ⟨gv,rfl,hg,hb⟩;obtain⟨ga,gn,gc,rfl⟩:=hg.form;have hk:=hb.bMq (.cells #[.int .i64 G.N,.slice ga gn gc] 31);have HG:=hid (hg.keep ((Below.refl w2.heap.size w2).bMq (.cells #[.int .i64 G.N,.slice ga gn gc] 31)));have HX:=hid (Bx.new w2 _ rfl (.int .i64 G.N) (.slice ga gn gc) 31);have HH:=hid (HH.o.later hk);clear hb hg hk hq b0 b1 s0 s1 s2 s3 s4 s5 r0 r1 f0 f1;have r0:=HH.o.rb.c0;have r1:=HH.o.rb.c1;have f0:=HH.o.rb.f0;have f1:=HH.o.rb.f1;have t0:=HX.o.c0;have t1:=HX.o.c1;go_wp2_with fail;have j0:=(HH.o.rb.put (.int .i64 G.N) (.slice ga gn gc)).c0;have j1:=(HH.o.rb.put (.int .i64 G.N) (.slice ga gn gc)).c1
  (try simp only[Exit.inBlock,Exit.then])
  refine bodyPost_ret (v:= .tuple #[.agg #[.int .i64 G.N,.slice ga gn gc],.slice none 0 0,.int .i64 x0]) (by first|(rw[results_cell_tmp rfl];go_simp;done)|(rw[aB rfl];go_simp;done)|(rw[aA rfl];go_simp;done)) rfl ?_;exact⟨_,_,rfl,HH.o.rb.famR HG.o,aG.nil _ _,HH.o.below _ _⟩
 rw[if_neg h0];have e0:(s.k%8==0)=false:=by simpa using h0
 by_cases h1:s.k%8=1
 ·rw [if_pos h1];have e1:(s.k%8==1)=true:=by simpa using h1
  obtain⟨G,x0,hcr⟩:∃ G x0,bJ F nm ot=(G,x0):=⟨_,_,rfl⟩;have HC:=hid hcr;rw[hcr];clear h0 h1 hcr;go_enter Tryz.func107,Tryz.ntmps107;go_wp2_with fail;refine(dZ s.v nm _ HS.o.v HNM.o).mono ?_;rintro e w1 ⟨rfl,hb⟩;have HH:=hid (HH.o.later hb);clear hb;have b0:=HH.o.fb.c0;have b1:=HH.o.fb.c1;have s0:=HH.o.sx.s0;have s1:=HH.o.sx.s1;have s2:=HH.o.sx.s2;have s3:=HH.o.sx.s3;have s4:=HH.o.sx.s4;have s5:=HH.o.sx.s5;have r0:=HH.o.rb.c0;have r1:=HH.o.rb.c1;have f0:=HH.o.rb.f0;have f1:=HH.o.rb.f1;go_upto_region 7 with fail;clear b0 b1 s0 s1 s2 s3 s4 s5 r0 r1 f0 f1
  go_cut [10,11] from 10 to 45 (fun p v wx=>bKe w bI 31 (.int .i64 F.N) (.slice a n c) (.int .i64 0) (.slice none 0 0) s G x0 p v wx)
  case first=>
   have HV:=hid (HH.o.later (Below.refl _ _).drew);have h9d:w1.drew.heap.size=w1.heap.size:=rfl;have HB1:Hid (Bx (w1.alloc (.cells #[(.int .i64 0),(.slice none 0 0)] 31)).drew w1.heap.size 31 (.int .i64 0) (.slice none 0 0)):=hid ((Bx.new w1 _ rfl (.int .i64 0) (.slice none 0 0) 31).later (Below.refl _ _).drew);have hAL:Below w1.drew.heap.size w1.drew (w1.alloc (.cells #[(.int .i64 0),(.slice none 0 0)] 31)).drew:=(Below.refl w1.drew.heap.size w1.drew).bMq (.cells #[(.int .i64 0),(.slice none 0 0)] 31);have HAV:=hid (HV.o.later hAL);have HAL:=hid hAL;clear hAL
   go_region_held3 (fun w'=>w'.cell? ⟨w.heap.size,0,none⟩=some (.int .i64 F.N)/\w'.cell? ⟨w.heap.size,1,none⟩=some (.slice a n c)/\w'.cell? ⟨w.heap.size+1,2,none⟩=some (.int .u8 s.o)/\Below w1.drew.heap.size w1.drew w')
    (first
     |with_reducible exact⟨HV.o.fb.c0,HV.o.fb.c1,HV.o.sx.s2,Below.refl _ _⟩
     |with_reducible exact⟨HAV.o.fb.c0,HAV.o.fb.c1,HAV.o.sx.s2,HAL.o⟩
     |with_reducible exact⟨HVN.o.fb.c0,HVN.o.fb.c1,HVN.o.sx.s2,hWN⟩
     |with_reducible exact⟨HVM.o.fb.c0,HVM.o.fb.c1,HVM.o.sx.s2,hWM⟩
     |with_reducible exact⟨HVK.o.fb.c0,HVK.o.fb.c1,HVK.o.sx.s2,hWK⟩
     |with_reducible exact⟨HVL.o.fb.c0,HVL.o.fb.c1,HVL.o.sx.s2,hWL⟩
     |with_reducible exact⟨HVR.o.fb.c0,HVR.o.fb.c1,HVR.o.sx.s2,hWR⟩
     |with_reducible exact⟨HVQ.o.fb.c0,HVQ.o.fb.c1,HVQ.o.sx.s2,hWQ⟩
     |with_reducible exact⟨HVP.o.fb.c0,HVP.o.fb.c1,HVP.o.sx.s2,hWP⟩)
    (first
     |(go_at_call 48;have hW:=(‹_/\_/\_/\Below w1.drew.heap.size w1.drew _›).2.2.2;refine(dZ s.o ot _ HS.o.o HOT.o).mono ?_;rintro e w2 ⟨rfl,hb2⟩;have hWN:=hW.on hb2;have HVN:=hid (HV.o.later hWN);have hWM:=hWN.bMq (.cells #[(.int .i64 0),(.slice none 0 0)] 31);have HVM:=hid (HV.o.later hWM);(try(have HBX:=hid (HB1.o.later hb2))))
     |(go_at_call 152;have hW:=(‹_/\_/\_/\Below w1.drew.heap.size w1.drew _›).2.2.2;have hW:=(Below.refl w1.heap.size w1).drew.on hW;have hq:=aZy F (.agg #[.int .i64 F.N,.slice a n c]) nm ot _ HF.o (HFAM.o.keep (HH.o.B.on hW)) hnl hol;rw[HC.o]at hq;refine hq.mono ?_;rintro e w3 ⟨gv,rfl,hg,hb3⟩;obtain⟨ga,gn,gc,rfl⟩:=hg.form;have hWK:=(‹_/\_/\_/\Below w1.drew.heap.size w1.drew _›).2.2.2.on hb3;have HVK:=hid (HV.o.later hWK);have hWL:=hWK.bMq (.cells #[.int .i64 G.N,.slice ga gn gc] 31);have HVL:=hid (HV.o.later hWL);(try(have HBX:=hid (HBX.o.later hb3)));(try(have HBX:=hid ((Bx.new w2 _ rfl (.int .i64 0) (.slice none 0 0) 31).later hb3)));(try(have t0:=HBX.o.c0;have t1:=HBX.o.c1;have t2:=HBX.o.f0;have t3:=HBX.o.f1));have hWR:=hWK.bMq (.cells #[(.int .i64 0),(.slice none 0 0)] 31);have HVR:=hid (HV.o.later hWR);have hWP:Below w1.drew.heap.size w1.drew (dN w3 w1.heap.size (.int .i64 G.N) (.slice ga gn gc)):=(hWK.setCell (Nat.le_refl _) _).setCell (Nat.le_refl _) _;have HVP:=hid (HV.o.later hWP);have hWQ:Below w1.drew.heap.size w1.drew (dN w3 w2.heap.size (.int .i64 G.N) (.slice ga gn gc)):=(hWK.setCell hWN.size _).setCell hWN.size _;have HVQ:=hid (HV.o.later hWQ)))
   ·have h13:=(Below.refl w1.heap.size w1).drew.on hWK;have hk:=h13.bMq (.cells #[.int .i64 G.N,.slice ga gn gc] 31);have HQ:Hid (bKe w bI 31 (.int .i64 F.N) (.slice a n c) (.int .i64 0) (.slice none 0 0) s G x0 (.pointer (some ⟨w3.heap.size,0,none⟩)) (.int .i64 x0) (w3.alloc (.cells #[.int .i64 G.N,.slice ga gn gc] 31))):=
     hid ⟨_,_,_,rfl,rfl,Bx.new w3 _ rfl (.int .i64 G.N) (.slice ga gn gc) 31,hg.keep ((Below.refl _ _).bMq _),HH.o.later hk,by have:=HH.o.rb.lt;have:=h13.size;omega⟩
    clear h13 hk hg hb3 hb2 hq hWN hWM hWK hWL hWP hWQ hWR hW;go_wp2_with fail;go_meet;exact HQ.o
   ·have h13:=(Below.refl w1.heap.size w1).drew.on hWK;have hlt:=HH.o.rb.lt;have hn2:w1.heap.size<=w2.heap.size:=hWN.size;have HQ:Hid (bKe w bI 31 (.int .i64 F.N) (.slice a n c) (.int .i64 0) (.slice none 0 0) s G x0 (.pointer (some ⟨w2.heap.size,0,none⟩)) (.int .i64 x0) (dN w3 w2.heap.size (.int .i64 G.N) (.slice ga gn gc))):=
     hid ⟨_,_,_,rfl,rfl,HBX.o.put _ _,HBX.o.famR hg,(HH.o.later h13).far (by omega) _ _,by omega⟩
    clear h13 hg hb3 hb2 hq hWN hWM hWK hWL hWP hWQ hWR hW t0 t1 t2 t3;go_wp2_with fail;go_meet;exact HQ.o
   ·have h13:=(Below.refl w1.heap.size w1).drew.on hWK;have hlt:=HH.o.rb.lt;have HQ:Hid (bKe w bI 31 (.int .i64 F.N) (.slice a n c) (.int .i64 0) (.slice none 0 0) s G x0 (.pointer (some ⟨w1.heap.size,0,none⟩)) (.int .i64 x0) (dN w3 w1.heap.size (.int .i64 G.N) (.slice ga gn gc))):=
     hid ⟨_,_,_,rfl,rfl,HBX.o.put _ _,HBX.o.famR hg,(HH.o.later h13).far (by omega) _ _,by omega⟩
    clear h13 hg hb3 hb2 hq hWN hWM hWK hWL hWP hWQ hWR hW t0 t1 t2 t3;go_wp2_with fail;go_meet;exact HQ.o
  case rest=>
   obtain ⟨T,x,y,rfl,rfl,hbx,hfm,hph,hne⟩:=hcut;obtain⟨W2,rfl⟩:∃ W2:World,W2=wc:=⟨_,rfl⟩;have HM:=hid hph;have HG:=hid hfm;have t0:=hbx.c0;have t1:=hbx.c1;have r0:=hph.rb.c0;have r1:=hph.rb.c1;have f0:=hph.rb.f0;have f1:=hph.rb.f1;obtain⟨ga,gn,gc,he⟩:=hfm.form;obtain⟨rfl,rfl⟩:x= .int .i64 G.N/\y= .slice ga gn gc:=by
    injection he with he;have h1:=congrArg Array.toList he;simp at h1;exact h1
   clear hbx hfm hph hne;go_wp2_with fail;have j0:=(HM.o.rb.put (.int .i64 G.N) (.slice ga gn gc)).c0;have j1:=(HM.o.rb.put (.int .i64 G.N) (.slice ga gn gc)).c1
   (try simp only[Exit.inBlock,Exit.then])
   refine bodyPost_ret (v:= .tuple #[.agg #[.int .i64 G.N,.slice ga gn gc],.slice none 0 0,.int .i64 x0]) (by first|(rw[results_cell_tmp rfl];go_simp;done)|(rw[aB rfl];go_simp;done)|(rw[aA rfl];go_simp;done)) rfl ?_;exact⟨_,_,rfl,HM.o.rb.famR HG.o,aG.nil _ _,HM.o.below _ _⟩
 rw[if_neg h1];have e1:(s.k%8==1)=false:=by simpa using h1
 by_cases h2:s.k%8=2
 ·rw[if_pos h2];have e2:(s.k%8==2)=true:=by simpa using h2
  clear h0 h1 h2;obtain⟨G,L,x0,hcr⟩:∃ G L x0,bC F nm=(G,L,x0):=⟨_,_,_,rfl⟩;have HC:=hid hcr;rw[hcr];clear hcr;go_enter Tryz.func107,Tryz.ntmps107;go_wp2_with fail;refine(dZ s.v nm _ HS.o.v HNM.o).mono ?_;rintro e w1 ⟨rfl,hb⟩;have HH:=hid (HH.o.later hb);clear hb;have b0:=HH.o.fb.c0;have b1:=HH.o.fb.c1;have s0:=HH.o.sx.s0;have s1:=HH.o.sx.s1;have s2:=HH.o.sx.s2;have s3:=HH.o.sx.s3;have s4:=HH.o.sx.s4;have s5:=HH.o.sx.s5;have r0:=HH.o.rb.c0;have r1:=HH.o.rb.c1;have f0:=HH.o.rb.f0;have f1:=HH.o.rb.f1;go_wp2_with fail;have hq:=aUe F _ nm _ HF.o (HFAM.o.keep HH.o.B) hnl;rw[HC.o]at hq;refine hq.mono ?_;rintro e w2 ⟨gv,sv,rfl,hg,hso,hb⟩;obtain⟨ga,gn,gc,rfl⟩:=hg.form;have HG:=hid hg;have HO:=hid (mH (u:= .int .i64 G.N) (v:= .slice ga gn gc) hso HH.o.rb.lt);have HSZ:=hid HH.o.B.size;have HH:=hid (HH.o.later hb);clear hb hg hso hq b0 b1 s0 s1 s2 s3 s4 s5 r0 r1 f0 f1;have r0:=HH.o.rb.c0;have r1:=HH.o.rb.c1;have f0:=HH.o.rb.f0;have f1:=HH.o.rb.f1;go_wp2_with fail;have j0:=(HH.o.rb.put (.int .i64 G.N) (.slice ga gn gc)).c0;have j1:=(HH.o.rb.put (.int .i64 G.N) (.slice ga gn gc)).c1
  (try simp only[Exit.inBlock,Exit.then])
  refine bodyPost_ret (v:= .tuple #[.agg #[.int .i64 G.N,.slice ga gn gc],sv,.int .i64 x0]) (by first|(rw[results_cell_tmp rfl];go_simp;done)|(rw[aB rfl];go_simp;done)|(rw[aA rfl];go_simp;done)) rfl ?_;exact⟨_,_,rfl,HH.o.rb.famR HG.o,HO.o.mono HSZ.o,HH.o.below _ _⟩
 rw[if_neg h2];have e2:(s.k%8==2)=false:=by simpa using h2
 by_cases h3:s.k%8=3
 ·rw[if_pos h3];have e3:(s.k%8==3)=true:=by simpa using h3
  clear h0 h1 h2 h3;obtain⟨G,L,x0,hcr⟩:∃ G L x0,bY F nm s.a s.n=(G,L,x0):=⟨_,_,_,rfl⟩;have HC:=hid hcr;rw[hcr];clear hcr;go_enter Tryz.func107,Tryz.ntmps107;go_wp2_with fail;refine(dZ s.v nm _ HS.o.v HNM.o).mono ?_;rintro e w1 ⟨rfl,hb⟩;have HH:=hid (HH.o.later hb);clear hb;have b0:=HH.o.fb.c0;have b1:=HH.o.fb.c1;have s0:=HH.o.sx.s0;have s1:=HH.o.sx.s1;have s2:=HH.o.sx.s2;have s3:=HH.o.sx.s3;have s4:=HH.o.sx.s4;have s5:=HH.o.sx.s5;have r0:=HH.o.rb.c0;have r1:=HH.o.rb.c1;have f0:=HH.o.rb.f0;have f1:=HH.o.rb.f1;go_wp2_with fail;have hq:=aZn F _ nm s.a s.n _ HF.o (HFAM.o.keep HH.o.B) hnl;rw[HC.o]at hq;refine hq.mono ?_;rintro e w2 ⟨gv,sv,rfl,hg,hso,hb⟩;obtain⟨ga,gn,gc,rfl⟩:=hg.form;have HG:=hid hg;have HO:=hid (mH (u:= .int .i64 G.N) (v:= .slice ga gn gc) hso HH.o.rb.lt);have HSZ:=hid HH.o.B.size;have HH:=hid (HH.o.later hb);clear hb hg hso hq b0 b1 s0 s1 s2 s3 s4 s5 r0 r1 f0 f1;have r0:=HH.o.rb.c0;have r1:=HH.o.rb.c1;have f0:=HH.o.rb.f0;have f1:=HH.o.rb.f1;go_wp2_with fail;have j0:=(HH.o.rb.put (.int .i64 G.N) (.slice ga gn gc)).c0;have j1:=(HH.o.rb.put (.int .i64 G.N) (.slice ga gn gc)).c1
  (try simp only[Exit.inBlock,Exit.then])
  refine bodyPost_ret (v:= .tuple #[.agg #[.int .i64 G.N,.slice ga gn gc],sv,.int .i64 x0]) (by first|(rw[results_cell_tmp rfl];go_simp;done)|(rw[aB rfl];go_simp;done)|(rw[aA rfl];go_simp;done)) rfl ?_;exact⟨_,_,rfl,HH.o.rb.famR HG.o,HO.o.mono HSZ.o,HH.o.below _ _⟩
 ·rw[if_neg h3];have e3:(s.k%8==3)=false:=by simpa using h3
  clear h0 h1 h2 h3;obtain⟨G,L,x0,hcr⟩:∃ G L x0,aQ F nm ⟨s.a,s.n,s.s⟩=(G,L,x0):=⟨_,_,_,rfl⟩;have HC:=hid hcr;rw[hcr];clear hcr;go_enter Tryz.func107,Tryz.ntmps107;go_wp2_with fail;refine(dZ s.v nm _ HS.o.v HNM.o).mono ?_;rintro e w1 ⟨rfl,hb⟩;have HH:=hid (HH.o.later hb);clear hb;have b0:=HH.o.fb.c0;have b1:=HH.o.fb.c1;have s0:=HH.o.sx.s0;have s1:=HH.o.sx.s1;have s2:=HH.o.sx.s2;have s3:=HH.o.sx.s3;have s4:=HH.o.sx.s4;have s5:=HH.o.sx.s5;have r0:=HH.o.rb.c0;have r1:=HH.o.rb.c1;have f0:=HH.o.rb.f0;have f1:=HH.o.rb.f1;go_wp2_with fail;have hq:=aFw F _ nm ⟨s.a,s.n,s.s⟩ _ HF.o (HFAM.o.keep HH.o.B) hnl (by unfold E.wf;simp only;omega);rw[HC.o]at hq;refine hq.mono ?_;rintro e w2 ⟨gv,sv,rfl,hg,hso,hb⟩;obtain⟨ga,gn,gc,rfl⟩:=hg.form;have HG:=hid hg;have HO:=hid (mH (u:= .int .i64 G.N) (v:= .slice ga gn gc) hso HH.o.rb.lt);have HSZ:=hid HH.o.B.size;have HH:=hid (HH.o.later hb);clear hb hg hso hq b0 b1 s0 s1 s2 s3 s4 s5 r0 r1 f0 f1;have r0:=HH.o.rb.c0;have r1:=HH.o.rb.c1;have f0:=HH.o.rb.f0;have f1:=HH.o.rb.f1;go_wp2_with fail;have j0:=(HH.o.rb.put (.int .i64 G.N) (.slice ga gn gc)).c0;have j1:=(HH.o.rb.put (.int .i64 G.N) (.slice ga gn gc)).c1
  (try simp only[Exit.inBlock,Exit.then])
  refine bodyPost_ret (v:= .tuple #[.agg #[.int .i64 G.N,.slice ga gn gc],sv,.int .i64 x0]) (by first|(rw[results_cell_tmp rfl];go_simp;done)|(rw[aB rfl];go_simp;done)|(rw[aA rfl];go_simp;done)) rfl ?_;exact⟨_,_,rfl,HH.o.rb.famR HG.o,HO.o.mono HSZ.o,HH.o.below _ _⟩
end Go.Proofs.YtaiklhbakldfhaaGreat
