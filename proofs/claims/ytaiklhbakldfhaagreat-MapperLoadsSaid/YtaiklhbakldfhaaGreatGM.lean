/-
  tegularef36: Create, Clone.
  tegularef36: Clone; a volume of the reference in a box.
  Conditions: as each theorem says.
-/
import Derived.Test.YtaiklhbakldfhaaGreatHP
import Derived.Test.YtaiklhbakldfhaaGreatGS
namespace Go.Proofs.YtaiklhbakldfhaaGreat
open Go.Lib (hid)
set_option linter.unusedSimpArgs false
set_option linter.unusedVariables false
set_option maxRecDepth 100000
set_option maxHeartbeats 16000000
open Go.RowKit Go.Maps
structure GH (w W:World) (a:Option Addr) (n:Int) (m c R:Nat):Prop where
 b0:W.cell? ⟨w.heap.size,0,none⟩=some (.int .i64 n)
 b1:W.cell? ⟨w.heap.size,1,none⟩=some (.slice a m c)
 rg:RG w W R
theorem GH.later {w W W':World} {a:Option Addr} {n:Int} {m c R:Nat} (h:GH w W a n m c R) (hb:Below W.heap.size W W'):GH w W' a n m c R:=
 ⟨hb.keep h.b0,hb.keep h.b1,h.rg.later hb⟩
theorem GH.init (w:World) (a:Option Addr) (n:Int) (m c:Nat):GH w ((w.alloc (.cells #[.int .i64 n,.slice a m c] 31)).alloc (.cells #[.int .i64 0,.slice none 0 0] 31)) a n m c (w.heap.size+1):=by
 have h:=RG.new w (w.alloc (.cells #[.int .i64 n,.slice a m c] 31)) 31 ((Below.refl _ _).bMq _);rw[show(w.alloc (.cells #[.int .i64 n,.slice a m c] 31)).heap.size=w.heap.size+1 by simp]at h;have k:∀ i,((w.alloc (.cells #[.int .i64 n,.slice a m c] 31)).alloc (.cells #[.int .i64 0,.slice none 0 0] 31)).cell? ⟨w.heap.size,i,none⟩=(w.alloc (.cells #[.int .i64 n,.slice a m c] 31)).cell? ⟨w.heap.size,i,none⟩:=fun i=>World.cell?_alloc_lt _ _ _ (by simp);exact⟨(k 0).trans (by simp),(k 1).trans (by simp),h⟩
theorem gU (N:Int) (ts:List RT) (nm:List UInt8) (a:Option Addr) (c:Nat) (w:World) (hr:RdR w a ts) (r:Int) (h:atC ts nm=r):
  Calls Tryz.prog 102 #[.agg #[.int .i64 N,.slice a ts.length c],nmV nm] w fun e w'=>e= .returned (.int .i64 r)/\Below w.heap.size w w':=by
 subst h;exact bLa N ts nm a c w hr
theorem lY (nm:List UInt8) (w:World) (hn:nm.length<=maxLen) (b:Bool) (h:gK nm=b):Calls Tryz.prog 197 #[nmV nm] w fun e w'=>e= .returned (.bool b)/\Below w.heap.size w w':=by
 subst h;exact aZt nm w hn
theorem xU {F:Fam} {ts:List RT} {v:RT} {w:World} {a:Option Addr} {c:Nat} (hF:F.ok) (h:ts.map RT.vol=F.vs) (hr:RdR w a (iL ts v)) (hl:nV w ts) (hv:Rd w v.a v.l) (hc:(iL ts v).length<=c):
  bI w (.agg #[.int .i64 F.N,.slice a (iL ts v).length c]) ⟨F.N,eB F.vs v.vol⟩:=
 ⟨a,c,iL ts v,rfl,hr,fun x hx=>(aBx hx).elim (fun e=>by rw[e];exact hv) (hl x),by rw[aBi ts v (sH hF h),h],hc⟩
theorem bKz (w:World):Rd w none []:=⟨by simp,.inl rfl⟩
theorem aUf (F:Fam) (gv:Value) (nm:List UInt8) (n r:Int) (w:World) (hF:F.ok) (h:bI w gv F) (hnm:nm.length<=maxLen):
    Calls Tryz.prog 151 #[gv,nmV nm,.int .i64 n,.int .i64 r] w (bKb w (aU F nm n r).1 (aU F nm n r).2):=by
  obtain⟨a,c,ts,rfl,hr,hl,hts,_⟩:=h;have h32:=(jN hF hts).2;have HLEN:=hid (jN hF hts).1;have HH:=hid (GH.init w a F.N ts.length c);have HR:=hid hr;have HL:=hid hl;have HTS:=hid hts;have HF:=hid hF;clear hr hl hts hF;cases hnb:gK nm
  · rw[show aU F nm n r=(dR,1) by simp[aU,hnb]];have HN:=hid hnb;clear hnb;go_enter Tryz.func151,Tryz.ntmps151;go_wp2_with fail;refine(lY nm _ hnm false HN.o).mono ?_;rintro e w1 ⟨rfl,hb⟩;have HH:=hid (HH.o.later hb);clear hb;have b0:=HH.o.b0;have b1:=HH.o.b1;have r0:=HH.o.rg.r0;have r1:=HH.o.rg.r1;have f0:=HH.o.rg.f0;have f1:=HH.o.rg.f1;go_wp2_with fail;obtain⟨j0,j1⟩:=HH.o.rg.cells (u:= .int .i64 0) (v:= .slice none 0 0)
    (try simp only[Exit.inBlock,Exit.then])
    refine bodyPost_ret (v:= .tuple #[.agg #[.int .i64 0,.slice none 0 0],.int .i64 1]) (by first|(rw[results_cell_tmp rfl];go_simp;done)|(rw[aB rfl];go_simp;done)|(rw[aA rfl];go_simp;done)) rfl ?_;exact⟨_,rfl,bI.empty _ 0,HH.o.rg.below⟩
  · cases hnn:aMt n r
    · rw [show aU F nm n r=(dR,1) by simp[aU,hnn]];have hq:¬ (1<=n/\n<=65536/\0<=r/\r<=n):=of_decide_eq_false hnn;have HQ:=hid hq;have HN:=hid hnb;clear hnb hnn hq;go_enter Tryz.func151,Tryz.ntmps151;go_wp2_with fail;refine(lY nm _ hnm true HN.o).mono ?_;rintro e w1 ⟨rfl,hb⟩;have HH:=hid (HH.o.later hb);clear hb;have b0:=HH.o.b0;have b1:=HH.o.b1;have r0:=HH.o.rg.r0;have r1:=HH.o.rg.r1;have f0:=HH.o.rg.f0;have f1:=HH.o.rg.f1;go_wp2_with fail
      all_goals first
        |(exfalso;have:=HQ.o;omega)
        | (obtain⟨j0,j1⟩:=HH.o.rg.cells (u:= .int .i64 0) (v:= .slice none 0 0)
           (try simp only[Exit.inBlock,Exit.then])
           refine bodyPost_ret (v:= .tuple #[.agg #[.int .i64 0,.slice none 0 0],.int .i64 1]) (by first|(rw[results_cell_tmp rfl];go_simp;done)|(rw[aB rfl];go_simp;done)|(rw[aA rfl];go_simp;done)) rfl ?_
           exact⟨_,rfl,bI.empty _ 0,HH.o.rg.below⟩)
    · obtain ⟨q1,q2,q3,q4⟩:1<=n/\n<=65536/\0<=r/\r<=n:=of_decide_eq_true hnn;have HN:=hid hnb
      cases hg:aP F.vs nm with
      | some v=>
        rw[show aU F nm n r=(dR,10) by simp[aU,hnb,hnn,hg]];obtain⟨k,hk,hat,_,_⟩:=gQ HTS.o hg;have HAT:=hid hat;clear hnb hnn hg hat;go_enter Tryz.func151,Tryz.ntmps151;go_wp2_with fail;refine(lY nm _ hnm true HN.o).mono ?_;rintro e w1 ⟨rfl,hb⟩;have HH:=hid (HH.o.later hb);clear hb;have b0:=HH.o.b0;have b1:=HH.o.b1;go_wp2_with fail;refine(gU F.N ts nm a c _ (HR.o.keep HH.o.rg.bel) _ HAT.o).mono ?_;rintro e w2 ⟨rfl,hb⟩;have HH:=hid (HH.o.later hb);clear hb;clear b0 b1;have b0:=HH.o.b0;have b1:=HH.o.b1;have r0:=HH.o.rg.r0;have r1:=HH.o.rg.r1;have f0:=HH.o.rg.f0;have f1:=HH.o.rg.f1;go_wp2_with fail;obtain⟨j0,j1⟩:=HH.o.rg.cells (u:= .int .i64 0) (v:= .slice none 0 0)
        (try simp only[Exit.inBlock,Exit.then])
        refine bodyPost_ret (v:= .tuple #[.agg #[.int .i64 0,.slice none 0 0],.int .i64 10]) (by first|(rw[results_cell_tmp rfl];go_simp;done)|(rw[aB rfl];go_simp;done)|(rw[aA rfl];go_simp;done)) rfl ?_;exact⟨_,rfl,bI.empty _ 0,HH.o.rg.below⟩
      | none=>
        have HAT:=hid (mO HTS.o hg);by_cases h32':32<=F.vs.length
        · rw[show aU F nm n r=(dR,7) by simp[aU,hnb,hnn,hg,h32']];have hl32:32<=ts.length:=by have:=HLEN.o;omega
          clear hnb hnn hg;go_enter Tryz.func151,Tryz.ntmps151;go_wp2_with fail;refine(lY nm _ hnm true HN.o).mono ?_;rintro e w1 ⟨rfl,hb⟩;have HH:=hid (HH.o.later hb);clear hb;have b0:=HH.o.b0;have b1:=HH.o.b1;go_wp2_with fail;refine(gU F.N ts nm a c _ (HR.o.keep HH.o.rg.bel) _ HAT.o).mono ?_;rintro e w2 ⟨rfl,hb⟩;have HH:=hid (HH.o.later hb);clear hb;clear b0 b1;have b0:=HH.o.b0;have b1:=HH.o.b1;have r0:=HH.o.rg.r0;have r1:=HH.o.rg.r1;have f0:=HH.o.rg.f0;have f1:=HH.o.rg.f1;go_wp2_with fail;obtain⟨j0,j1⟩:=HH.o.rg.cells (u:= .int .i64 0) (v:= .slice none 0 0)
          (try simp only[Exit.inBlock,Exit.then])
          refine bodyPost_ret (v:= .tuple #[.agg #[.int .i64 0,.slice none 0 0],.int .i64 7]) (by first|(rw[results_cell_tmp rfl];go_simp;done)|(rw[aB rfl];go_simp;done)|(rw[aA rfl];go_simp;done)) rfl ?_;exact⟨_,rfl,bI.empty _ 0,HH.o.rg.below⟩
        · rw[show aU F nm n r=(⟨F.N,eB F.vs ⟨nm,n,r,[]⟩⟩,0) by simp[aU,hnb,hnn,hg,h32']];have hl32:ts.length<32:=by have:=HLEN.o;omega
          clear hnb hnn hg;go_enter Tryz.func151,Tryz.ntmps151;go_wp2_with fail;refine(lY nm _ hnm true HN.o).mono ?_;rintro e w1 ⟨rfl,hb⟩;have HH:=hid (HH.o.later hb);clear hb;have b0:=HH.o.b0;have b1:=HH.o.b1;go_wp2_with fail;refine(gU F.N ts nm a c _ (HR.o.keep HH.o.rg.bel) _ HAT.o).mono ?_;rintro e w2 ⟨rfl,hb⟩;have HH:=hid (HH.o.later hb);clear hb;clear b0 b1;have b0:=HH.o.b0;have b1:=HH.o.b1;go_wp2_with fail;refine(zV F.N ts ⟨nm,n,r,none,0,[]⟩ a c _ (HR.o.keep HH.o.rg.bel) (by omega)).mono ?_;rintro e w3 ⟨a3,c3,rfl,hr3,hc3,hb⟩;have HFR:=hid (xU (c:=c3) HF.o HTS.o hr3 (HL.o.keep (HH.o.rg.bel.on hb)) (bKz _) hc3);have HH:=hid (HH.o.later hb);clear hb;clear b0 b1 hr3 hc3;have b0:=HH.o.b0;have b1:=HH.o.b1;have r0:=HH.o.rg.r0;have r1:=HH.o.rg.r1;have f0:=HH.o.rg.f0;have f1:=HH.o.rg.f1;go_wp2_with fail;obtain⟨j0,j1⟩:=HH.o.rg.cells (u:= .int .i64 F.N) (v:= .slice a3 (iL ts ⟨nm,n,r,none,0,[]⟩).length c3)
          (try simp only[Exit.inBlock,Exit.then])
          refine bodyPost_ret (v:= .tuple #[.agg #[.int .i64 F.N,.slice a3 (iL ts ⟨nm,n,r,none,0,[]⟩).length c3],.int .i64 0]) (by first|(rw[results_cell_tmp rfl];go_simp;done)|(rw[aB rfl];go_simp;done)|(rw[aA rfl];go_simp;done)) rfl ?_;exact⟨_,rfl,HH.o.rg.bx HFR.o,HH.o.rg.below⟩
open Go.RowKit Go.Maps
structure VX (W:World) (X:Nat) (x:RT):Prop where
 x0:W.cell? ⟨X,0,none⟩=some (nmV x.nm)
 x1:W.cell? ⟨X,1,none⟩=some (.int .i64 x.n)
 x2:W.cell? ⟨X,2,none⟩=some (.int .i64 x.r)
 x3:W.cell? ⟨X,3,none⟩=some x.sl
 g0:W.frozen? ⟨X,0,none⟩=false
 g2:W.frozen? ⟨X,2,none⟩=false
 g3:W.frozen? ⟨X,3,none⟩=false
theorem VX.lt {W:World} {X:Nat} {x:RT} (h:VX W X x):X<W.heap.size:=World.block_lt_of_cell? W ⟨X,0,none⟩ h.x0
theorem VX.later {W W':World} {X:Nat} {x:RT} (h:VX W X x) (hb:Below W.heap.size W W'):VX W' X x:=
 ⟨hb.keep h.x0,hb.keep h.x1,hb.keep h.x2,hb.keep h.x3,hb.bMw h.x0 h.g0,hb.bMw h.x2 h.g2,hb.bMw h.x3 h.g3⟩
theorem VX.new (V:World) (B:Nat) (hB:V.heap.size=B) (x:RT) (t:TypeId):VX (V.alloc (.cells #[nmV x.nm,.int .i64 x.n,.int .i64 x.r,x.sl] t)) B x:=by
 subst hB;exact⟨by simp,by simp,by simp,by simp,by simp,by simp,by simp⟩
theorem VX.list {W:World} {X:Nat} {x:RT} (h:VX W X x) (a:Option Addr) (c:Nat) (l:List E):VX (W.setCell ⟨X,3,none⟩ (.slice a l.length c)) X ⟨x.nm,x.n,x.r,a,c,l⟩:=by
 have k:∀ (j:Nat),3≠j->(W.setCell ⟨X,3,none⟩ (.slice a l.length c)).cell? ⟨X,j,none⟩=W.cell? ⟨X,j,none⟩:=fun j hij=>World.cell?_setCell_other _ _ _ _ (fun e=>hij (Addr.mk.inj e).2.1);refine⟨(k 0 (by omega)).trans h.x0,(k 1 (by omega)).trans h.x1,(k 2 (by omega)).trans h.x2,World.cell?_setCell_same _ _ _ h.x3,by rw[World.frozen?_setCell];exact h.g0,by rw[World.frozen?_setCell];exact h.g2,by rw[World.frozen?_setCell];exact h.g3⟩
theorem RG.bMx {w W:World} {R X i:Nat} {u:Value} (h:RG w W R) (hX:R≠X) (hw:w.heap.size<=X):RG w (W.setCell ⟨X,i,none⟩ u) R:=
 ⟨(cell_far hX).trans h.r0,(cell_far hX).trans h.r1,by rw[World.frozen?_setCell];exact h.f0,by rw[World.frozen?_setCell];exact h.f1,fun j hj=>(cell_far hX).trans (h.r2 j hj),h.le,h.bel.setCell hw _⟩
theorem GH.bMx {w W:World} {a:Option Addr} {n:Int} {m c R X i:Nat} {u:Value} (h:GH w W a n m c R) (hX:R<X):GH w (W.setCell ⟨X,i,none⟩ u) a n m c R:=by
 have:=h.rg.le;exact⟨(cell_far (by simp only;omega)).trans h.b0,(cell_far (by simp only;omega)).trans h.b1,h.rg.bMx (by omega) (by omega)⟩
theorem GH.alloc {w W:World} {a:Option Addr} {n:Int} {m c R:Nat} (h:GH w W a n m c R) (cs:Array Value) (t:TypeId):GH w (W.alloc (.cells cs t)) a n m c R:=h.later ((Below.refl _ _).bMq _)
theorem aSh (F:Fam) (nm other:List UInt8):
    (aP F.vs nm=none/\bJ F nm other=(dR,9))∨ ∃v,aP F.vs nm=some v/\
      ((gK other=false/\bJ F nm other=(dR,1))∨(gK other=true/\ ∃u,aP F.vs other=some u/\bJ F nm other=(dR,10))∨
       (gK other=true/\aP F.vs other=none/\32<=F.vs.length/\bJ F nm other=(dR,7))∨
       (gK other=true/\aP F.vs other=none/\F.vs.length<32/\bJ F nm other=(⟨F.N,eB F.vs ⟨other,v.n,0,v.l⟩⟩,0))):=by
  unfold bJ
  cases hg:aP F.vs nm with
  |none=>exact .inl ⟨rfl,rfl⟩
  | some v=>
    refine .inr ⟨v,rfl,?_⟩;cases hn:gK other
    · exact .inl ⟨rfl,rfl⟩
    refine .inr ?_
    cases ho:aP F.vs other with
    |some u=>exact .inl ⟨rfl,u,rfl,rfl⟩
    | none=>
      by_cases h:32<=F.vs.length
      · exact .inr (.inl ⟨rfl,rfl,h,by simp[h]⟩)
      · exact .inr (.inr ⟨rfl,rfl,by omega,by simp[h]⟩)
theorem aZy (F:Fam) (gv:Value) (nm other:List UInt8) (w:World) (hF:F.ok) (h:bI w gv F) (hnm:nm.length<=maxLen) (hot:other.length<=maxLen):
  Calls Tryz.prog 152 #[gv,nmV nm,nmV other] w (bKb w (bJ F nm other).1 (bJ F nm other).2):=by
 obtain⟨a,c,ts,rfl,hr,hl,hts,_⟩:=h;have h32:=(jN hF hts).2;have HLEN:=hid (jN hF hts).1;have HH:=hid (GH.init w a F.N ts.length c);have HR:=hid hr;have HL:=hid hl;have HTS:=hid hts;have HF:=hid hF;clear hr hl hts hF;rcases aSh F nm other with ⟨hg,hc⟩|⟨v,hg,⟨hn,hc⟩|⟨hn,u,ho,hc⟩|⟨hn,ho,h9,hc⟩|⟨hn,ho,h9,hc⟩⟩
 ·rw[hc];have HAT:=hid (mO HTS.o hg);clear hg hc;go_enter Tryz.func152,Tryz.ntmps152;go_wp2_with fail;refine(gU F.N ts nm a c _ (HR.o.keep HH.o.rg.bel) _ HAT.o).mono ?_;rintro e w1 ⟨rfl,hb⟩;have HH:=hid (HH.o.later hb);clear hb;have b0:=HH.o.b0;have b1:=HH.o.b1;have r0:=HH.o.rg.r0;have r1:=HH.o.rg.r1;have f0:=HH.o.rg.f0;have f1:=HH.o.rg.f1;go_wp2_with fail;obtain⟨j0,j1⟩:=HH.o.rg.cells (u:= .int .i64 0) (v:= .slice none 0 0)
  (try simp only[Exit.inBlock,Exit.then])
  refine bodyPost_ret (v:= .tuple #[.agg #[.int .i64 0,.slice none 0 0],.int .i64 9]) (by first|(rw[results_cell_tmp rfl];go_simp;done)|(rw[aB rfl];go_simp;done)|(rw[aA rfl];go_simp;done)) rfl ?_;exact⟨_,rfl,bI.empty _ 0,HH.o.rg.below⟩
 ·rw[hc];obtain⟨k,hk,hat,_,_⟩:=gQ HTS.o hg;have HAT:=hid hat;have HN:=hid hn;clear hg hc hat hn;go_enter Tryz.func152,Tryz.ntmps152;go_wp2_with fail;refine(gU F.N ts nm a c _ (HR.o.keep HH.o.rg.bel) _ HAT.o).mono ?_;rintro e w1 ⟨rfl,hb⟩;have HH:=hid (HH.o.later hb);clear hb;have b0:=HH.o.b0;have b1:=HH.o.b1;have r0:=HH.o.rg.r0;have r1:=HH.o.rg.r1;have f0:=HH.o.rg.f0;have f1:=HH.o.rg.f1;go_wp2_with fail;refine(lY other _ hot false HN.o).mono ?_;rintro e w2 ⟨rfl,hb⟩;have HH:=hid (HH.o.later hb);clear hb;clear b0 b1 r0 r1 f0 f1;have b0:=HH.o.b0;have b1:=HH.o.b1;have r0:=HH.o.rg.r0;have r1:=HH.o.rg.r1;have f0:=HH.o.rg.f0;have f1:=HH.o.rg.f1;go_wp2_with fail;obtain⟨j0,j1⟩:=HH.o.rg.cells (u:= .int .i64 0) (v:= .slice none 0 0)
  (try simp only[Exit.inBlock,Exit.then])
  refine bodyPost_ret (v:= .tuple #[.agg #[.int .i64 0,.slice none 0 0],.int .i64 1]) (by first|(rw[results_cell_tmp rfl];go_simp;done)|(rw[aB rfl];go_simp;done)|(rw[aA rfl];go_simp;done)) rfl ?_;exact⟨_,rfl,bI.empty _ 0,HH.o.rg.below⟩
 ·rw[hc];obtain⟨k,hk,hat,_,_⟩:=gQ HTS.o hg;obtain⟨j,hj,hao,_,_⟩:=gQ HTS.o ho;have HAT:=hid hat;have HAO:=hid hao;have HN:=hid hn;clear hg hc hat hn ho hao;go_enter Tryz.func152,Tryz.ntmps152;go_wp2_with fail;refine(gU F.N ts nm a c _ (HR.o.keep HH.o.rg.bel) _ HAT.o).mono ?_;rintro e w1 ⟨rfl,hb⟩;have HH:=hid (HH.o.later hb);clear hb;have b0:=HH.o.b0;have b1:=HH.o.b1;have r0:=HH.o.rg.r0;have r1:=HH.o.rg.r1;have f0:=HH.o.rg.f0;have f1:=HH.o.rg.f1;go_wp2_with fail;refine(lY other _ hot true HN.o).mono ?_;rintro e w2 ⟨rfl,hb⟩;have HH:=hid (HH.o.later hb);clear hb;clear b0 b1 r0 r1 f0 f1;have b0:=HH.o.b0;have b1:=HH.o.b1;have r0:=HH.o.rg.r0;have r1:=HH.o.rg.r1;have f0:=HH.o.rg.f0;have f1:=HH.o.rg.f1;go_wp2_with fail;refine(gU F.N ts other a c _ (HR.o.keep HH.o.rg.bel) _ HAO.o).mono ?_;rintro e w3 ⟨rfl,hb⟩;have HH:=hid (HH.o.later hb);clear hb;clear b0 b1 r0 r1 f0 f1;have b0:=HH.o.b0;have b1:=HH.o.b1;have r0:=HH.o.rg.r0;have r1:=HH.o.rg.r1;have f0:=HH.o.rg.f0;have f1:=HH.o.rg.f1;go_wp2_with fail;obtain⟨j0,j1⟩:=HH.o.rg.cells (u:= .int .i64 0) (v:= .slice none 0 0)
  (try simp only[Exit.inBlock,Exit.then])
  refine bodyPost_ret (v:= .tuple #[.agg #[.int .i64 0,.slice none 0 0],.int .i64 10]) (by first|(rw[results_cell_tmp rfl];go_simp;done)|(rw[aB rfl];go_simp;done)|(rw[aA rfl];go_simp;done)) rfl ?_;exact⟨_,rfl,bI.empty _ 0,HH.o.rg.below⟩
 ·rw[hc];obtain⟨k,hk,hat,_,_⟩:=gQ HTS.o hg;have HAT:=hid hat;have HAO:=hid (mO HTS.o ho);have HN:=hid hn;have hl32:32<=ts.length:=by have:=HLEN.o;omega
  clear hg hc hat hn ho h9;go_enter Tryz.func152,Tryz.ntmps152;go_wp2_with fail;refine(gU F.N ts nm a c _ (HR.o.keep HH.o.rg.bel) _ HAT.o).mono ?_;rintro e w1 ⟨rfl,hb⟩;have HH:=hid (HH.o.later hb);clear hb;have b0:=HH.o.b0;have b1:=HH.o.b1;have r0:=HH.o.rg.r0;have r1:=HH.o.rg.r1;have f0:=HH.o.rg.f0;have f1:=HH.o.rg.f1;go_wp2_with fail;refine(lY other _ hot true HN.o).mono ?_;rintro e w2 ⟨rfl,hb⟩;have HH:=hid (HH.o.later hb);clear hb;clear b0 b1 r0 r1 f0 f1;have b0:=HH.o.b0;have b1:=HH.o.b1;have r0:=HH.o.rg.r0;have r1:=HH.o.rg.r1;have f0:=HH.o.rg.f0;have f1:=HH.o.rg.f1;go_wp2_with fail;refine(gU F.N ts other a c _ (HR.o.keep HH.o.rg.bel) _ HAO.o).mono ?_;rintro e w3 ⟨rfl,hb⟩;have HH:=hid (HH.o.later hb);clear hb;clear b0 b1 r0 r1 f0 f1;have b0:=HH.o.b0;have b1:=HH.o.b1;have r0:=HH.o.rg.r0;have r1:=HH.o.rg.r1;have f0:=HH.o.rg.f0;have f1:=HH.o.rg.f1;go_wp2_with fail;obtain⟨j0,j1⟩:=HH.o.rg.cells (u:= .int .i64 0) (v:= .slice none 0 0)
  (try simp only[Exit.inBlock,Exit.then])
  refine bodyPost_ret (v:= .tuple #[.agg #[.int .i64 0,.slice none 0 0],.int .i64 7]) (by first|(rw[results_cell_tmp rfl];go_simp;done)|(rw[aB rfl];go_simp;done)|(rw[aA rfl];go_simp;done)) rfl ?_;exact⟨_,rfl,bI.empty _ 0,HH.o.rg.below⟩
 ·rw[hc];obtain⟨k,hk,hat,hv,_⟩:=gQ HTS.o hg;have HAT:=hid hat;have HAO:=hid (mO HTS.o ho);have HN:=hid hn;have HV:=hid hv;have hl32:ts.length<32:=by have:=HLEN.o;omega
  clear hg hc hat hn ho h9 hv;have HMEM:=hid (List.getElem_mem hk);have HGET:=hid (List.getElem?_eq_getElem hk);generalize ts[k]=x at *;go_enter Tryz.func152,Tryz.ntmps152;go_wp2_with fail;refine(gU F.N ts nm a c _ (HR.o.keep HH.o.rg.bel) _ HAT.o).mono ?_;rintro e w1 ⟨rfl,hb⟩;have HH:=hid (HH.o.later hb);clear hb;have b0:=HH.o.b0;have b1:=HH.o.b1;have r0:=HH.o.rg.r0;have r1:=HH.o.rg.r1;have f0:=HH.o.rg.f0;have f1:=HH.o.rg.f1;go_wp2_with fail;refine(lY other _ hot true HN.o).mono ?_;rintro e w2 ⟨rfl,hb⟩;have HH:=hid (HH.o.later hb);clear hb;clear b0 b1 r0 r1 f0 f1;have b0:=HH.o.b0;have b1:=HH.o.b1;have r0:=HH.o.rg.r0;have r1:=HH.o.rg.r1;have f0:=HH.o.rg.f0;have f1:=HH.o.rg.f1;go_wp2_with fail;refine(gU F.N ts other a c _ (HR.o.keep HH.o.rg.bel) _ HAO.o).mono ?_;rintro e w3 ⟨rfl,hb⟩;have HH:=hid (HH.o.later hb);clear hb;clear b0 b1 r0 r1 f0 f1;have b0:=HH.o.b0;have b1:=HH.o.b1;have r0:=HH.o.rg.r0;have r1:=HH.o.rg.r1;have f0:=HH.o.rg.f0;have f1:=HH.o.rg.f1;obtain⟨b,o,rfl,hat⟩:=(HR.o.keep HH.o.rg.bel).at (by omega);obtain⟨e0,e1,e2,e3⟩:=hat k x HGET.o;clear hat;have HX:=hid (VX.new w3 _ rfl x 153);have x0:=HX.o.x0;have x1:=HX.o.x1;have x2:=HX.o.x2;have x3:=HX.o.x3;have g0:=HX.o.g0;have g2:=HX.o.g2;go_wp2_with fail;have hk9:=HH.o.rg.bel.bMq (.cells #[nmV other,.int .i64 x.n,.int .i64 0,x.sl] 153);refine(zV F.N ts ⟨other,x.n,0,x.a,x.c,x.l⟩ (some ⟨b,o,none⟩) c _ (HR.o.keep hk9) (by omega)).mono ?_;rintro e w4 ⟨a4,c4,rfl,hr4,hc4,hb⟩;have hk:=hk9.on hb;have HFR:=hid (xU (c:=c4) HF.o HTS.o hr4 (HL.o.keep hk) ((HL.o x HMEM.o).keep hk) hc4);have HH:=hid ((HH.o.alloc #[nmV other,.int .i64 x.n,.int .i64 0,x.sl] 153).later hb);clear hk9 hk hb hr4 hc4 b0 b1 r0 r1 f0 f1 x0 x1 x2 x3 g0 g2 e0 e1 e2 e3 HX;obtain rfl:=HV.o;have b0:=HH.o.b0;have b1:=HH.o.b1;have r0:=HH.o.rg.r0;have r1:=HH.o.rg.r1;have f0:=HH.o.rg.f0;have f1:=HH.o.rg.f1;go_wp2_with fail;obtain⟨j0,j1⟩:=HH.o.rg.cells (u:= .int .i64 F.N) (v:= .slice a4 (iL ts ⟨other,x.n,0,x.a,x.c,x.l⟩).length c4)
  (try simp only[Exit.inBlock,Exit.then])
  refine bodyPost_ret (v:= .tuple #[.agg #[.int .i64 F.N,.slice a4 (iL ts ⟨other,x.n,0,x.a,x.c,x.l⟩).length c4],.int .i64 0]) (by first|(rw[results_cell_tmp rfl];go_simp;done)|(rw[aB rfl];go_simp;done)|(rw[aA rfl];go_simp;done)) rfl ?_;exact⟨_,rfl,HH.o.rg.bx HFR.o,HH.o.rg.below⟩
end Go.Proofs.YtaiklhbakldfhaaGreat
