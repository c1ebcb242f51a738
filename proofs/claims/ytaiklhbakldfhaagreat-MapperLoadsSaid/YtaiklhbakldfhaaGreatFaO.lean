/-
  package family: Clone.
  Conditions: as each theorem says.
-/
import Derived.Test.YtaiklhbakldfhaaGreatGS
import Derived.Deep.RegionHeld3
import Derived.Deep.CutRange
namespace Go.Proofs.YtaiklhbakldfhaaGreat
open Go.Lib (hid)
set_option linter.unusedSimpArgs false
set_option linter.unusedVariables false
set_option maxRecDepth 100000
set_option maxHeartbeats 16000000
open Go.RowKit Go.Maps
structure VH (W:World) (X:Nat) (n r:Int) (a:Option Addr):Prop where
 x0:W.cell? ⟨X,0,none⟩=some (.int .i64 n)
 x1:W.cell? ⟨X,1,none⟩=some (.int .i64 r)
 x2:W.cell? ⟨X,2,none⟩=some (.pointer a)
 f1:W.frozen? ⟨X,1,none⟩=false
 f2:W.frozen? ⟨X,2,none⟩=false
 x7:W.cell? ⟨X,7,none⟩=none
theorem VH.lt {W:World} {X:Nat} {n r:Int} {a:Option Addr} (h:VH W X n r a):X<W.heap.size:=World.block_lt_of_cell? W ⟨X,0,none⟩ h.x0
theorem VH.later {W W':World} {X:Nat} {n r:Int} {a:Option Addr} (h:VH W X n r a) (hb:Below W.heap.size W W'):VH W' X n r a:=
 ⟨hb.keep h.x0,hb.keep h.x1,hb.keep h.x2,hb.bMw h.x1 h.f1,hb.bMw h.x2 h.f2,(hb.cell (p:=⟨X,7,none⟩) h.lt).trans h.x7⟩
theorem VH.new (W:World) (n r:Int) (a:Option Addr) (t:TypeId):VH (W.alloc (.cells #[.int .i64 n,.int .i64 r,.pointer a] t)) W.heap.size n r a:=by
 refine⟨by simp,by simp,by simp,by simp,by simp,by simp⟩
theorem aAq {w w':World} {t:TypeId} {u:Value} (h:Below (w.alloc (.cells #[u] t)).heap.size (w.alloc (.cells #[u] t)) w'):w'.cell? ⟨w.heap.size,0,none⟩=some u/\w'.frozen? ⟨w.heap.size,0,none⟩=false:=
 ⟨h.keep (by simp),h.bMw (v:=u) (by simp) (by simp)⟩
theorem aQv {w w':World} {t:TypeId} {u:Value} (h:Below ((w.alloc (.cells #[u] t)).drew).heap.size (w.alloc (.cells #[u] t)).drew w'):w'.cell? ⟨w.heap.size,0,none⟩=some u/\w'.frozen? ⟨w.heap.size,0,none⟩=false:=
 ⟨h.keep (by simp),h.bMw (v:=u) (by simp) (by simp)⟩
def bLy (w:World) (a:Option Addr) (n c:Nat) (mb:Option Nat) (R X:Nat) (p:VT) (C:List Int) (y e0:Value) (W:World):Prop:=
 ∃Y a' c',y= .pointer (some ⟨Y,0,none⟩)/\e0= .int .i64 0/\FH w W a n c mb R/\VH W X p.n p.r p.a/\Y≠X/\W.cell? ⟨Y,0,none⟩=some (.slice a' n c')/\dE W (X+1) (.slice a' n c') C
theorem bHn {w W w5:World} {a:Option Addr} {n c:Nat} {mb:Option Nat} {R X B:Nat} {p:VT} {C:List Int} {a5:Option Addr} {c5:Nat} {t:TypeId} (hH:FH w W a n c mb R) (hV:VH W X p.n p.r p.a) (hB:Below W.drew.heap.size W.drew w5) (ho:dE w5 B (.slice a5 n c5) C) (hX:X<B):
  bLy w a n c mb R X p C (.pointer (some ⟨w5.heap.size,0,none⟩)) (.int .i64 0) (w5.alloc (.cells #[.slice a5 n c5] t)):=by
 have hb:=((Below.refl W.heap.size W).drew.on hB).bMq (.cells #[.slice a5 n c5] t);have hv:=hV.later hb;have hlt:X<w5.heap.size:=Nat.lt_of_lt_of_le hV.lt hB.size;exact⟨_,a5,c5,rfl,rfl,hH.later hb,hv,by omega,by simp,(ho.keep ((Below.refl _ _).bMq _)).mono (by omega)⟩
theorem aSv {w W w5:World} {a:Option Addr} {n c:Nat} {mb:Option Nat} {R X B Y:Nat} {p:VT} {C:List Int} {a5:Option Addr} {c5:Nat} {u:Value} (hH:FH w W a n c mb R) (hV:VH W X p.n p.r p.a) (hB:Below W.drew.heap.size W.drew w5) (ho:dE w5 B (.slice a5 n c5) C) (hX:X<B) (hY:W.drew.heap.size<=Y) (hYB:Y<B) (hq:w5.cell? ⟨Y,0,none⟩=some u):
  bLy w a n c mb R X p C (.pointer (some ⟨Y,0,none⟩)) (.int .i64 0) (w5.setCell ⟨Y,0,none⟩ (.slice a5 n c5)):=by
 have hb:=(Below.refl W.heap.size W).drew.on (hB.setCell (p:=⟨Y,0,none⟩) hY (.slice a5 n c5));have hv:=hV.later hb;have hlt:=hV.lt;have hY':W.heap.size<=Y:=hY;exact⟨_,a5,c5,rfl,rfl,hH.later hb,hv,by omega,World.cell?_setCell_same _ _ _ hq,(ho.away _ _ fun h=>by have:=(ho.lt Y h).1;omega).mono (by omega)⟩
theorem bGw (F:Fam) (fv:Value) (nm other:List UInt8) (w:World) (hF:F.ok) (hs:∀ v∈F.vs,v.l.length<=9000) (h:bA w fv F) (hnm:nm.length<=maxLen) (hot:other.length<=maxLen):
  Calls Tryz.prog 87 #[fv,nmV nm,nmV other] w (aFa w (bJ F nm other).1 (bJ F nm other).2):=by
 obtain⟨a,c,mb,rfl,hr,ts,hts,hT⟩:=h;have hlen:=aFj hF hts;have H0:=hid (FH.init w a F.N c mb);have HT:=hid hT;have HR:=hid hr;have HTS:=hid hts;have HF:=hid hF;have HS:=hid hs;have hl:=aAn (hT.keep H0.o.rf.bel) hnm;have hgv:aP F.vs nm=(nN ts nm).map VT.vol:=by rw[<-hts,oL]
 clear hr hT hts hF hs
 cases hg:nN ts nm with
 | none=>
  rw[uB hg]at hl;rw[show bJ F nm other=(dR,9) by simp[bJ,hgv,hg]];have HH:=hid (H0.o.later ((Below.refl _ _).bMq (.cells #[.int .i64 0,.int .i64 0,.pointer none] 139)));have b0:=HH.o.b0;have b1:=HH.o.b1;have r0:=HH.o.rf.r0;have r1:=HH.o.rf.r1;have f0:=HH.o.rf.f0;have f1:=HH.o.rf.f1;clear hg hgv;go_enter Tryz.func87,Tryz.ntmps87;go_wp2_with fail;obtain⟨j0,j1⟩:=HH.o.rf.cells (u:= .slice none 0 0) (v:= .map none)
  (try simp only[Exit.inBlock,Exit.then])
  refine bodyPost_ret (v:= .tuple #[.agg #[.slice none 0 0,.map none],.int .i64 9]) (by first|(rw[results_cell_tmp rfl];go_simp;done)|(rw[aB rfl];go_simp;done)|(rw[aA rfl];go_simp;done)) rfl ?_;exact⟨_,rfl,bA.zero _,by first|exact HH.o.rf.below|((repeat(first|exact Below.refl _ _|assumption|refine Below.bMt ?_ _|refine Below.bMq ?_ _|refine Below.setCell ?_ (by simp) _|refine Below.drew ?_));done)⟩
 | some v=>
  rw[uA hg]at hl;have hvm:=(mF hg).1;have hvk:=RdV.fit HF.o HTS.o v hvm;have HVT:=hid (HT.o.1 v hvm);have HVK:=hid hvk;have HVM:=hid hvm;have hH1:=H0.o.later ((Below.refl _ _).bMq (.cells #[.int .i64 v.n,.int .i64 v.r,.pointer v.a] 139));have hv1:=VH.new ((w.alloc (.cells #[.slice a F.N c,.map mb] 46)).alloc (.cells #[.slice none 0 0,.map none] 46)) v.n v.r v.a 139;rw[show((w.alloc (.cells #[.slice a F.N c,.map mb] 46)).alloc (.cells #[.slice none 0 0,.map none] 46)).heap.size=w.heap.size+1+1 by simp]at hv1;have HH:=hid hH1;have HV:=hid hv1;clear hvm hvk hH1 hv1;cases hno:gK other
  ·rw[show bJ F nm other=(dR,1) by simp[bJ,hgv,hg,hno]];have HN:=hid hno;clear hg hgv hno;go_enter Tryz.func87,Tryz.ntmps87;go_wp2_with fail;refine(nP other _ hot).mono ?_;rintro e w1 ⟨rfl,hb⟩;rw[HN.o];replace HH:=hid (HH.o.later hb);have b0:=HH.o.b0;have b1:=HH.o.b1;have r0:=HH.o.rf.r0;have r1:=HH.o.rf.r1;have f0:=HH.o.rf.f0;have f1:=HH.o.rf.f1;clear hb;go_wp2_with fail;obtain⟨j0,j1⟩:=HH.o.rf.cells (u:= .slice none 0 0) (v:= .map none)
   (try simp only[Exit.inBlock,Exit.then])
   refine bodyPost_ret (v:= .tuple #[.agg #[.slice none 0 0,.map none],.int .i64 1]) (by first|(rw[results_cell_tmp rfl];go_simp;done)|(rw[aB rfl];go_simp;done)|(rw[aA rfl];go_simp;done)) rfl ?_;exact⟨_,rfl,bA.zero _,by first|exact HH.o.rf.below|((repeat(first|exact Below.refl _ _|assumption|refine Below.bMt ?_ _|refine Below.bMq ?_ _|refine Below.setCell ?_ (by simp) _|refine Below.drew ?_));done)⟩
  ·obtain ⟨ev,hr1,hres⟩:∃ ev,aYq (ts.map VT.vol) other=ev/\((ev≠0/\bJ F nm other=(dR,ev))∨(ev=0/\aP F.vs other=none/\F.vs.length<32/\bJ F nm other=(⟨F.N,eB F.vs ⟨other,v.n,0,v.t.toL⟩⟩,0))):=by
    refine⟨_,rfl,?_⟩;rw[HTS.o];unfold aYq bJ;rw[hgv,hg];simp only[Option.map_some,hno,Bool.true_eq_false,if_false];by_cases g1:(aP F.vs other).isSome=true
    ·rw[if_pos g1,if_pos g1];exact .inl ⟨by decide,rfl⟩
    ·rw[if_neg g1,if_neg g1];by_cases g2:32<=F.vs.length
     ·rw[if_pos g2,if_pos g2];exact .inl ⟨by decide,rfl⟩
     ·rw[if_neg g2,if_neg g2];exact .inr ⟨rfl,by simpa using g1,by omega,rfl⟩
   have HN:=hid hno;have HVC:=hid hr1;clear hg hgv hno hr1;rcases hres with ⟨h0,hc⟩|⟨rfl,hgo,h32,hc⟩
   ·rw[hc];clear hc;go_enter Tryz.func87,Tryz.ntmps87;go_wp2_with fail;refine(nP other _ hot).mono ?_;rintro e w1 ⟨rfl,hb⟩;rw[HN.o];replace HH:=hid (HH.o.later hb);have b0:=HH.o.b0;have b1:=HH.o.b1;have r0:=HH.o.rf.r0;have r1:=HH.o.rf.r1;have f0:=HH.o.rf.f0;have f1:=HH.o.rf.f1;clear hb;go_wp2_with fail;refine(wX a F.N c mb ts other _ (HT.o.keep HH.o.rf.bel) hot ev HVC.o).mono ?_;rintro e w2 ⟨rfl,hb⟩;replace HH:=hid (HH.o.later hb);have b0:=HH.o.b0;have b1:=HH.o.b1;have r0:=HH.o.rf.r0;have r1:=HH.o.rf.r1;have f0:=HH.o.rf.f0;have f1:=HH.o.rf.f1;clear hb;go_wp2_with fail;obtain⟨j0,j1⟩:=HH.o.rf.cells (u:= .slice none 0 0) (v:= .map none)
    (try simp only[Exit.inBlock,Exit.then])
    refine bodyPost_ret (v:= .tuple #[.agg #[.slice none 0 0,.map none],.int .i64 ev]) (by first|(rw[results_cell_tmp rfl];go_simp;done)|(rw[aB rfl];go_simp;done)|(rw[aA rfl];go_simp;done)) rfl ?_;exact⟨_,rfl,bA.zero _,by first|exact HH.o.rf.below|((repeat(first|exact Below.refl _ _|assumption|refine Below.bMt ?_ _|refine Below.bMq ?_ _|refine Below.setCell ?_ (by simp) _|refine Below.drew ?_));done)⟩
   ·rw [hc];have HCC:=hid (aLm HF.o (v:=v.vol) (u:=⟨other,v.n,0,v.t.toL⟩) (by rw[<-HTS.o];exact List.mem_map.2 ⟨v,HVM.o,rfl⟩) hgo rfl);clear hc hgo;go_enter Tryz.func87,Tryz.ntmps87;go_wp2_with fail;refine(nP other _ hot).mono ?_;rintro e w1 ⟨rfl,hb⟩;rw[HN.o];replace HV:=hid (HV.o.later hb);replace HH:=hid (HH.o.later hb);have b0:=HH.o.b0;have b1:=HH.o.b1;have r0:=HH.o.rf.r0;have r1:=HH.o.rf.r1;have f0:=HH.o.rf.f0;have f1:=HH.o.rf.f1;clear hb;go_wp2_with fail;refine(wX a F.N c mb ts other _ (HT.o.keep HH.o.rf.bel) hot 0 HVC.o).mono ?_;rintro e w2 ⟨rfl,hb⟩;replace HV:=hid (HV.o.later hb);replace HH:=hid (HH.o.later hb);have b0:=HH.o.b0;have b1:=HH.o.b1;have r0:=HH.o.rf.r0;have r1:=HH.o.rf.r1;have f0:=HH.o.rf.f0;have f1:=HH.o.rf.f1;have x0:=HV.o.x0;have x1:=HV.o.x1;have x2:=HV.o.x2;clear hb;go_upto_region 9 with fail;have HVL:=hid (fun w' (hb:Below w2.heap.size w2 w')=>zD v.n v.r v.a v.t w' (aF.keep (HH.o.rf.bel.on hb) v.t HVT.o) (by have:=HVK.o.short.1;simp only[VT.vol]at this;omega));have HWF:=hid (iQ (aK HVK.o.valid));have HPM:Hid (aS F.C.length v.t.toL=true):=hid (by rw[F.bMs];exact HVK.o.perm);have HRG:Hid (inR 0 1000000000 F.C):=hid (gN HF.o.range (by omega) (by omega));have HRI:=hid (HR.o.keep HH.o.rf.bel);have HSL:Hid (v.t.toL.length<=9000):=hid (HS.o v.vol (by rw[<-HTS.o];exact List.mem_map.2 ⟨v,HVM.o,rfl⟩));have hCl:=F.bMs;have HAD:Hid (∀w' sa sc,Below w2.heap.size w2 w'->Rd w' sa v.t.toL->Calls Tryz.prog 123 #[.agg #[.slice a F.N c],.slice sa v.t.toL.length sc] w' fun e w''=>∃ a5 c5,e= .returned (.tuple #[.agg #[.slice a5 F.N c5],.int .i64 0])/\dE w'' w'.heap.size (.slice a5 F.N c5) (⟨F.N,eB F.vs ⟨other,v.n,0,v.t.toL⟩⟩:Fam).C/\Below w'.heap.size w' w''):=hid (fun w' sa sc hb hrd=>by
     have h5:=aYh F.C v.t.toL a sa c sc w' (HRI.o.keep hb) hrd HWF.o HPM.o HRG.o (by have:=HSL.o;omega);rw[F.bMs]at h5;refine h5.mono ?_;rintro e w'' ⟨v5,rfl,ho5,hb5⟩;rw[show eZ F.C v.t.toL 1=_ from HCC.o]at ho5;obtain⟨a5,c5,rfl,_⟩:=ho5.rd (by rw[Fam.bMs];exact HF.o.hN);rw[Fam.bMs]at ho5 ⊢
     exact⟨a5,c5,rfl,ho5,hb5⟩)
    have HSK:=hid (fun w' (hB:Below w2.drew.heap.size w2.drew w')=>(⟨hB.keep b0,hB.keep x0,hB.keep x1,hB.keep x2,hB⟩:w'.cell? ⟨w.heap.size,0,none⟩=some (.slice a F.N c)/\w'.cell? ⟨w.heap.size+1+1,0,none⟩=some (.int .i64 v.n)/\w'.cell? ⟨w.heap.size+1+1,1,none⟩=some (.int .i64 v.r)/\w'.cell? ⟨w.heap.size+1+1,2,none⟩=some (.pointer v.a)/\Below w2.drew.heap.size w2.drew w'));clear HWF HPM HRG hCl
    go_cut [11,12] from 11 to 43 (fun y e0 wx=>bLy w a F.N c mb (w.heap.size+1) (w.heap.size+1+1) v (⟨F.N,eB F.vs ⟨other,v.n,0,v.t.toL⟩⟩:Fam).C y e0 wx)
    case first=>
     go_region_held3 (fun w'=>w'.cell? ⟨w.heap.size,0,none⟩=some (.slice a F.N c)/\w'.cell? ⟨w.heap.size+1+1,0,none⟩=some (.int .i64 v.n)/\w'.cell? ⟨w.heap.size+1+1,1,none⟩=some (.int .i64 v.r)/\w'.cell? ⟨w.heap.size+1+1,2,none⟩=some (.pointer v.a)/\Below w2.drew.heap.size w2.drew w')
      (first
       |exact HSK.o _ (Below.refl _ _)
       |exact HSK.o _ hB5
       |exact HSK.o _ (hB5.bMq _)
       |exact HSK.o _ (hB5.setCell (Nat.le_refl _) _)
       |exact HSK.o _ (hB5.setCell hz4 _)
       |exact HSK.o _ hB4
       |exact HSK.o _ (hB4.bMq _)
       |exact HSK.o _ ((Below.refl _ _).bMq _))
      (first
       |(go_at_call 61;have hH:= ‹_/\_/\_/\_/\Below w2.drew.heap.size w2.drew _›;refine(HVL.o _ ((Below.refl w2.heap.size w2).drew.on hH.2.2.2.2)).mono ?_;rintro e w4 ⟨sv,rfl,ho4,hb4⟩;obtain⟨sa,sc,rfl,hrd4⟩:=ho4.rd (by have:=HSL.o;omega);have hB4:=hH.2.2.2.2.on hb4;have hz4:=hB4.size;(try(have hq1:=aQv hb4;have q1:=hq1.1;have qf1:=hq1.2;clear hq1));(try(have hq1:=aAq hb4;have q1:=hq1.1;have qf1:=hq1.2;clear hq1)))
       |(go_at_call 123;have hH:= ‹_/\_/\_/\_/\Below w2.drew.heap.size w2.drew _›;refine(HAD.o _ sa sc ((Below.refl w2.heap.size w2).drew.on hH.2.2.2.2) (by first|exact hrd4|exact hrd4.keep ((Below.refl _ _).bMq _))).mono ?_;rintro e w5 ⟨a5,c5,rfl,ho5,hb5⟩;have hB5:=hH.2.2.2.2.on hb5;(try have q5:=hb5.keep q1);(try have qf5:=hb5.bMw q1 qf1);(try(have hq1:=aAq hb5;have q5:=hq1.1;have qf5:=hq1.2;clear hq1))))
     ·have HQ:=hid (bHn (t:=43) HH.o HV.o hB5 ho5 (Nat.lt_of_lt_of_le HV.o.lt hz4));clear ho5 hB5 hB4 hb5 hb4 ho4 hrd4 hz4;go_wp2_with fail;go_meet;exact HQ.o
     ·have HQ:=hid (aSv HH.o HV.o hB5 ho5 (by have:=HV.o.lt;have h9:w2.heap.size<=w4.heap.size:=hz4;simp;omega) hz4 (by simp) q5);clear ho5 hB5 hB4 hb5 hb4 ho4 hrd4 hz4 q5 qf5;go_wp2_with fail;go_meet;exact HQ.o
     ·have HQ:=hid (aSv HH.o HV.o hB5 ho5 (Nat.lt_of_lt_of_le HV.o.lt hz4) (Nat.le_refl _) (by have:=World.block_lt_of_cell? w4 _ q1;exact this) q5);clear ho5 hB5 hB4 hb5 hb4 ho4 hrd4 hz4 q5 qf5 q1 qf1;go_wp2_with fail;go_meet;exact HQ.o
    case rest=>
     obtain ⟨Y,a5,c5,rfl,rfl,hH,hV,hYX,hcY,ho5⟩:=hcut;have b0:=hH.b0;have b1:=hH.b1;have x0:=hV.x0;have x1:=hV.x1;have x2:=hV.x2;have f1:=hV.f1;have hbs:=hH.rf.bel.setCell (p:=⟨w.heap.size+1+1,1,none⟩) (by simp only;omega) (.int .i64 0);have hoS:=(ho5.away ⟨w.heap.size+1+1,1,none⟩ (.int .i64 0) fun h=>by have:w.heap.size+1+1+1<=w.heap.size+1+1:=(ho5.lt (w.heap.size+1+1) h).1;omega);have hrfS:RF w (wc.setCell ⟨w.heap.size+1+1,1,none⟩ (.int .i64 0)) (w.heap.size+1):=by
      have hne:w.heap.size+1≠w.heap.size+1+1:=by omega
      exact⟨(cell_far hne).trans hH.rf.r0,(cell_far hne).trans hH.rf.r1,by rw[World.frozen?_setCell];exact hH.rf.f0,by rw[World.frozen?_setCell];exact hH.rf.f1,fun i hi=>(cell_far hne).trans (hH.rf.r2 i hi),hH.rf.le,hbs⟩
     have d0:(wc.setCell ⟨w.heap.size+1+1,1,none⟩ (.int .i64 0)).cell? ⟨w.heap.size,0,none⟩=some (.slice a F.N c):=(cell_far (by simp only;omega)).trans b0;have d1:(wc.setCell ⟨w.heap.size+1+1,1,none⟩ (.int .i64 0)).cell? ⟨w.heap.size,1,none⟩=some (.map mb):=(cell_far (by simp only;omega)).trans b1;have d2:(wc.setCell ⟨w.heap.size+1+1,1,none⟩ (.int .i64 0)).cell? ⟨Y,0,none⟩=some (.slice a5 F.N c5):=(cell_far (by simpa using hYX)).trans hcY;have d3:(wc.setCell ⟨w.heap.size+1+1,1,none⟩ (.int .i64 0)).cell? ⟨w.heap.size+1+1,0,none⟩=some (.int .i64 v.n):=(World.cell?_setCell_other _ _ _ _ (by simp)).trans x0;have d4:(wc.setCell ⟨w.heap.size+1+1,1,none⟩ (.int .i64 0)).cell? ⟨w.heap.size+1+1,1,none⟩=some (.int .i64 0):=World.cell?_setCell_same _ _ _ x1;have d5:(wc.setCell ⟨w.heap.size+1+1,1,none⟩ (.int .i64 0)).cell? ⟨w.heap.size+1+1,2,none⟩=some (.pointer v.a):=(World.cell?_setCell_other _ _ _ _ (by simp)).trans x2;have HBS:=hid hbs;have HOS:=hid hoS;have HRS:=hid hrfS;clear hbs hoS hrfS hH hV hcY ho5 b0 b1 HVL HAD HSK HRI;go_wp2_with fail;refine(aEm a F.N c a5 F.N c5 mb ts ⟨other,v.n,0,v.a,v.t⟩ _ (HT.o.keep HBS.o) (aF.keep HBS.o v.t HVT.o) hot (by omega)).mono ?_;rintro e w3 ⟨b,rfl,hT3,hb⟩;have hR3:=HRS.o.later hb;have r0:=hR3.r0;have r1':=hR3.r1;have f0':=hR3.f0;have f1':=hR3.f1;obtain⟨a6,c6,he6,hri⟩:=HOS.o.rd (by rw[Fam.bMs];exact HF.o.hN);injection he6 with he1 he2 he3;subst he1;have hfam:bA w3 (.agg #[.slice a5 F.N c5,.map (some b)]) ⟨F.N,eB F.vs ⟨other,v.n,0,v.t.toL⟩⟩:=bA.mk' (hri.keep hb) hT3 (by rw[aEp,HTS.o];rfl);have HFAM:=hid hfam;have HR3:=hid hR3;clear hb hT3 hfam hR3 hri he2 he3;go_wp2_with fail;obtain⟨j0,j1⟩:=HR3.o.cells (u:= .slice a5 F.N c5) (v:= .map (some b))
     (try simp only[Exit.inBlock,Exit.then])
     refine bodyPost_ret (v:= .tuple #[.agg #[.slice a5 F.N c5,.map (some b)],.int .i64 0]) (by first|(rw[results_cell_tmp rfl];go_simp;done)|(rw[aB rfl];go_simp;done)|(rw[aA rfl];go_simp;done)) rfl ?_;exact⟨_,rfl,HR3.o.fam HFAM.o,HR3.o.below⟩
end Go.Proofs.YtaiklhbakldfhaaGreat
