/-
  package alloc: Largest, Runs, Is; slices.Grow, slices.Concat, slices.BinarySearchFunc.
  package alloc: Give.
  package alloc: behind, anywhere, pieces.
  package alloc: Take.
  Conditions: as each theorem says.
-/
import Derived.Test.YtaiklhbakldfhaaGreatHC
import Derived.Test.YtaiklhbakldfhaaGreatHF
import Derived.Lib.AppendZerosOnto
import Derived.Test.YtaiklhbakldfhaaGreatHD
import Derived.Test.YtaiklhbakldfhaaGreatHB
namespace Go.Proofs.YtaiklhbakldfhaaGreat
open Go.Lib (hid)
set_option linter.unusedSimpArgs false
set_option linter.unusedVariables false
set_option maxRecDepth 100000
set_option maxHeartbeats 16000000
open Go.RowKit
theorem bCn (N:Int) (R:List E) (a:Option Addr) (c:Nat) (w:World) (hr:Rd w a R) (hl:R.length<=1000000000):
  Calls Tryz.prog 92 #[.agg #[.int .i64 N,.slice a R.length c]] w fun e w'=>∃ v,e= .returned v/\aG w' w.heap.size v R/\Below w.heap.size w w':=by
 have hk:=(Below.refl w.heap.size w).bMq (.cells #[.int .i64 N,.slice a R.length c] 111);have HR:=hid (hr.keep hk);go_enter Tryz.func92,Tryz.ntmps92;go_wp2_with fail;refine(aCr R a c _ HR.o hl).mono ?_;rintro e w1 ⟨v,rfl,ho,hb1⟩;go_wp2_with fail;go_ret;exact⟨_,rfl,ho.mono hk.size,hk.on hb1⟩
theorem aG.zeros (w:World) (cs:Array Value) (cap B:Nat) (hB:B<=w.heap.size) (hc:cap<=maxLen) (hs:cs.size=cap*3):aG (w.alloc (.cells cs 81)) B (.slice (some ⟨w.heap.size,0,none⟩) 0 cap) []:=by
 exact⟨rfl,.inr ⟨w.heap.size,cap,cs,rfl,hB,heap_alloc_new w _,Nat.zero_le _,hc,hs,by simp[bH]⟩⟩
theorem bFv (n:Nat) (w:World) (hn:n<=10000000):
  Calls Tryz.prog 182 #[.slice none 0 0,.int .i64 n] w fun e w'=>∃ v,e= .returned v/\aG w' w.heap.size v []/\Below w.heap.size w w':=by
 obtain⟨i0,hi,hz0,hz1,hz2⟩:=info_parts kV;by_cases h0:n=0
 ·subst h0;go_enter Tryz.func182,Tryz.ntmps182;go_wp2_with fail;go_ret;exact⟨_,rfl,aG.nil _ _,Below.refl _ _⟩
 ·have hn1:1<=n:=by omega
  have hold:(Builtin.firstCells i0.size 0 (.slice none 0 0)).run Tryz.prog w.drew= .ok (([]:List Value).toArray) w.drew:=run_firstCells_none w.drew i0.size 0 0 0;have hrz:∀ ty,(Builtin.append_ #[76,3] ty #[.slice none 0 0,.int .i64 n]).run Tryz.prog w=_:=fun ty=>
   Lib.run_append_grow_zeros w 76 3 ty 81 i0 (.agg #[.int .i64 0,.int .i64 0,.int .i64 0]) .i64 .i64 Tryz.underlying76 Tryz.underlying3 hi hz0 none 0 0 [] hold n (by omega) (by omega) (by omega) (by omega) (by rw[hz2];omega)
    (by rw[Nat.zero_add];exact growslice_fits (by omega) (by rw[hz2];omega))
  simp only[Nat.zero_add]at hrz;have hGn:n<=grownCap w n 0 81:=grownCap_ge w _ _ _;have hG63:=grownCap_le_maxLen w n 0 81 (by unfold maxLen;omega);have HSZ:Hid ((([]:List Value).toArray++Builtin.zeroCells (Value.agg #[.int .i64 0,.int .i64 0,.int .i64 0]).cells n++Builtin.zeroCells (Value.agg #[.int .i64 0,.int .i64 0,.int .i64 0]).cells (grownCap w n 0 81-n)).size=grownCap w n 0 81*3):=hid (by
   simp[Builtin.zeroCells,Value.cells]
   omega)
  generalize grownCap w n 0 81=G at *;generalize ([]:List Value).toArray++Builtin.zeroCells (Value.agg #[.int .i64 0,.int .i64 0,.int .i64 0]).cells n++Builtin.zeroCells (Value.agg #[.int .i64 0,.int .i64 0,.int .i64 0]).cells (G-n)=cs at *;have HRZ:=hid hrz;have HM:=hid hG63;clear hrz hold hG63 h0;go_enter Tryz.func182,Tryz.ntmps182
  go_wp2_with (at_builtin;refine Lib.wpList_append_run _ rfl _ _ _ _ rfl _ _ rfl rfl _ _ (HRZ.o _) ?_)
  go_ret;exact⟨_,rfl,aG.zeros w.drew cs G _ (Nat.le_refl _) HM.o HSZ.o,(Below.refl _ _).drew.bMq _⟩
theorem aWi (A L:List E) (a al:Option Addr) (c cl q:Nat) (w:World) (hc0:w.cell? ⟨q,0,none⟩=some (.slice a A.length c)) (hc1:w.cell? ⟨q,1,none⟩=some (.slice al L.length cl)) (hrA:Rd w a A) (hrL:Rd w al L) (hA:A.length<=1000000) (hL:L.length<=1000000):
  Calls Tryz.prog 135 #[.slice (some ⟨q,0,none⟩) 2 2] w fun e w'=>∃ v,e= .returned v/\aG w' w.heap.size v (A++L)/\Below w.heap.size w w':=by
 obtain⟨i0,hi,hz0,hz1,hz2⟩:=info_parts kV;have HRA:=hid hrA;have HRL:=hid hrL;clear hrA hrL;go_enter Tryz.func135,Tryz.ntmps135;go_wp2_with fail;go_loopw [3,5,11] (fun v _ i wr=>((i= .int .i64 0/\v= .int .i64 0)∨(i= .int .i64 1/\v= .int .i64 A.length)∨(i= .int .i64 2/\v= .int .i64 (A.length+L.length:Nat)))/\w=wr) (fun _ _ i _=>2-(intOf i).toNat)
 case atStart=>exact⟨.inl ⟨rfl,rfl⟩,rfl⟩
 case round=>
  obtain⟨⟨rfl,rfl⟩|⟨rfl,rfl⟩|⟨rfl,rfl⟩,rfl⟩:=hrel
  ·go_wp2_with fail;go_roundw
   case rel=>exact⟨.inr (.inl ⟨by first|rfl|trivial,by go_num⟩),by first|rfl|trivial⟩
   case measure=>simp[intOf]
  ·go_wp2_with fail;go_roundw
   case rel=>exact⟨.inr (.inr ⟨by first|rfl|trivial,by go_num⟩),by first|rfl|trivial⟩
   case measure=>simp[intOf]
  ·go_wp2_with fail;refine(bFv (A.length+L.length) w (by omega)).mono ?_;rintro e w1 ⟨v1,rfl,ho1,hb1⟩;have HO:=hid ho1;have HB:=hid hb1;clear ho1 hb1;go_wp2_with fail;go_loopw [6,8,27] (fun v _ i wr=>((i= .int .i64 0/\aG wr w.heap.size v [])∨(i= .int .i64 1/\aG wr w.heap.size v A)∨(i= .int .i64 2/\aG wr w.heap.size v (A++L)))/\Below w.heap.size w wr) (fun _ _ i _=>2-(intOf i).toNat)
   case atStart=>exact⟨.inl ⟨rfl,HO.o⟩,HB.o⟩
   case round=>
    obtain⟨⟨rfl,ho⟩|⟨rfl,ho⟩|⟨rfl,ho⟩,hB⟩:=hrel
    ·have hq0:=hB.keep hc0;have HQ:=hid ho;have HS:=hid (HRA.o.keep hB).source;have hsz:=hB.size;have hA0:([]:List E).length+A.length=A.length:=by simp
     clear ho
     go_wp2_with (at_builtin;refine dB _ rfl _ _ 76 rfl w.heap.size 81 i0 (.agg #[.int .i64 0,.int .i64 0,.int .i64 0]) 3 24 Tryz.underlying76 hi hz0 hz1 hz2 rfl (by decide) _ _ _ rfl HQ.o _ _ _ _ rfl HS.o (by first|omega|(simp only[List.length_nil,List.length_append,List.length_cons];omega)) (by first|(simp only[maxLen];omega)|(simp only[maxLen,List.length_nil,List.length_append,List.length_cons];omega)) (by first|omega|(simp only[World.size_alloc];omega)) ?_;intro v1 w1 hown1 hgrow1 hwhere1)
     have HO6:=hid (aG.append hown1 rfl);have HB6:=hid (hB.bMu hgrow1 (fun j hj=>(HQ.o.lt j hj).1));clear hown1 hgrow1 hwhere1 hA0;go_roundw
     case rel=>exact⟨.inr (.inl ⟨rfl,HO6.o⟩),HB6.o⟩
     case measure=>simp[intOf]
    ·have hq1:=hB.keep hc1;have HQ:=hid ho;have HS:=hid (HRL.o.keep hB).source;have hsz:=hB.size;clear ho
     go_wp2_with (at_builtin;refine dB _ rfl _ _ 76 rfl w.heap.size 81 i0 (.agg #[.int .i64 0,.int .i64 0,.int .i64 0]) 3 24 Tryz.underlying76 hi hz0 hz1 hz2 rfl (by decide) _ _ _ rfl HQ.o _ _ _ _ rfl HS.o (by first|omega|(simp only[List.length_nil,List.length_append,List.length_cons];omega)) (by first|(simp only[maxLen];omega)|(simp only[maxLen,List.length_nil,List.length_append,List.length_cons];omega)) (by first|omega|(simp only[World.size_alloc];omega)) ?_;intro v1 w1 hown1 hgrow1 hwhere1)
     have HO6:=hid (aG.append hown1 rfl);have HB6:=hid (hB.bMu hgrow1 (fun j hj=>(HQ.o.lt j hj).1));clear hown1 hgrow1 hwhere1;go_roundw
     case rel=>exact⟨.inr (.inr ⟨rfl,HO6.o⟩),HB6.o⟩
     case measure=>simp[intOf]
    ·have HQ:=hid ho;clear ho;go_wp2_with fail;go_ret;exact⟨_,rfl,HQ.o,hB⟩
open Go.RowKit
theorem aVs (N:Nat) (R l:List E) (a al:Option Addr) (c cl:Nat) (w:World) (hN:N<=65536) (hr:Rd w al l) (hw:wfL l) (hl:l.length<=1000000) (hp:(aS N l&&vT l)=false):
  Calls Tryz.prog 93 #[.agg #[.int .i64 N,.slice a R.length c],.slice al l.length cl] w fun e w'=>e= .returned (.tuple #[.agg #[.int .i64 0,.slice none 0 0],.int .i64 2])/\Below w.heap.size w w':=by
 have HS0:=hid (uV.start w N a R.length c 111);have HR0:=hid (hr.keep (((Below.refl w.heap.size w).bMq (.cells #[.int .i64 N,.slice a R.length c] 111)).bMq (.cells #[.int .i64 0,.slice none 0 0] 111)));cases h:aS N l
 ·have HP:=hid h;clear hp h hr;go_enter Tryz.func93,Tryz.ntmps93;go_wp2_with fail;refine(aSt N l a al _ c cl _ hN HR0.o hw HP.o).mono ?_;rintro e w1 ⟨rfl,hb1⟩;have HS:=hid (HS0.o.later hb1);clear hb1 HS0;have r0:=HS.o.r0;have r1:=HS.o.r1;have f0:=HS.o.f0;have f1:=HS.o.f1;have b0:=HS.o.b0;have b1:=HS.o.b1;go_wp2_with fail;refine bodyPost_ret (v:= .tuple #[.agg #[.int .i64 0,.slice none 0 0],.int .i64 2]) ?_ rfl ⟨rfl,?_⟩
  ·simp[results,Tryz.results93,go_sem,r0,r1,f0,f1]
  ·exact(HS.o.B.setCell (by simp) _).setCell (by simp) _
 ·rw[h]at hp;have HP:=hid h;have HO:Hid (vT l=false):=hid (by simpa using hp);clear hp h hr;go_enter Tryz.func93,Tryz.ntmps93;go_wp2_with fail;refine(yA N l a al _ c cl _ hN HR0.o hw HP.o hl).mono ?_;rintro e w1 ⟨v1,rfl,_,hb1⟩;rw[HO.o];have HS:=hid (HS0.o.later hb1);clear hb1 HS0;have r0:=HS.o.r0;have r1:=HS.o.r1;have f0:=HS.o.f0;have f1:=HS.o.f1;have b0:=HS.o.b0;have b1:=HS.o.b1;go_wp2_with fail;refine bodyPost_ret (v:= .tuple #[.agg #[.int .i64 0,.slice none 0 0],.int .i64 2]) ?_ rfl ⟨rfl,?_⟩
  ·simp[results,Tryz.results93,go_sem,r0,r1,f0,f1]
  ·exact(HS.o.B.setCell (by simp) _).setCell (by simp) _
def bHs (N:Nat) (R L:List E) (w:World) (e:Ending) (w':World):Prop:=
 Below w.heap.size w w'/\((aT (bT (R++L))=aT R+aT L/\ ∃v,e= .returned (.tuple #[.agg #[.int .i64 N,v],.int .i64 0])/\ ∃a' c',v= .slice a' (bT (R++L)).length c'/\aG w' w.heap.size v (bT (R++L)))∨
  (aT (bT (R++L))≠aT R+aT L/\e= .returned (.tuple #[.agg #[.int .i64 0,.slice none 0 0],.int .i64 8])))
theorem bFx (N:Nat) (R l:List E) (a al:Option Addr) (c cl:Nat) (w:World) (hN:N<=65536) (hrR:Rd w a R) (hc:Canon R) (hr:Rd w al l) (hw:wfL l) (hl:l.length<=1000000) (hp:aS N l=true) (ho:vT l=true):
  Calls Tryz.prog 93 #[.agg #[.int .i64 N,.slice a R.length c],.slice al l.length cl] w (bHs N R (bT (dY l)) w):=by
 have HS0:=hid (uV.start w N a R.length c 111);have hk:=((Below.refl w.heap.size w).bMq (.cells #[.int .i64 N,.slice a R.length c] 111)).bMq (.cells #[.int .i64 0,.slice none 0 0] 111);have HR0:=hid (hr.keep hk);have HRR:=hid (hrR.keep hk);have HP:=hid hp;have HO:=hid ho;have hLc:=(dV (dY l)).1;have hLs:=bE hLc;have hWc:=(dV (R++bT (dY l))).1;have hWs:=bE hWc;have hRs:=bE hc;have HWF:Hid (wfL (R++bT (dY l))):=hid (iQ fun x hx=>by
  rcases List.mem_append.1 hx with h|h
  ·exact(hc.1 x h).2
  ·exact(hLc.1 x h).2)
 have HM:∀ L:List E,Canon L-> ∀x∈L,0<=x.n/\x.n<=65536:=fun L hL x hx=>by
  have:=(aD x).1 (hL.1 x hx).2;omega
 have HM1:=hid (HM _ hLc);have HM2:=hid (HM _ hWc);have HM3:=hid (HM _ hc);obtain⟨q1,q2⟩:=qR _ 65536 HM1.o;obtain⟨q3,q4⟩:=qR _ 65536 HM2.o;obtain⟨q5,q6⟩:=qR _ 65536 HM3.o;clear hp ho hr hrR hk hLc hWc HM hc;generalize hLL:bT (dY l)=L at *;have HLL:=hid hLL;clear hLL;go_enter Tryz.func93,Tryz.ntmps93;go_wp2_with fail;have hcon:=yA N l a al R.length c cl _ hN HR0.o hw HP.o hl;rw[HO.o,HLL.o]at hcon;refine hcon.mono ?_;rintro e w1 ⟨v1,rfl,ho1,hb1⟩;obtain⟨a1,c1,rfl,hr1⟩:=ho1.rd (by omega);have HS:=hid (HS0.o.later hb1);have HRR1:=hid (HRR.o.keep hb1);have HR1:=hid hr1;have HSZ:=hid hb1.size;clear hb1 HS0 HRR ho1 hr1 hcon HR0;have b1:=HS.o.b1;go_wp2_with fail;refine(aWi R L a a1 c c1 w1.heap.size _ (by simp) (by simp) (HRR1.o.keep ((Below.refl _ _).bMq _)) (HR1.o.keep ((Below.refl _ _).bMq _)) (by omega) (by omega)).mono ?_;rintro e w2 ⟨v2,rfl,ho2,hb2⟩;obtain⟨a2,c2,rfl,hr2⟩:=ho2.rd (by simp;omega);have hbb:=((Below.refl w1.heap.size w1).bMq (.cells #[.slice a R.length c,.slice a1 L.length c1] 76)).on hb2;have HS:=hid (HS.o.later hbb);have HRR2:=hid (HRR1.o.keep hbb);have HR2:=hid (HR1.o.keep hbb);have HRC:=hid hr2;have HSZ2:=hid (Nat.le_trans HSZ.o hbb.size);clear hb2 hbb ho2 hr2 HRR1 HR1 b1 HSZ;go_wp2_with fail;have hcon:=zX (R++L) a2 c2 _ HRC.o HWF.o (by simp;omega);rw[List.length_append]at hcon;refine hcon.mono ?_;clear hcon;rintro e w3 ⟨v3,rfl,ho3,hb3⟩;have HS:=hid (HS.o.later hb3);have HRR2:=hid (HRR2.o.keep hb3);have HR2:=hid (HR2.o.keep hb3);generalize hWW:bT (R++L)=W at *;have HWW:=hid hWW;obtain⟨a3,c3,rfl,hr3⟩:=ho3.rd (by omega);have HW3:=hid hr3;have HO3:=hid (ho3.mono (B':=w.heap.size+2) (by have:=HSZ2.o;simp at this;omega));clear hb3 ho3 hr3 hWW HRC HSZ2;have b1:=HS.o.b1;have b0:=HS.o.b0;generalize hl1:aT W=z1 at *;generalize hl2:aT L=z2 at *;generalize hl3:aT R=z3 at *;have H1:=hid hl1;have H2:=hid hl2;have H3:=hid hl3;have q7:IntKind.i64.wrap (z3+z2)=z3+z2:=IntWalk.i64_in _ (by omega);clear hl1 hl2 hl3;by_cases hz:z1=z3+z2
 ·have d1:(z1 != z3+z2)=false:=by simp[hz]
  have d2:(z1==z3+z2)=true:=by simp[hz]
  have HZ:=hid hz;clear hz;go_wp2_with fail;refine aC (by kernel_rfl) (by kernel_rfl) ?_
  repeat(go_big_quiet_step (first|(go_at_call_of 133 (Value.slice a3 W.length c3);exact Calls.bMv (jT W z1 a3 c3 _ H1.o (HW3.o.keep (World.bMr _ _)) HM2.o (by omega)))|(go_at_call_of 133 (Value.slice a1 L.length c1);exact Calls.bMv (jT L z2 a1 c1 _ H2.o (HR2.o.keep (World.bMr _ _)) HM1.o (by omega)))|(go_at_call_of 133 (Value.slice a R.length c);exact Calls.bMv (jT R z3 a c _ H3.o (HRR2.o.keep (World.bMr _ _)) HM3.o (by omega)))))
  refine wpQuiet_nil ?_;intro _ hw';obtain⟨nq,hw''⟩:=hw';subst hw'';have HB:=hid (HS.o.later (World.bMr w3 nq));have HO4:=hid (HO3.o.keep (World.bMr w3 nq));clear HS b0 b1;generalize w3.next nq=w4 at *;have HS:=HB;have r0:=HS.o.r0;have r1:=HS.o.r1;have f0:=HS.o.f0;have f1:=HS.o.f1;have b0:=HS.o.b0;have b1:=HS.o.b1;go_wp2_with fail;refine bodyPost_ret (v:= .tuple #[.agg #[.int .i64 N,.slice a3 W.length c3],.int .i64 0]) ?_ rfl ⟨?_,.inl ⟨by rw[HWW.o,H1.o,H2.o,H3.o];exact HZ.o,_,rfl,a3,c3,by rw[HWW.o],?_⟩⟩
  ·simp[results,Tryz.results93,go_sem,r0,r1,f0,f1]
  ·exact(HS.o.B.setCell (by simp) _).setCell (by simp) _
  ·rw[HWW.o];have hne:(Value.slice a3 W.length c3).ownBlock≠some (w.heap.size+1):=fun e=>by have:=(HO4.o.lt _ e).1;omega
   exact((HO4.o.away ⟨w.heap.size+1,0,none⟩ _ hne).away ⟨w.heap.size+1,1,none⟩ _ hne).mono (by omega)
 ·have d1:(z1 != z3+z2)=true:=by simp[hz]
  have d2:(z1==z3+z2)=false:=by simp[hz]
  have HZ:=hid hz;clear hz;go_wp2_with fail;refine aC (by kernel_rfl) (by kernel_rfl) ?_
  repeat(go_big_quiet_step (first|(go_at_call_of 133 (Value.slice a3 W.length c3);exact Calls.bMv (jT W z1 a3 c3 _ H1.o (HW3.o.keep (World.bMr _ _)) HM2.o (by omega)))|(go_at_call_of 133 (Value.slice a1 L.length c1);exact Calls.bMv (jT L z2 a1 c1 _ H2.o (HR2.o.keep (World.bMr _ _)) HM1.o (by omega)))|(go_at_call_of 133 (Value.slice a R.length c);exact Calls.bMv (jT R z3 a c _ H3.o (HRR2.o.keep (World.bMr _ _)) HM3.o (by omega)))))
  refine wpQuiet_nil ?_;intro _ hw';obtain⟨nq,hw''⟩:=hw';subst hw'';have HB:=hid (HS.o.later (World.bMr w3 nq));clear HS b0 b1;generalize w3.next nq=w4 at *;have HS:=HB;have r0:=HS.o.r0;have r1:=HS.o.r1;have f0:=HS.o.f0;have f1:=HS.o.f1;have b0:=HS.o.b0;have b1:=HS.o.b1;go_wp2_with fail;refine bodyPost_ret (v:= .tuple #[.agg #[.int .i64 0,.slice none 0 0],.int .i64 8]) ?_ rfl ⟨?_,.inr ⟨by rw[HWW.o,H1.o,H2.o,H3.o];exact HZ.o,rfl⟩⟩
  ·simp[results,Tryz.results93,go_sem,r0,r1,f0,f1]
  ·exact(HS.o.B.setCell (by simp) _).setCell (by simp) _
theorem bCt (M:List Bool) (l:List E) (a al:Option Addr) (c cl:Nat) (w:World) (hN:M.length<=65536) (hrR:Rd w a (aV M)) (hr:Rd w al l) (hw:wfL l) (hl:l.length<=1000000):
  Calls Tryz.prog 93 #[.agg #[.int .i64 M.length,.slice a (aV M).length c],.slice al l.length cl] w (bKh M l false a w):=by
 cases hb:nD M.length l
 ·exact(aVs M.length (aV M) l a al c cl w hN hr hw hl hb).mono fun e w' h=>⟨h.2,.inl ⟨hb,h.1⟩⟩
 ·obtain⟨hp,ho,_⟩:=vJ hN hb;refine(bFx M.length (aV M) l a al c cl w hN hrR (dA M) hr hw hl hp ho).mono fun e w' h=> ?_;obtain⟨h1,⟨h2,v,h3,a',c',rfl,h4⟩|⟨h2,h3⟩⟩:=h
  ·rw[bIw hN hp]at h4 h3;have hs:=bE (dA (uX M l false));exact⟨h1,.inr (.inr ⟨hb,(aKx hN hp).1 h2,_,h3,a',c',rfl,h4.rd' (by omega),.inr (.inr fun b o e=>(h4.lt b (by rw[e];rfl)).1)⟩)⟩
  ·exact⟨h1,.inr (.inl ⟨hb,fun hc=>h2 ((aKx hN hp).2 hc),h3⟩)⟩
open Go.RowKit
theorem oU {R:List E} (h:Canon R):∀ x∈R,okB x=true:=fun x hx=>(h.1 x hx).2
theorem bHa {R:List E} (h:Canon R):∀ x∈R,0<=x.n/\x.n<=65536:=fun x hx=>by
 have:=(aD x).1 (h.1 x hx).2;omega
theorem bCi (N:Int) (R:List E) (n h:Int) (a:Option Addr) (c:Nat) (w:World) (hr:Rd w a R) (hC:Canon R) (hh:0<=h/\h<=65536) (hf:oO (dM R h) n=none):
  Calls Tryz.prog 95 #[.agg #[.int .i64 N,.slice a R.length c],.int .i64 n,.int .i64 h] w fun e w'=>e= .returned (.tuple #[.slice none 0 0,.bool false])/\Below w.heap.size w w':=by
 have HCF:=hid (jF R h hC);have HCB:=hid (kW R h hC);have hs:=bE hC;have hsF:=bE HCF.o;have hsB:=bE HCB.o;have hk:=(Below.refl w.heap.size w).bMq (.cells #[.int .i64 N,.slice a R.length c] 111);have HR:=hid (hr.keep hk);have HO:=hid (oU hC);clear hr hC;have HF:=hid hf;clear hf;go_enter Tryz.func95,Tryz.ntmps95;go_wp2_with fail;refine(wO R h a c _ HR.o HO.o (by omega) hh).mono ?_;rintro e w1 ⟨v,m,rfl,ho,_,_,hb1⟩;obtain⟨a1,c1,rfl,hr1⟩:=ho.rd (by omega);have hB1:=hk.on hb1;clear ho hb1;go_wp2_with fail;refine(bGe _ n a1 c1 _ hr1 HF.o).mono ?_;rintro e w2 ⟨rfl,hb2⟩;have hB2:=hB1.on hb2;clear hb2 hr1;go_wp2_with fail;go_ret2;exact⟨rfl,hB2⟩
theorem aWy (N:Int) (R:List E) (n h s:Int) (a:Option Addr) (c:Nat) (w:World) (hr:Rd w a R) (hC:Canon R) (hn:1<=n/\n<=65536) (hh:0<=h/\h<=65536) (hf:oO (dM R h) n=some s):
  Calls Tryz.prog 95 #[.agg #[.int .i64 N,.slice a R.length c],.int .i64 n,.int .i64 h] w fun e w'=>∃ v,e= .returned (.tuple #[v,.bool true])/\aG w' w.heap.size v [⟨0,n,s⟩]/\Below w.heap.size w w':=by
 have HCF:=hid (jF R h hC);have HCB:=hid (kW R h hC);have hs:=bE hC;have hsF:=bE HCF.o;have hsB:=bE HCB.o;have hk:=(Below.refl w.heap.size w).bMq (.cells #[.int .i64 N,.slice a R.length c] 111);have HR:=hid (hr.keep hk);have HO:=hid (oU hC);clear hr hC;have HF:=hid hf;clear hf;go_enter Tryz.func95,Tryz.ntmps95;go_wp2_with fail;refine(wO R h a c _ HR.o HO.o (by omega) hh).mono ?_;rintro e w1 ⟨v,m,rfl,ho,_,_,hb1⟩;obtain⟨a1,c1,rfl,hr1⟩:=ho.rd (by omega);have hB1:=hk.on hb1;clear ho hb1;go_wp2_with fail;refine(aXq _ n s a1 c1 _ hr1 (oU HCF.o) hn HF.o).mono ?_;rintro e w2 ⟨v2,rfl,ho2,hb2⟩;have HO2:=hid (ho2.mono hB1.size);have hB2:=hB1.on hb2;clear hb2 hr1 ho2;go_wp2_with fail;go_ret2;exact⟨_,rfl,HO2.o,hB2⟩
theorem aSu (N:Int) (R:List E) (n h:Int) (a:Option Addr) (c:Nat) (w:World) (hr:Rd w a R) (hf:oO R n=none):
  Calls Tryz.prog 96 #[.agg #[.int .i64 N,.slice a R.length c],.int .i64 n,.int .i64 h] w fun e w'=>e= .returned (.tuple #[.slice none 0 0,.bool false])/\Below w.heap.size w w':=by
 have hk:=(Below.refl w.heap.size w).bMq (.cells #[.int .i64 N,.slice a R.length c] 111);have HR:=hid (hr.keep hk);have HF:=hid hf;clear hf hr;go_enter Tryz.func96,Tryz.ntmps96;go_wp2_with fail;refine(bGe _ n a c _ HR.o HF.o).mono ?_;rintro e w2 ⟨rfl,hb2⟩;have hB2:=hk.on hb2;clear hb2;go_wp2_with fail;go_ret2;exact⟨rfl,hB2⟩
theorem aNv (N:Int) (R:List E) (n h s:Int) (a:Option Addr) (c:Nat) (w:World) (hr:Rd w a R) (hC:Canon R) (hn:1<=n/\n<=65536) (hf:oO R n=some s):
  Calls Tryz.prog 96 #[.agg #[.int .i64 N,.slice a R.length c],.int .i64 n,.int .i64 h] w fun e w'=>∃ v,e= .returned (.tuple #[v,.bool true])/\aG w' w.heap.size v [⟨0,n,s⟩]/\Below w.heap.size w w':=by
 have hk:=(Below.refl w.heap.size w).bMq (.cells #[.int .i64 N,.slice a R.length c] 111);have HR:=hid (hr.keep hk);have HF:=hid hf;have HO:=hid (oU hC);clear hf hr hC;go_enter Tryz.func96,Tryz.ntmps96;go_wp2_with fail;refine(aXq _ n s a c _ HR.o HO.o hn HF.o).mono ?_;rintro e w2 ⟨v2,rfl,ho2,hb2⟩;have HO2:=hid (ho2.mono hk.size);have hB2:=hk.on hb2;clear hb2 ho2;go_wp2_with fail;go_ret2;exact⟨_,rfl,HO2.o,hB2⟩
def aMp (R:List E) (n h:Int):List E:=(cZ (dM R h) n).1++(cZ (beforeL R h) (n-min n (aT (dM R h)))).1
theorem aXm (l:List E) (n:Int) (hn:0<=n) (h:Canon l):(cZ l n).1.length<=65536:=by
 have h1:=(aKp l n hn (fun x hx=>((aD x).1 (h.1 x hx).2).1) l.length (Nat.le_refl _)).2;rw[List.take_length]at h1;have:=bE h;omega
theorem aUr (N:Int) (R:List E) (n h:Int) (a:Option Addr) (c:Nat) (w:World) (hr:Rd w a R) (hC:Canon R) (hn:0<=n/\n<=65536) (hh:0<=h/\h<=65536):
  Calls Tryz.prog 97 #[.agg #[.int .i64 N,.slice a R.length c],.int .i64 n,.int .i64 h] w fun e w'=>∃ v,e= .returned (.tuple #[v,.bool true])/\aG w' w.heap.size v (aMp R n h)/\Below w.heap.size w w':=by
 obtain ⟨i0,hi,hz0,hz1,hz2⟩:=info_parts kV;have HCF:=hid (jF R h hC);have HCB:=hid (kW R h hC);have hs:=bE hC;have hsF:=bE HCF.o;have hsB:=bE HCB.o;have hk:=(Below.refl w.heap.size w).bMq (.cells #[.int .i64 N,.slice a R.length c] 111);have HR:=hid (hr.keep hk);have HO:=hid (oU hC);clear hr hC;obtain⟨n0,n1⟩:=hn;obtain⟨z0,_⟩:=yZ _ (oU HCF.o);have HZ0:Hid (0<=n-min n (aT (dM R h))/\n-min n (aT (dM R h))<=65536):=hid (by omega);have hl1:=aXm _ n n0 HCF.o;have hl2:=aXm _ (n-min n (aT (dM R h))) (by omega) HCB.o;have HP:Hid (aMp R n h=(cZ (dM R h) n).1++(cZ (beforeL R h) (n-min n (aT (dM R h)))).1):=hid rfl;have hzb:=vZ HCF.o;have hzm:aT (dM R h)<=65536:=by
  rw[fE _ HCF.o];have:=iP (hasB (dM R h)) 65536;omega
 generalize hF:dM R h=F at *;generalize hB:beforeL R h=B at *;have HF:=hid hF;have HB:=hid hB;clear hF hB;go_enter Tryz.func97,Tryz.ntmps97;go_wp2_with fail;have hcon:=wO R h a c _ HR.o HO.o (by omega) hh;rw[HF.o,HB.o]at hcon;refine hcon.mono ?_;rintro e w1 ⟨v,m,rfl,ho,hm,_,hb1⟩;obtain⟨a1,c1,rfl,hr1⟩:=ho.rd (by omega);obtain⟨a2,c2,rfl,hr2⟩:=hm.rd (by omega);have hB1:=hk.on hb1;have HR1:=hid hr1;have HR2:=hid hr2;clear ho hb1 hm hcon hr1 hr2;go_wp2_with fail;refine(aGo F n a1 c1 _ HR1.o (oU HCF.o) (by omega) ⟨n0,n1⟩).mono ?_;rintro e w2 ⟨v2,rfl,ho2,hb2⟩;have HR1:=hid (HR1.o.keep hb2);have HR2:=hid (HR2.o.keep hb2);have HO2:=hid (ho2.mono hB1.size);have hB2:=hB1.on hb2;clear ho2 hb2;go_wp2_with fail;refine(tC F a1 c1 _ HR1.o (bHa HCF.o) (by omega)).mono ?_;rintro e w3 ⟨rfl,hb3⟩;have HR2:=hid (HR2.o.keep hb3);have HO3:=hid (HO2.o.keep hb3);have hB3:=hB2.on hb3;clear hb3;generalize hz:aT F=z at *;have HZ:=hid hz;clear hz;have q1:IntKind.i64.wrap (n-min n z)=n-min n z:=IntWalk.i64_in _ (by omega);go_wp2_with fail;refine(aGo B (n-min n z) a2 c2 _ HR2.o (oU HCB.o) (by omega) HZ0.o).mono ?_;rintro e w4 ⟨v4,rfl,ho4,hb4⟩;have hlb:=hl2;generalize hL2:(cZ B (n-min n z)).1=L2 at *;have HL2:=hid hL2;obtain⟨a4,c4,rfl,hr4⟩:=ho4.rd (by omega);have HS:=hid hr4.source;have HO4:=hid (HO3.o.keep hb4);have hB4:=hB3.on hb4;have hsz4:=hB4.size;generalize hL1:(cZ F n).1=L1 at *;have HL1:=hid hL1;clear hb4 ho4 hr4 hL2 hL1 q1
 go_wp2_with (at_builtin;refine dB _ rfl _ _ 76 rfl w.heap.size 81 i0 (.agg #[.int .i64 0,.int .i64 0,.int .i64 0]) 3 24 Tryz.underlying76 hi hz0 hz1 hz2 rfl (by decide) _ _ _ rfl HO4.o _ _ _ _ rfl HS.o (by first|omega|(simp only[List.length_nil,List.length_append,List.length_cons];omega)) (by first|(simp only[maxLen];omega)|(simp only[maxLen,List.length_nil,List.length_append,List.length_cons];omega)) (by first|omega|(simp only[World.size_alloc];omega)) ?_;intro v1 w1 hown1 hgrow1 hwhere1)
 have HB6:=hid (hB4.bMu hgrow1 (fun j hj=>(HO4.o.lt j hj).1));have HO6:=hid (aG.append hown1 rfl);clear hown1 hgrow1 hwhere1;go_wp2_with fail;go_ret2;exact⟨_,rfl,by rw[HP.o];exact HO6.o,HB6.o⟩
open Go.RowKit
theorem aIk (N:Int) (R:List E) (z:Int) (a:Option Addr) (c:Nat) (w:World) (hz:aT R=z) (hr:Rd w a R) (hc:Canon R):
  Calls Tryz.prog 94 #[.agg #[.int .i64 N,.slice a R.length c]] w fun e w'=>e= .returned (.int .i64 z)/\Below w.heap.size w w':=by
 subst hz;exact bCu N R a c w hr hc
theorem bKp (N:Nat) (R:List E) (n h:Int) (a:Option Addr) (c:Nat) (w:World) (hN:N<=65536) (hr:Rd w a R) (hC:Canon R) (hok:bJv N n h=true) (hf:aT R<n):
  Calls Tryz.prog 42 #[.agg #[.int .i64 N,.slice a R.length c],.int .i64 n,.int .i64 h] w fun e w'=>e= .returned (.tuple #[.slice none 0 0,.agg #[.int .i64 0,.slice none 0 0],.int .i64 11])/\Below w.heap.size w w':=by
 obtain⟨h1,h2,h3⟩:=(aIg _ _ _).1 hok;have HS:=hid (uV.start w N a R.length c 111);have hk:=((Below.refl w.heap.size w).bMq (.cells #[.int .i64 N,.slice a R.length c] 111)).bMq (.cells #[.int .i64 0,.slice none 0 0] 111);have HR:=hid (hr.keep hk);have HC:=hid hC;clear hok hr hC hk;generalize hz:aT R=z at *;have HZ:=hid hz;clear hz;have b0:=HS.o.b0;have b1:=HS.o.b1;go_enter Tryz.func42,Tryz.ntmps42;go_wp2_with fail;refine(aIk N R z a c _ HZ.o HR.o HC.o).mono ?_;rintro e w2 ⟨rfl,hb2⟩;have HS:=hid (HS.o.later hb2);clear hb2 b0 b1;have r0:=HS.o.r0;have r1:=HS.o.r1;have f0:=HS.o.f0;have f1:=HS.o.f1;have b0:=HS.o.b0;have b1:=HS.o.b1;go_wp2_with fail;refine bodyPost_ret (v:= .tuple #[.slice none 0 0,.agg #[.int .i64 0,.slice none 0 0],.int .i64 11]) ?_ rfl ⟨rfl,?_⟩
 ·simp[results,Tryz.results42,go_sem,r0,r1,f0,f1]
 ·exact(HS.o.B.setCell (by simp) _).setCell (by simp) _
theorem aWz (N:Nat) (R:List E) (h:Int) (a:Option Addr) (c:Nat) (w:World) (hN:N<=65536) (hr:Rd w a R) (hC:Canon R) (hok:bJv N 0 h=true):
  Calls Tryz.prog 42 #[.agg #[.int .i64 N,.slice a R.length c],.int .i64 0,.int .i64 h] w fun e w'=>e= .returned (.tuple #[.slice none 0 0,.agg #[.int .i64 N,.slice a R.length c],.int .i64 0])/\Below w.heap.size w w':=by
 obtain⟨h1,h2,h3⟩:=(aIg _ _ _).1 hok;have HS:=hid (uV.start w N a R.length c 111);have hk:=((Below.refl w.heap.size w).bMq (.cells #[.int .i64 N,.slice a R.length c] 111)).bMq (.cells #[.int .i64 0,.slice none 0 0] 111);have HR:=hid (hr.keep hk);have HC:=hid hC;have hz0:=vZ hC;clear hok hr hC hk;generalize hz:aT R=z at *;have HZ:=hid hz;clear hz;have b0:=HS.o.b0;have b1:=HS.o.b1;go_enter Tryz.func42,Tryz.ntmps42;go_wp2_with fail;refine(aIk N R z a c _ HZ.o HR.o HC.o).mono ?_;rintro e w2 ⟨rfl,hb2⟩;have HS:=hid (HS.o.later hb2);clear hb2 b0 b1;have r0:=HS.o.r0;have r1:=HS.o.r1;have f0:=HS.o.f0;have f1:=HS.o.f1;have b0:=HS.o.b0;have b1:=HS.o.b1;go_wp2_with fail
 go_region
 all_goals
  go_wp2_with fail;refine bodyPost_ret (v:= .tuple #[.slice none 0 0,.agg #[.int .i64 N,.slice a R.length c],.int .i64 0]) ?_ rfl ⟨rfl,?_⟩
  ·simp[results,Tryz.results42,go_sem,r0,r1,f0,f1]
  ·exact(HS.o.B.drew.setCell (by simp) _).setCell (by simp) _
theorem aPp (M:List Bool) (n h:Nat):aMp (aV M) n h=xC M n h:=rfl
def bKu (M:List Bool) (n h:Nat) (a:Option Addr) (w:World) (e:Ending) (w':World):Prop:=
 ∃v1 v2,e= .returned (.tuple #[v1,.agg #[.int .i64 M.length,v2],.int .i64 0])/\aG w' w.heap.size v1 (fZ M n h)/\aNx w w' a (aV M) (aV (uX M (fZ M n h) true)) v2/\Below w.heap.size w w'
def bMn (M:List Bool) (n h:Nat) (w2:World) (v:Value) (wr:World):Prop:=
 (v= .int .i64 0∨(v= .int .i64 1/\oO (dM (aV M) h) n=none)∨(v= .int .i64 2/\oO (dM (aV M) h) n=none/\oO (aV M) n=none))/\Below w2.heap.size w2 wr
theorem aFk {M:List Bool} {n h:Nat} {a a3 a4:Option Addr} {c3 c4:Nat} {w w4:World} {R4:List E} {t:TypeId} (hR:aV (uX M (fZ M n h) true)=R4) (hB:Below w.heap.size w w4) (ho:aG w4 (w.heap.size+2) (.slice a3 (fZ M n h).length c3) (fZ M n h))
  (hr:Rd w4 a4 R4) (hA:bKf (R4=[]) a4 (w.heap.size+1)) (hF:aDz (aV M=[]) (R4=[]) w.heap.size a a4):
  bKu M n h a w (Ending.returned (Value.tuple #[.slice a3 (fZ M n h).length c3,.agg #[.int .i64 M.length,.slice a4 R4.length c4],.int .i64 0]))
   (((w4.alloc (.cells #[.int .i64 M.length,.slice a4 R4.length c4] t)).setCell ⟨w.heap.size+1,0,none⟩ (.int .i64 M.length)).setCell ⟨w.heap.size+1,1,none⟩ (.slice a4 R4.length c4)).drew:=by
 subst hR;have hk:=(Below.refl w4.heap.size w4).bMq (.cells #[.int .i64 M.length,.slice a4 (aV (uX M (fZ M n h) true)).length c4] t);have hne:(Value.slice a3 (fZ M n h).length c3).ownBlock≠some (w.heap.size+1):=fun e=>by have:=(ho.lt _ e).1;omega
 refine⟨_,_,rfl,?_,⟨a4,c4,rfl,?_,hF⟩,?_⟩
 ·exact((((ho.keep hk).away ⟨w.heap.size+1,0,none⟩ _ hne).away ⟨w.heap.size+1,1,none⟩ _ hne).keep (Below.refl _ _).drew).mono (by omega)
 ·exact(((hr.keep hk).cell_ne (w.heap.size+1) 0 _ hA).cell_ne (w.heap.size+1) 1 _ hA).keep (Below.refl _ _).drew
 ·exact(((hB.bMq _).setCell (by simp) _).setCell (by simp) _).drew
theorem bCl (M:List Bool) (n h:Nat) (a:Option Addr) (c:Nat) (w:World) (hr:Rd w a (aV M)) (hN:M.length<=65536) (hh:h<=M.length) (hn:1<=n) (hf:n<=aL (dC M) M.length):
  Calls Tryz.prog 42 #[.agg #[.int .i64 M.length,.slice a (aV M).length c],.int .i64 n,.int .i64 h] w (bKu M n h a w):=by
 have hn':n<=65536:=by have:=iP (dC M) M.length;omega
 have HS:=hid (uV.start w M.length a (aV M).length c 111);have hk:=((Below.refl w.heap.size w).bMq (.cells #[.int .i64 M.length,.slice a (aV M).length c] 111)).bMq (.cells #[.int .i64 0,.slice none 0 0] 111);have HR:=hid (hr.keep hk);have HC:=hid (dA M);have HNA:=hid hr.lt;have HT:=hid (sJ hN (n:=n) (h:=h) hf);have HTB:=hid (fun s=>zT M n h s hn);have HTA:=hid (fun s=>aJl M n h s hn);have HTP:=hid (zS M n h hn);have HZ:=hid (aCd M hN);obtain⟨hw,hlen⟩:=aFl hN (n:=n) (h:=h) hf;have HW:=hid hw;have d0:((n:Int)==0)=false:=by simp;omega
 have i0:∀ w,(Instr.index 172 (.agg #[.func (.func 95) #[] #[],.func (.func 96) #[] #[],.func (.func 97) #[] #[]]) (.int .i64 0)).run Tryz.prog w= .ok (.func (.func 95) #[] #[]) w:=fun _=>by kernel_rfl
 have i1:∀ w,(Instr.index 172 (.agg #[.func (.func 95) #[] #[],.func (.func 96) #[] #[],.func (.func 97) #[] #[]]) (.int .i64 1)).run Tryz.prog w= .ok (.func (.func 96) #[] #[]) w:=fun _=>by kernel_rfl
 have i2:∀ w,(Instr.index 172 (.agg #[.func (.func 95) #[] #[],.func (.func 96) #[] #[],.func (.func 97) #[] #[]]) (.int .i64 2)).run Tryz.prog w= .ok (.func (.func 97) #[] #[]) w:=fun _=>by kernel_rfl
 clear hr hk hw;generalize hz:aL (dC M) M.length=z at *;have HZZ:=hid hz;clear hz;have b0:=HS.o.b0;have b1:=HS.o.b1;have e1:decide (z<n)=false:=decide_eq_false (by omega);have e2:decide ((n:Int)<0)=false:=decide_eq_false (by omega);have e3:decide ((h:Int)<0)=false:=decide_eq_false (by omega);go_enter Tryz.func42,Tryz.ntmps42;go_wp2_with fail;refine(aIk M.length (aV M) z a c _ HZ.o HR.o HC.o).mono ?_;rintro e w2 ⟨rfl,hb2⟩;have HS:=hid (HS.o.later hb2);have HR:=hid (HR.o.keep hb2);clear hb2 b0 b1;have r0:=HS.o.r0;have r1:=HS.o.r1;have f0:=HS.o.f0;have f1:=HS.o.f1;have b0:=HS.o.b0;have b1:=HS.o.b1;go_wp2_with fail;have HAW:Hid (bKf (aV M=[]) a (w.heap.size+1)):=hid (by
  rcases HNA.o with h1|h1
  ·exact .inl h1
  ·exact .inr fun b o e=>by have:=h1 b o e;omega)
 have HR2:=HR;have HS2:=HS;clear HR HS r0 r1 f0 f1 b0 b1;go_loopw [40] (fun i wr=>bMn M n h w2 i wr) (fun i _=>2-(intOf i).toNat)
 case atStart=>exact⟨.inl rfl,Below.refl _ _⟩
 case round=>
  obtain⟨rfl|⟨rfl,hf⟩|⟨rfl,hf,hg⟩,hB⟩:=hrel
  ·have HS:=hid (HS2.o.later hB);have HR:=hid (HR2.o.keep hB);have r0:=HS.o.r0;have r1:=HS.o.r1;have f0:=HS.o.f0;have f1:=HS.o.f1;have b0:=HS.o.b0;have b1:=HS.o.b1
   cases hf:oO (dM (aV M) h) n with
   | none=>
    have HF:=hid hf;clear hf;go_wp2_with fail;refine(bCi M.length (aV M) n h a c _ HR.o HC.o (by omega) HF.o).mono ?_;rintro e w3 ⟨rfl,hb3⟩;have hB3:=hB.on hb3;clear hb3;go_wp2_with fail;go_roundw
    case rel=>exact⟨.inr (.inl ⟨rfl,HF.o⟩),hB3⟩
    case measure=>simp[intOf]
   | some s=>
    have HF:=hid hf;have HTT:=hid (HTB.o s hf);clear hf;go_wp2_with fail;refine(aWy M.length (aV M) n h s a c _ HR.o HC.o (by omega) (by omega) HF.o).mono ?_;rintro e w3 ⟨v3,rfl,ho3,hb3⟩;rw[<-HTT.o]at ho3;obtain⟨a3,c3,rfl,_⟩:=ho3.rd (by omega);have HO3:=hid (ho3.mono (B':=w.heap.size+2) (by have:=World.block_lt_of_cell? _ _ r0;simp at this;omega));have HS3:=hid (HS.o.later hb3);have HR3:=hid (HR.o.keep hb3);clear hb3 ho3 r0 r1 f0 f1 b0 b1 HS HR HF HTT hB;have b0:=HS3.o.b0;have b1:=HS3.o.b1;go_wp2_with fail;clear b0 b1;refine(yB M (fZ M n h) a a3 c c3 _ hN HR3.o (HO3.o.rd' (by omega)) HW.o (by omega)).mono ?_;rintro e w4 hp;obtain⟨hb4,⟨h1,_⟩|⟨_,h1,_⟩|⟨_,_,v4,rfl,hn4⟩⟩:=hp
    ·exact absurd HT.o.range (by rw[h1];simp)
    ·exact absurd HT.o.st h1
    obtain⟨a4,c4,rfl,hr4,hfr4⟩:=hn4;have hsz3:w.heap.size+1<w3.heap.size:=by have:=World.block_lt_of_cell? _ _ HS3.o.r0;simpa using this
    have HA4:=hid (hfr4.away HAW.o hsz3);have HF4:=hid (hfr4.mono HS3.o.B.size);have HS:=hid (HS3.o.later hb4);have HO4:=hid (HO3.o.keep hb4);have HR4:=hid hr4;clear hb4 hr4 hfr4 HR3 HS3 HO3 hsz3;have r0:=HS.o.r0;have r1:=HS.o.r1;have f0:=HS.o.f0;have f1:=HS.o.f1;have b0:=HS.o.b0;have b1:=HS.o.b1;go_wp2_with fail;generalize hRR:aV (uX M (fZ M n h) true)=R4 at *;have HRR:=hid hRR;clear hRR
    go_region
    all_goals
     go_wp2_with fail;refine bodyPost_ret (v:= .tuple #[.slice a3 (fZ M n h).length c3,.agg #[.int .i64 M.length,.slice a4 R4.length c4],.int .i64 0]) ?_ rfl ?_
     ·simp[results,Tryz.results42,go_sem,r0,r1,f0,f1]
     ·exact aFk HRR.o HS.o.B HO4.o HR4.o HA4.o HF4.o
  ·have HS:=hid (HS2.o.later hB);have HR:=hid (HR2.o.keep hB);have HF:=hid hf;clear hf;have r0:=HS.o.r0;have r1:=HS.o.r1;have f0:=HS.o.f0;have f1:=HS.o.f1;have b0:=HS.o.b0;have b1:=HS.o.b1
   cases hg:oO (aV M) n with
   | none=>
    have HG:=hid hg;clear hg;go_wp2_with fail;refine(aSu M.length (aV M) n h a c _ HR.o HG.o).mono ?_;rintro e w3 ⟨rfl,hb3⟩;have hB3:=hB.on hb3;clear hb3;go_wp2_with fail;go_roundw
    case rel=>exact⟨.inr (.inr ⟨rfl,HF.o,HG.o⟩),hB3⟩
    case measure=>simp[intOf]
   | some s=>
    have HG:=hid hg;have HTT:=hid (HTA.o s HF.o hg);clear hg;go_wp2_with fail;refine(aNv M.length (aV M) n h s a c _ HR.o HC.o (by omega) HG.o).mono ?_;rintro e w3 ⟨v3,rfl,ho3,hb3⟩;rw[<-HTT.o]at ho3;obtain⟨a3,c3,rfl,_⟩:=ho3.rd (by omega);have HO3:=hid (ho3.mono (B':=w.heap.size+2) (by have:=World.block_lt_of_cell? _ _ r0;simp at this;omega));have HS3:=hid (HS.o.later hb3);have HR3:=hid (HR.o.keep hb3);clear hb3 ho3 r0 r1 f0 f1 b0 b1 HS HR HF HG HTT hB;have b0:=HS3.o.b0;have b1:=HS3.o.b1;go_wp2_with fail;clear b0 b1;refine(yB M (fZ M n h) a a3 c c3 _ hN HR3.o (HO3.o.rd' (by omega)) HW.o (by omega)).mono ?_;rintro e w4 hp;obtain⟨hb4,⟨h1,_⟩|⟨_,h1,_⟩|⟨_,_,v4,rfl,hn4⟩⟩:=hp
    ·exact absurd HT.o.range (by rw[h1];simp)
    ·exact absurd HT.o.st h1
    obtain⟨a4,c4,rfl,hr4,hfr4⟩:=hn4;have hsz3:w.heap.size+1<w3.heap.size:=by have:=World.block_lt_of_cell? _ _ HS3.o.r0;simpa using this
    have HA4:=hid (hfr4.away HAW.o hsz3);have HF4:=hid (hfr4.mono HS3.o.B.size);have HS:=hid (HS3.o.later hb4);have HO4:=hid (HO3.o.keep hb4);have HR4:=hid hr4;clear hb4 hr4 hfr4 HR3 HS3 HO3 hsz3;have r0:=HS.o.r0;have r1:=HS.o.r1;have f0:=HS.o.f0;have f1:=HS.o.f1;have b0:=HS.o.b0;have b1:=HS.o.b1;go_wp2_with fail;generalize hRR:aV (uX M (fZ M n h) true)=R4 at *;have HRR:=hid hRR;clear hRR
    go_region
    all_goals
     go_wp2_with fail;refine bodyPost_ret (v:= .tuple #[.slice a3 (fZ M n h).length c3,.agg #[.int .i64 M.length,.slice a4 R4.length c4],.int .i64 0]) ?_ rfl ?_
     ·simp[results,Tryz.results42,go_sem,r0,r1,f0,f1]
     ·exact aFk HRR.o HS.o.B HO4.o HR4.o HA4.o HF4.o
  ·have HS:=hid (HS2.o.later hB);have HR:=hid (HR2.o.keep hB);have HTT:=hid (HTP.o hf hg);clear hf hg;have r0:=HS.o.r0;have r1:=HS.o.r1;have f0:=HS.o.f0;have f1:=HS.o.f1;have b0:=HS.o.b0;have b1:=HS.o.b1;go_wp2_with fail;refine(aUr M.length (aV M) n h a c _ HR.o HC.o (by omega) (by omega)).mono ?_;rintro e w3 ⟨v3,rfl,ho3,hb3⟩;rw[aPp,<-HTT.o]at ho3;obtain⟨a3,c3,rfl,_⟩:=ho3.rd (by omega);have HO3:=hid (ho3.mono (B':=w.heap.size+2) (by have:=World.block_lt_of_cell? _ _ r0;simp at this;omega));have HS3:=hid (HS.o.later hb3);have HR3:=hid (HR.o.keep hb3);clear hb3 ho3 r0 r1 f0 f1 b0 b1 HS HR HTT hB;have b0:=HS3.o.b0;have b1:=HS3.o.b1;go_wp2_with fail;clear b0 b1;refine(yB M (fZ M n h) a a3 c c3 _ hN HR3.o (HO3.o.rd' (by omega)) HW.o (by omega)).mono ?_;rintro e w4 hp;obtain⟨hb4,⟨h1,_⟩|⟨_,h1,_⟩|⟨_,_,v4,rfl,hn4⟩⟩:=hp
   ·exact absurd HT.o.range (by rw[h1];simp)
   ·exact absurd HT.o.st h1
   obtain⟨a4,c4,rfl,hr4,hfr4⟩:=hn4;have hsz3:w.heap.size+1<w3.heap.size:=by have:=World.block_lt_of_cell? _ _ HS3.o.r0;simpa using this
   have HA4:=hid (hfr4.away HAW.o hsz3);have HF4:=hid (hfr4.mono HS3.o.B.size);have HS:=hid (HS3.o.later hb4);have HO4:=hid (HO3.o.keep hb4);have HR4:=hid hr4;clear hb4 hr4 hfr4 HR3 HS3 HO3 hsz3;have r0:=HS.o.r0;have r1:=HS.o.r1;have f0:=HS.o.f0;have f1:=HS.o.f1;have b0:=HS.o.b0;have b1:=HS.o.b1;go_wp2_with fail;generalize hRR:aV (uX M (fZ M n h) true)=R4 at *;have HRR:=hid hRR;clear hRR
   go_region
   all_goals
    go_wp2_with fail;refine bodyPost_ret (v:= .tuple #[.slice a3 (fZ M n h).length c3,.agg #[.int .i64 M.length,.slice a4 R4.length c4],.int .i64 0]) ?_ rfl ?_
    ·simp[results,Tryz.results42,go_sem,r0,r1,f0,f1]
    ·exact aFk HRR.o HS.o.B HO4.o HR4.o HA4.o HF4.o
end Go.Proofs.YtaiklhbakldfhaaGreat
