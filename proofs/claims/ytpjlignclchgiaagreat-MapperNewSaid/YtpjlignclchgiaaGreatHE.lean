/-
  package alloc: Largest, Runs, Is; slices.Grow, slices.Concat, slices.BinarySearchFunc.
  package alloc: Give.
  package alloc: behind, anywhere, pieces.
  package alloc: Take.
  Conditions: as each theorem says.
-/
import Derived.Test.YtpjlignclchgiaaGreatHC
import Derived.Test.YtpjlignclchgiaaGreatHF
import Derived.Lib.AppendZerosOnto
import Derived.Test.YtpjlignclchgiaaGreatHD
import Derived.Test.YtpjlignclchgiaaGreatHB
namespace Go.Proofs.YtpjlignclchgiaaGreat
open Go.Lib (hid)
set_option linter.unusedSimpArgs false
set_option linter.unusedVariables false
set_option maxRecDepth 100000
set_option maxHeartbeats 16000000
open Go.RowKit
theorem aruns_any (N:Int) (R:List E) (a:Option Addr) (c:Nat) (w:World) (hr:Rd w a R) (hl:R.length≤1000000000):
  Calls Tryz.prog 112 #[.agg #[.int .i64 N,.slice a R.length c]] w fun e w'=>∃ v,e= .returned v∧OwnE w' w.heap.size v R∧Below w.heap.size w w':=by
 have hk:=(Below.refl w.heap.size w).onAlloc (.cells #[.int .i64 N,.slice a R.length c] 129);have HR:=hid (hr.keep hk);go_enter Tryz.func112,Tryz.ntmps112;go_wp2_with fail;refine(clone_any R a c _ HR.o hl).mono ?_;rintro e w1 ⟨v,rfl,ho,hb1⟩;go_wp2_with fail;go_ret;exact⟨_,rfl,ho.mono hk.size,hk.on hb1⟩
theorem OwnE.zeros (w:World) (cs:Array Value) (cap B:Nat) (hB:B≤w.heap.size) (hc:cap≤maxLen) (hs:cs.size=cap*3):OwnE (w.alloc (.cells cs 105)) B (.slice (some ⟨w.heap.size,0,none⟩) 0 cap) []:=by
 exact⟨rfl,.inr ⟨w.heap.size,cap,cs,rfl,hB,heap_alloc_new w _,Nat.zero_le _,hc,hs,by simp[cellsL]⟩⟩
theorem grow_any (n:Nat) (w:World) (hn:n≤10000000):
  Calls Tryz.prog 204 #[.slice none 0 0,.int .i64 n] w fun e w'=>∃ v,e= .returned v∧OwnE w' w.heap.size v []∧Below w.heap.size w w':=by
 obtain⟨i0,hi,hz0,hz1,hz2⟩:=info_parts infoE;by_cases h0:n=0
 ·subst h0;go_enter Tryz.func204,Tryz.ntmps204;go_wp2_with fail;go_ret;exact⟨_,rfl,OwnE.nil _ _,Below.refl _ _⟩
 ·have hn1:1≤n:=by omega
  have hold:(Builtin.firstCells i0.size 0 (.slice none 0 0)).run Tryz.prog w.drew= .ok (([]:List Value).toArray) w.drew:=run_firstCells_none w.drew i0.size 0 0 0;have hrz:∀ ty,(Builtin.append_ #[40,3] ty #[.slice none 0 0,.int .i64 n]).run Tryz.prog w=_:=fun ty=>
   Lib.run_append_grow_zeros w 40 3 ty 105 i0 (.agg #[.int .i64 0,.int .i64 0,.int .i64 0]) .i64 .i64 Tryz.underlying40 Tryz.underlying3 hi hz0 none 0 0 [] hold n (by omega) (by omega) (by omega) (by omega) (by rw[hz2];omega)
    (by rw[Nat.zero_add];exact growslice_fits (by omega) (by rw[hz2];omega))
  simp only[Nat.zero_add]at hrz;have hGn:n≤grownCap w n 0 105:=grownCap_ge w _ _ _;have hG63:=grownCap_le_maxLen w n 0 105 (by unfold maxLen;omega);have HSZ:Hid ((([]:List Value).toArray++Builtin.zeroCells (Value.agg #[.int .i64 0,.int .i64 0,.int .i64 0]).cells n++Builtin.zeroCells (Value.agg #[.int .i64 0,.int .i64 0,.int .i64 0]).cells (grownCap w n 0 105-n)).size=grownCap w n 0 105*3):=hid (by
   simp[Builtin.zeroCells,Value.cells]
   omega)
  generalize grownCap w n 0 105=G at *;generalize ([]:List Value).toArray++Builtin.zeroCells (Value.agg #[.int .i64 0,.int .i64 0,.int .i64 0]).cells n++Builtin.zeroCells (Value.agg #[.int .i64 0,.int .i64 0,.int .i64 0]).cells (G-n)=cs at *;have HRZ:=hid hrz;have HM:=hid hG63;clear hrz hold hG63 h0;go_enter Tryz.func204,Tryz.ntmps204
  go_wp2_with (at_builtin;refine Lib.wpList_append_run _ rfl _ _ _ _ rfl _ _ rfl rfl _ _ (HRZ.o _) ?_)
  go_ret;exact⟨_,rfl,OwnE.zeros w.drew cs G _ (Nat.le_refl _) HM.o HSZ.o,(Below.refl _ _).drew.onAlloc _⟩
theorem concat_any (A L:List E) (a al:Option Addr) (c cl q:Nat) (w:World) (hc0:w.cell? ⟨q,0,none⟩=some (.slice a A.length c)) (hc1:w.cell? ⟨q,1,none⟩=some (.slice al L.length cl)) (hrA:Rd w a A) (hrL:Rd w al L) (hA:A.length≤1000000) (hL:L.length≤1000000):
  Calls Tryz.prog 161 #[.slice (some ⟨q,0,none⟩) 2 2] w fun e w'=>∃ v,e= .returned v∧OwnE w' w.heap.size v (A++L)∧Below w.heap.size w w':=by
 obtain⟨i0,hi,hz0,hz1,hz2⟩:=info_parts infoE;have HRA:=hid hrA;have HRL:=hid hrL;clear hrA hrL;go_enter Tryz.func161,Tryz.ntmps161;go_wp2_with fail;go_loopw [3,5,11] (fun v _ i wr=>((i= .int .i64 0∧v= .int .i64 0)∨(i= .int .i64 1∧v= .int .i64 A.length)∨(i= .int .i64 2∧v= .int .i64 (A.length+L.length:Nat)))∧w=wr) (fun _ _ i _=>2-(intOf i).toNat)
 case atStart=>exact⟨.inl ⟨rfl,rfl⟩,rfl⟩
 case round=>
  obtain⟨⟨rfl,rfl⟩|⟨rfl,rfl⟩|⟨rfl,rfl⟩,rfl⟩:=hrel
  ·go_wp2_with fail;go_roundw
   case rel=>exact⟨.inr (.inl ⟨by first|rfl|trivial,by go_num⟩),by first|rfl|trivial⟩
   case measure=>simp[intOf]
  ·go_wp2_with fail;go_roundw
   case rel=>exact⟨.inr (.inr ⟨by first|rfl|trivial,by go_num⟩),by first|rfl|trivial⟩
   case measure=>simp[intOf]
  ·go_wp2_with fail;refine(grow_any (A.length+L.length) w (by omega)).mono ?_;rintro e w1 ⟨v1,rfl,ho1,hb1⟩;have HO:=hid ho1;have HB:=hid hb1;clear ho1 hb1;go_wp2_with fail;go_loopw [6,8,27] (fun v _ i wr=>((i= .int .i64 0∧OwnE wr w.heap.size v [])∨(i= .int .i64 1∧OwnE wr w.heap.size v A)∨(i= .int .i64 2∧OwnE wr w.heap.size v (A++L)))∧Below w.heap.size w wr) (fun _ _ i _=>2-(intOf i).toNat)
   case atStart=>exact⟨.inl ⟨rfl,HO.o⟩,HB.o⟩
   case round=>
    obtain⟨⟨rfl,ho⟩|⟨rfl,ho⟩|⟨rfl,ho⟩,hB⟩:=hrel
    ·have hq0:=hB.keep hc0;have HQ:=hid ho;have HS:=hid (HRA.o.keep hB).source;have hsz:=hB.size;have hA0:([]:List E).length+A.length=A.length:=by simp
     clear ho
     go_wp2_with (at_builtin;refine wpList_append_xs _ rfl _ _ 40 rfl w.heap.size 105 i0 (.agg #[.int .i64 0,.int .i64 0,.int .i64 0]) 3 24 Tryz.underlying40 hi hz0 hz1 hz2 rfl (by decide) _ _ _ rfl HQ.o _ _ _ _ rfl HS.o (by first|omega|(simp only[List.length_nil,List.length_append,List.length_cons];omega)) (by first|(simp only[maxLen];omega)|(simp only[maxLen,List.length_nil,List.length_append,List.length_cons];omega)) (by first|omega|(simp only[World.size_alloc];omega)) ?_;intro v1 w1 hown1 hgrow1 hwhere1)
     have HO6:=hid (OwnE.append hown1 rfl);have HB6:=hid (hB.onGrow hgrow1 (fun j hj=>(HQ.o.lt j hj).1));clear hown1 hgrow1 hwhere1 hA0;go_roundw
     case rel=>exact⟨.inr (.inl ⟨rfl,HO6.o⟩),HB6.o⟩
     case measure=>simp[intOf]
    ·have hq1:=hB.keep hc1;have HQ:=hid ho;have HS:=hid (HRL.o.keep hB).source;have hsz:=hB.size;clear ho
     go_wp2_with (at_builtin;refine wpList_append_xs _ rfl _ _ 40 rfl w.heap.size 105 i0 (.agg #[.int .i64 0,.int .i64 0,.int .i64 0]) 3 24 Tryz.underlying40 hi hz0 hz1 hz2 rfl (by decide) _ _ _ rfl HQ.o _ _ _ _ rfl HS.o (by first|omega|(simp only[List.length_nil,List.length_append,List.length_cons];omega)) (by first|(simp only[maxLen];omega)|(simp only[maxLen,List.length_nil,List.length_append,List.length_cons];omega)) (by first|omega|(simp only[World.size_alloc];omega)) ?_;intro v1 w1 hown1 hgrow1 hwhere1)
     have HO6:=hid (OwnE.append hown1 rfl);have HB6:=hid (hB.onGrow hgrow1 (fun j hj=>(HQ.o.lt j hj).1));clear hown1 hgrow1 hwhere1;go_roundw
     case rel=>exact⟨.inr (.inr ⟨rfl,HO6.o⟩),HB6.o⟩
     case measure=>simp[intOf]
    ·have HQ:=hid ho;clear ho;go_wp2_with fail;go_ret;exact⟨_,rfl,HQ.o,hB⟩
open Go.RowKit
theorem give_range (N:Nat) (R l:List E) (a al:Option Addr) (c cl:Nat) (w:World) (hN:N≤65536) (hr:Rd w al l) (hw:wfL l) (hl:l.length≤1000000) (hp:(permB N l&&onceB l)=false):
  Calls Tryz.prog 113 #[.agg #[.int .i64 N,.slice a R.length c],.slice al l.length cl] w fun e w'=>e= .returned (.tuple #[.agg #[.int .i64 0,.slice none 0 0],.int .i64 2])∧Below w.heap.size w w':=by
 have HS0:=hid (MarkS.start w N a R.length c 129);have HR0:=hid (hr.keep (((Below.refl w.heap.size w).onAlloc (.cells #[.int .i64 N,.slice a R.length c] 129)).onAlloc (.cells #[.int .i64 0,.slice none 0 0] 129)));cases h:permB N l
 ·have HP:=hid h;clear hp h hr;go_enter Tryz.func113,Tryz.ntmps113;go_wp2_with fail;refine(aperm_no N l a al _ c cl _ hN HR0.o hw HP.o).mono ?_;rintro e w1 ⟨rfl,hb1⟩;have HS:=hid (HS0.o.later hb1);clear hb1 HS0;have r0:=HS.o.r0;have r1:=HS.o.r1;have f0:=HS.o.f0;have f1:=HS.o.f1;have b0:=HS.o.b0;have b1:=HS.o.b1;go_wp2_with fail;refine bodyPost_ret (v:= .tuple #[.agg #[.int .i64 0,.slice none 0 0],.int .i64 2]) ?_ rfl ⟨rfl,?_⟩
  ·simp[results,Tryz.results113,go_sem,r0,r1,f0,f1]
  ·exact(HS.o.B.setCell (by simp) _).setCell (by simp) _
 ·rw[h]at hp;have HP:=hid h;have HO:Hid (onceB l=false):=hid (by simpa using hp);clear hp h hr;go_enter Tryz.func113,Tryz.ntmps113;go_wp2_with fail;refine(aperm_yes N l a al _ c cl _ hN HR0.o hw HP.o hl).mono ?_;rintro e w1 ⟨v1,rfl,_,hb1⟩;rw[HO.o];have HS:=hid (HS0.o.later hb1);clear hb1 HS0;have r0:=HS.o.r0;have r1:=HS.o.r1;have f0:=HS.o.f0;have f1:=HS.o.f1;have b0:=HS.o.b0;have b1:=HS.o.b1;go_wp2_with fail;refine bodyPost_ret (v:= .tuple #[.agg #[.int .i64 0,.slice none 0 0],.int .i64 2]) ?_ rfl ⟨rfl,?_⟩
  ·simp[results,Tryz.results113,go_sem,r0,r1,f0,f1]
  ·exact(HS.o.B.setCell (by simp) _).setCell (by simp) _
def GivePost (N:Nat) (R L:List E) (w:World) (e:Ending) (w':World):Prop:=
 Below w.heap.size w w'∧((lenL (runsL (R++L))=lenL R+lenL L∧ ∃v,e= .returned (.tuple #[.agg #[.int .i64 N,v],.int .i64 0])∧ ∃a' c',v= .slice a' (runsL (R++L)).length c'∧OwnE w' w.heap.size v (runsL (R++L)))∨
  (lenL (runsL (R++L))≠lenL R+lenL L∧e= .returned (.tuple #[.agg #[.int .i64 0,.slice none 0 0],.int .i64 8])))
theorem give_any (N:Nat) (R l:List E) (a al:Option Addr) (c cl:Nat) (w:World) (hN:N≤65536) (hrR:Rd w a R) (hc:Canon R) (hr:Rd w al l) (hw:wfL l) (hl:l.length≤1000000) (hp:permB N l=true) (ho:onceB l=true):
  Calls Tryz.prog 113 #[.agg #[.int .i64 N,.slice a R.length c],.slice al l.length cl] w (GivePost N R (runsL (flatL l)) w):=by
 have HS0:=hid (MarkS.start w N a R.length c 129);have hk:=((Below.refl w.heap.size w).onAlloc (.cells #[.int .i64 N,.slice a R.length c] 129)).onAlloc (.cells #[.int .i64 0,.slice none 0 0] 129);have HR0:=hid (hr.keep hk);have HRR:=hid (hrR.keep hk);have HP:=hid hp;have HO:=hid ho;have hLc:=(runs_facts (flatL l)).1;have hLs:=canon_short hLc;have hWc:=(runs_facts (R++runsL (flatL l))).1;have hWs:=canon_short hWc;have hRs:=canon_short hc;have HWF:Hid (wfL (R++runsL (flatL l))):=hid (wfL_of_ok fun x hx=>by
  rcases List.mem_append.1 hx with h|h
  ·exact(hc.1 x h).2
  ·exact(hLc.1 x h).2)
 have HM:∀ L:List E,Canon L→ ∀x∈L,0≤x.n∧x.n≤65536:=fun L hL x hx=>by
  have:=(okB_iff x).1 (hL.1 x hx).2;omega
 have HM1:=hid (HM _ hLc);have HM2:=hid (HM _ hWc);have HM3:=hid (HM _ hc);obtain⟨q1,q2⟩:=lenL_bd' _ 65536 HM1.o;obtain⟨q3,q4⟩:=lenL_bd' _ 65536 HM2.o;obtain⟨q5,q6⟩:=lenL_bd' _ 65536 HM3.o;clear hp ho hr hrR hk hLc hWc HM hc;generalize hLL:runsL (flatL l)=L at *;have HLL:=hid hLL;clear hLL;go_enter Tryz.func113,Tryz.ntmps113;go_wp2_with fail;have hcon:=aperm_yes N l a al R.length c cl _ hN HR0.o hw HP.o hl;rw[HO.o,HLL.o]at hcon;refine hcon.mono ?_;rintro e w1 ⟨v1,rfl,ho1,hb1⟩;obtain⟨a1,c1,rfl,hr1⟩:=ho1.rd (by omega);have HS:=hid (HS0.o.later hb1);have HRR1:=hid (HRR.o.keep hb1);have HR1:=hid hr1;have HSZ:=hid hb1.size;clear hb1 HS0 HRR ho1 hr1 hcon HR0;have b1:=HS.o.b1;go_wp2_with fail;refine(concat_any R L a a1 c c1 w1.heap.size _ (by simp) (by simp) (HRR1.o.keep ((Below.refl _ _).onAlloc _)) (HR1.o.keep ((Below.refl _ _).onAlloc _)) (by omega) (by omega)).mono ?_;rintro e w2 ⟨v2,rfl,ho2,hb2⟩;obtain⟨a2,c2,rfl,hr2⟩:=ho2.rd (by simp;omega);have hbb:=((Below.refl w1.heap.size w1).onAlloc (.cells #[.slice a R.length c,.slice a1 L.length c1] 40)).on hb2;have HS:=hid (HS.o.later hbb);have HRR2:=hid (HRR1.o.keep hbb);have HR2:=hid (HR1.o.keep hbb);have HRC:=hid hr2;have HSZ2:=hid (Nat.le_trans HSZ.o hbb.size);clear hb2 hbb ho2 hr2 HRR1 HR1 b1 HSZ;go_wp2_with fail;have hcon:=runs_any (R++L) a2 c2 _ HRC.o HWF.o (by simp;omega);rw[List.length_append]at hcon;refine hcon.mono ?_;clear hcon;rintro e w3 ⟨v3,rfl,ho3,hb3⟩;have HS:=hid (HS.o.later hb3);have HRR2:=hid (HRR2.o.keep hb3);have HR2:=hid (HR2.o.keep hb3);generalize hWW:runsL (R++L)=W at *;have HWW:=hid hWW;obtain⟨a3,c3,rfl,hr3⟩:=ho3.rd (by omega);have HW3:=hid hr3;have HO3:=hid (ho3.mono (B':=w.heap.size+2) (by have:=HSZ2.o;simp at this;omega));clear hb3 ho3 hr3 hWW HRC HSZ2;have b1:=HS.o.b1;have b0:=HS.o.b0;generalize hl1:lenL W=z1 at *;generalize hl2:lenL L=z2 at *;generalize hl3:lenL R=z3 at *;have H1:=hid hl1;have H2:=hid hl2;have H3:=hid hl3;have q7:IntKind.i64.wrap (z3+z2)=z3+z2:=IntWalk.i64_in _ (by omega);clear hl1 hl2 hl3;by_cases hz:z1=z3+z2
 ·have d1:(z1 != z3+z2)=false:=by simp[hz]
  have d2:(z1==z3+z2)=true:=by simp[hz]
  have HZ:=hid hz;clear hz;go_wp2_with fail;refine wp_region_next (by kernel_rfl) (by kernel_rfl) ?_
  repeat(go_big_quiet_step (first|(go_at_call_of 158 (Value.slice a3 W.length c3);exact Calls.next_of (asize_is W z1 a3 c3 _ H1.o (HW3.o.keep (World.below_next _ _)) HM2.o (by omega)))|(go_at_call_of 158 (Value.slice a1 L.length c1);exact Calls.next_of (asize_is L z2 a1 c1 _ H2.o (HR2.o.keep (World.below_next _ _)) HM1.o (by omega)))|(go_at_call_of 158 (Value.slice a R.length c);exact Calls.next_of (asize_is R z3 a c _ H3.o (HRR2.o.keep (World.below_next _ _)) HM3.o (by omega)))))
  refine wpQuiet_nil ?_;intro _ hw';obtain⟨nq,hw''⟩:=hw';subst hw'';have HB:=hid (HS.o.later (World.below_next w3 nq));have HO4:=hid (HO3.o.keep (World.below_next w3 nq));clear HS b0 b1;generalize w3.next nq=w4 at *;have HS:=HB;have r0:=HS.o.r0;have r1:=HS.o.r1;have f0:=HS.o.f0;have f1:=HS.o.f1;have b0:=HS.o.b0;have b1:=HS.o.b1;go_wp2_with fail;refine bodyPost_ret (v:= .tuple #[.agg #[.int .i64 N,.slice a3 W.length c3],.int .i64 0]) ?_ rfl ⟨?_,.inl ⟨by rw[HWW.o,H1.o,H2.o,H3.o];exact HZ.o,_,rfl,a3,c3,by rw[HWW.o],?_⟩⟩
  ·simp[results,Tryz.results113,go_sem,r0,r1,f0,f1]
  ·exact(HS.o.B.setCell (by simp) _).setCell (by simp) _
  ·rw[HWW.o];have hne:(Value.slice a3 W.length c3).ownBlock≠some (w.heap.size+1):=fun e=>by have:=(HO4.o.lt _ e).1;omega
   exact((HO4.o.away ⟨w.heap.size+1,0,none⟩ _ hne).away ⟨w.heap.size+1,1,none⟩ _ hne).mono (by omega)
 ·have d1:(z1 != z3+z2)=true:=by simp[hz]
  have d2:(z1==z3+z2)=false:=by simp[hz]
  have HZ:=hid hz;clear hz;go_wp2_with fail;refine wp_region_next (by kernel_rfl) (by kernel_rfl) ?_
  repeat(go_big_quiet_step (first|(go_at_call_of 158 (Value.slice a3 W.length c3);exact Calls.next_of (asize_is W z1 a3 c3 _ H1.o (HW3.o.keep (World.below_next _ _)) HM2.o (by omega)))|(go_at_call_of 158 (Value.slice a1 L.length c1);exact Calls.next_of (asize_is L z2 a1 c1 _ H2.o (HR2.o.keep (World.below_next _ _)) HM1.o (by omega)))|(go_at_call_of 158 (Value.slice a R.length c);exact Calls.next_of (asize_is R z3 a c _ H3.o (HRR2.o.keep (World.below_next _ _)) HM3.o (by omega)))))
  refine wpQuiet_nil ?_;intro _ hw';obtain⟨nq,hw''⟩:=hw';subst hw'';have HB:=hid (HS.o.later (World.below_next w3 nq));clear HS b0 b1;generalize w3.next nq=w4 at *;have HS:=HB;have r0:=HS.o.r0;have r1:=HS.o.r1;have f0:=HS.o.f0;have f1:=HS.o.f1;have b0:=HS.o.b0;have b1:=HS.o.b1;go_wp2_with fail;refine bodyPost_ret (v:= .tuple #[.agg #[.int .i64 0,.slice none 0 0],.int .i64 8]) ?_ rfl ⟨?_,.inr ⟨by rw[HWW.o,H1.o,H2.o,H3.o];exact HZ.o,rfl⟩⟩
  ·simp[results,Tryz.results113,go_sem,r0,r1,f0,f1]
  ·exact(HS.o.B.setCell (by simp) _).setCell (by simp) _
theorem agive_any (M:List Bool) (l:List E) (a al:Option Addr) (c cl:Nat) (w:World) (hN:M.length≤65536) (hrR:Rd w a (freeR M)) (hr:Rd w al l) (hw:wfL l) (hl:l.length≤1000000):
  Calls Tryz.prog 113 #[.agg #[.int .i64 M.length,.slice a (freeR M).length c],.slice al l.length cl] w (AChg M l false a w):=by
 cases hb:rangeB M.length l
 ·exact(give_range M.length (freeR M) l a al c cl w hN hr hw hl hb).mono fun e w' h=>⟨h.2,.inl ⟨hb,h.1⟩⟩
 ·obtain⟨hp,ho,_⟩:=range_parts hN hb;refine(give_any M.length (freeR M) l a al c cl w hN hrR (freeR_canon M) hr hw hl hp ho).mono fun e w' h=> ?_;obtain⟨h1,⟨h2,v,h3,a',c',rfl,h4⟩|⟨h2,h3⟩⟩:=h
  ·rw[give_is hN hp]at h4 h3;have hs:=canon_short (freeR_canon (chgM M l false));exact⟨h1,.inr (.inr ⟨hb,(give_size hN hp).1 h2,_,h3,a',c',rfl,h4.rd' (by omega),.inr (.inr fun b o e=>(h4.lt b (by rw[e];rfl)).1)⟩)⟩
  ·exact⟨h1,.inr (.inl ⟨hb,fun hc=>h2 ((give_size hN hp).2 hc),h3⟩)⟩
open Go.RowKit
theorem canon_ok {R:List E} (h:Canon R):∀ x∈R,okB x=true:=fun x hx=>(h.1 x hx).2
theorem canon_bd {R:List E} (h:Canon R):∀ x∈R,0≤x.n∧x.n≤65536:=fun x hx=>by
 have:=(okB_iff x).1 (h.1 x hx).2;omega
theorem behind_no (N:Int) (R:List E) (n h:Int) (a:Option Addr) (c:Nat) (w:World) (hr:Rd w a R) (hC:Canon R) (hh:0≤h∧h≤65536) (hf:fitS (fromL R h) n=none):
  Calls Tryz.prog 115 #[.agg #[.int .i64 N,.slice a R.length c],.int .i64 n,.int .i64 h] w fun e w'=>e= .returned (.tuple #[.slice none 0 0,.bool false])∧Below w.heap.size w w':=by
 have HCF:=hid (fromL_canon R h hC);have HCB:=hid (beforeL_canon R h hC);have hs:=canon_short hC;have hsF:=canon_short HCF.o;have hsB:=canon_short HCB.o;have hk:=(Below.refl w.heap.size w).onAlloc (.cells #[.int .i64 N,.slice a R.length c] 129);have HR:=hid (hr.keep hk);have HO:=hid (canon_ok hC);clear hr hC;have HF:=hid hf;clear hf;go_enter Tryz.func115,Tryz.ntmps115;go_wp2_with fail;refine(clip_any R h a c _ HR.o HO.o (by omega) hh).mono ?_;rintro e w1 ⟨v,m,rfl,ho,_,_,hb1⟩;obtain⟨a1,c1,rfl,hr1⟩:=ho.rd (by omega);have hB1:=hk.on hb1;clear ho hb1;go_wp2_with fail;refine(fit_no _ n a1 c1 _ hr1 HF.o).mono ?_;rintro e w2 ⟨rfl,hb2⟩;have hB2:=hB1.on hb2;clear hb2 hr1;go_wp2_with fail;go_ret2;exact⟨rfl,hB2⟩
theorem behind_yes (N:Int) (R:List E) (n h s:Int) (a:Option Addr) (c:Nat) (w:World) (hr:Rd w a R) (hC:Canon R) (hn:1≤n∧n≤65536) (hh:0≤h∧h≤65536) (hf:fitS (fromL R h) n=some s):
  Calls Tryz.prog 115 #[.agg #[.int .i64 N,.slice a R.length c],.int .i64 n,.int .i64 h] w fun e w'=>∃ v,e= .returned (.tuple #[v,.bool true])∧OwnE w' w.heap.size v [⟨0,n,s⟩]∧Below w.heap.size w w':=by
 have HCF:=hid (fromL_canon R h hC);have HCB:=hid (beforeL_canon R h hC);have hs:=canon_short hC;have hsF:=canon_short HCF.o;have hsB:=canon_short HCB.o;have hk:=(Below.refl w.heap.size w).onAlloc (.cells #[.int .i64 N,.slice a R.length c] 129);have HR:=hid (hr.keep hk);have HO:=hid (canon_ok hC);clear hr hC;have HF:=hid hf;clear hf;go_enter Tryz.func115,Tryz.ntmps115;go_wp2_with fail;refine(clip_any R h a c _ HR.o HO.o (by omega) hh).mono ?_;rintro e w1 ⟨v,m,rfl,ho,_,_,hb1⟩;obtain⟨a1,c1,rfl,hr1⟩:=ho.rd (by omega);have hB1:=hk.on hb1;clear ho hb1;go_wp2_with fail;refine(fit_yes _ n s a1 c1 _ hr1 (canon_ok HCF.o) hn HF.o).mono ?_;rintro e w2 ⟨v2,rfl,ho2,hb2⟩;have HO2:=hid (ho2.mono hB1.size);have hB2:=hB1.on hb2;clear hb2 hr1 ho2;go_wp2_with fail;go_ret2;exact⟨_,rfl,HO2.o,hB2⟩
theorem anywhere_no (N:Int) (R:List E) (n h:Int) (a:Option Addr) (c:Nat) (w:World) (hr:Rd w a R) (hf:fitS R n=none):
  Calls Tryz.prog 116 #[.agg #[.int .i64 N,.slice a R.length c],.int .i64 n,.int .i64 h] w fun e w'=>e= .returned (.tuple #[.slice none 0 0,.bool false])∧Below w.heap.size w w':=by
 have hk:=(Below.refl w.heap.size w).onAlloc (.cells #[.int .i64 N,.slice a R.length c] 129);have HR:=hid (hr.keep hk);have HF:=hid hf;clear hf hr;go_enter Tryz.func116,Tryz.ntmps116;go_wp2_with fail;refine(fit_no _ n a c _ HR.o HF.o).mono ?_;rintro e w2 ⟨rfl,hb2⟩;have hB2:=hk.on hb2;clear hb2;go_wp2_with fail;go_ret2;exact⟨rfl,hB2⟩
theorem anywhere_yes (N:Int) (R:List E) (n h s:Int) (a:Option Addr) (c:Nat) (w:World) (hr:Rd w a R) (hC:Canon R) (hn:1≤n∧n≤65536) (hf:fitS R n=some s):
  Calls Tryz.prog 116 #[.agg #[.int .i64 N,.slice a R.length c],.int .i64 n,.int .i64 h] w fun e w'=>∃ v,e= .returned (.tuple #[v,.bool true])∧OwnE w' w.heap.size v [⟨0,n,s⟩]∧Below w.heap.size w w':=by
 have hk:=(Below.refl w.heap.size w).onAlloc (.cells #[.int .i64 N,.slice a R.length c] 129);have HR:=hid (hr.keep hk);have HF:=hid hf;have HO:=hid (canon_ok hC);clear hf hr hC;go_enter Tryz.func116,Tryz.ntmps116;go_wp2_with fail;refine(fit_yes _ n s a c _ HR.o HO.o hn HF.o).mono ?_;rintro e w2 ⟨v2,rfl,ho2,hb2⟩;have HO2:=hid (ho2.mono hk.size);have hB2:=hk.on hb2;clear hb2 ho2;go_wp2_with fail;go_ret2;exact⟨_,rfl,HO2.o,hB2⟩
def piecesR (R:List E) (n h:Int):List E:=(lowAll (fromL R h) n).1++(lowAll (beforeL R h) (n-min n (lenL (fromL R h)))).1
theorem low_len (l:List E) (n:Int) (hn:0≤n) (h:Canon l):(lowAll l n).1.length≤65536:=by
 have h1:=(low_facts l n hn (fun x hx=>((okB_iff x).1 (h.1 x hx).2).1) l.length (Nat.le_refl _)).2;rw[List.take_length]at h1;have:=canon_short h;omega
theorem pieces_any (N:Int) (R:List E) (n h:Int) (a:Option Addr) (c:Nat) (w:World) (hr:Rd w a R) (hC:Canon R) (hn:0≤n∧n≤65536) (hh:0≤h∧h≤65536):
  Calls Tryz.prog 117 #[.agg #[.int .i64 N,.slice a R.length c],.int .i64 n,.int .i64 h] w fun e w'=>∃ v,e= .returned (.tuple #[v,.bool true])∧OwnE w' w.heap.size v (piecesR R n h)∧Below w.heap.size w w':=by
 obtain ⟨i0,hi,hz0,hz1,hz2⟩:=info_parts infoE;have HCF:=hid (fromL_canon R h hC);have HCB:=hid (beforeL_canon R h hC);have hs:=canon_short hC;have hsF:=canon_short HCF.o;have hsB:=canon_short HCB.o;have hk:=(Below.refl w.heap.size w).onAlloc (.cells #[.int .i64 N,.slice a R.length c] 129);have HR:=hid (hr.keep hk);have HO:=hid (canon_ok hC);clear hr hC;obtain⟨n0,n1⟩:=hn;obtain⟨z0,_⟩:=lenL_bound _ (canon_ok HCF.o);have HZ0:Hid (0≤n-min n (lenL (fromL R h))∧n-min n (lenL (fromL R h))≤65536):=hid (by omega);have hl1:=low_len _ n n0 HCF.o;have hl2:=low_len _ (n-min n (lenL (fromL R h))) (by omega) HCB.o;have HP:Hid (piecesR R n h=(lowAll (fromL R h) n).1++(lowAll (beforeL R h) (n-min n (lenL (fromL R h)))).1):=hid rfl;have hzb:=lenL_nonneg HCF.o;have hzm:lenL (fromL R h)≤65536:=by
  rw[lenL_canon _ HCF.o];have:=area_le (hasB (fromL R h)) 65536;omega
 generalize hF:fromL R h=F at *;generalize hB:beforeL R h=B at *;have HF:=hid hF;have HB:=hid hB;clear hF hB;go_enter Tryz.func117,Tryz.ntmps117;go_wp2_with fail;have hcon:=clip_any R h a c _ HR.o HO.o (by omega) hh;rw[HF.o,HB.o]at hcon;refine hcon.mono ?_;rintro e w1 ⟨v,m,rfl,ho,hm,_,hb1⟩;obtain⟨a1,c1,rfl,hr1⟩:=ho.rd (by omega);obtain⟨a2,c2,rfl,hr2⟩:=hm.rd (by omega);have hB1:=hk.on hb1;have HR1:=hid hr1;have HR2:=hid hr2;clear ho hb1 hm hcon hr1 hr2;go_wp2_with fail;refine(lowest_any F n a1 c1 _ HR1.o (canon_ok HCF.o) (by omega) ⟨n0,n1⟩).mono ?_;rintro e w2 ⟨v2,rfl,ho2,hb2⟩;have HR1:=hid (HR1.o.keep hb2);have HR2:=hid (HR2.o.keep hb2);have HO2:=hid (ho2.mono hB1.size);have hB2:=hB1.on hb2;clear ho2 hb2;go_wp2_with fail;refine(asize_any F a1 c1 _ HR1.o (canon_bd HCF.o) (by omega)).mono ?_;rintro e w3 ⟨rfl,hb3⟩;have HR2:=hid (HR2.o.keep hb3);have HO3:=hid (HO2.o.keep hb3);have hB3:=hB2.on hb3;clear hb3;generalize hz:lenL F=z at *;have HZ:=hid hz;clear hz;have q1:IntKind.i64.wrap (n-min n z)=n-min n z:=IntWalk.i64_in _ (by omega);go_wp2_with fail;refine(lowest_any B (n-min n z) a2 c2 _ HR2.o (canon_ok HCB.o) (by omega) HZ0.o).mono ?_;rintro e w4 ⟨v4,rfl,ho4,hb4⟩;have hlb:=hl2;generalize hL2:(lowAll B (n-min n z)).1=L2 at *;have HL2:=hid hL2;obtain⟨a4,c4,rfl,hr4⟩:=ho4.rd (by omega);have HS:=hid hr4.source;have HO4:=hid (HO3.o.keep hb4);have hB4:=hB3.on hb4;have hsz4:=hB4.size;generalize hL1:(lowAll F n).1=L1 at *;have HL1:=hid hL1;clear hb4 ho4 hr4 hL2 hL1 q1
 go_wp2_with (at_builtin;refine wpList_append_xs _ rfl _ _ 40 rfl w.heap.size 105 i0 (.agg #[.int .i64 0,.int .i64 0,.int .i64 0]) 3 24 Tryz.underlying40 hi hz0 hz1 hz2 rfl (by decide) _ _ _ rfl HO4.o _ _ _ _ rfl HS.o (by first|omega|(simp only[List.length_nil,List.length_append,List.length_cons];omega)) (by first|(simp only[maxLen];omega)|(simp only[maxLen,List.length_nil,List.length_append,List.length_cons];omega)) (by first|omega|(simp only[World.size_alloc];omega)) ?_;intro v1 w1 hown1 hgrow1 hwhere1)
 have HB6:=hid (hB4.onGrow hgrow1 (fun j hj=>(HO4.o.lt j hj).1));have HO6:=hid (OwnE.append hown1 rfl);clear hown1 hgrow1 hwhere1;go_wp2_with fail;go_ret2;exact⟨_,rfl,by rw[HP.o];exact HO6.o,HB6.o⟩
open Go.RowKit
theorem afree_is (N:Int) (R:List E) (z:Int) (a:Option Addr) (c:Nat) (w:World) (hz:lenL R=z) (hr:Rd w a R) (hc:Canon R):
  Calls Tryz.prog 114 #[.agg #[.int .i64 N,.slice a R.length c]] w fun e w'=>e= .returned (.int .i64 z)∧Below w.heap.size w w':=by
 subst hz;exact afree_any N R a c w hr hc
theorem atake_space (N:Nat) (R:List E) (n h:Int) (a:Option Addr) (c:Nat) (w:World) (hN:N≤65536) (hr:Rd w a R) (hC:Canon R) (hok:askB N n h=true) (hf:lenL R<n):
  Calls Tryz.prog 59 #[.agg #[.int .i64 N,.slice a R.length c],.int .i64 n,.int .i64 h] w fun e w'=>e= .returned (.tuple #[.slice none 0 0,.agg #[.int .i64 0,.slice none 0 0],.int .i64 11])∧Below w.heap.size w w':=by
 obtain⟨h1,h2,h3⟩:=(askB_iff _ _ _).1 hok;have HS:=hid (MarkS.start w N a R.length c 129);have hk:=((Below.refl w.heap.size w).onAlloc (.cells #[.int .i64 N,.slice a R.length c] 129)).onAlloc (.cells #[.int .i64 0,.slice none 0 0] 129);have HR:=hid (hr.keep hk);have HC:=hid hC;clear hok hr hC hk;generalize hz:lenL R=z at *;have HZ:=hid hz;clear hz;have b0:=HS.o.b0;have b1:=HS.o.b1;go_enter Tryz.func59,Tryz.ntmps59;go_wp2_with fail;refine(afree_is N R z a c _ HZ.o HR.o HC.o).mono ?_;rintro e w2 ⟨rfl,hb2⟩;have HS:=hid (HS.o.later hb2);clear hb2 b0 b1;have r0:=HS.o.r0;have r1:=HS.o.r1;have f0:=HS.o.f0;have f1:=HS.o.f1;have b0:=HS.o.b0;have b1:=HS.o.b1;go_wp2_with fail;refine bodyPost_ret (v:= .tuple #[.slice none 0 0,.agg #[.int .i64 0,.slice none 0 0],.int .i64 11]) ?_ rfl ⟨rfl,?_⟩
 ·simp[results,Tryz.results59,go_sem,r0,r1,f0,f1]
 ·exact(HS.o.B.setCell (by simp) _).setCell (by simp) _
theorem atake_zero (N:Nat) (R:List E) (h:Int) (a:Option Addr) (c:Nat) (w:World) (hN:N≤65536) (hr:Rd w a R) (hC:Canon R) (hok:askB N 0 h=true):
  Calls Tryz.prog 59 #[.agg #[.int .i64 N,.slice a R.length c],.int .i64 0,.int .i64 h] w fun e w'=>e= .returned (.tuple #[.slice none 0 0,.agg #[.int .i64 N,.slice a R.length c],.int .i64 0])∧Below w.heap.size w w':=by
 obtain⟨h1,h2,h3⟩:=(askB_iff _ _ _).1 hok;have HS:=hid (MarkS.start w N a R.length c 129);have hk:=((Below.refl w.heap.size w).onAlloc (.cells #[.int .i64 N,.slice a R.length c] 129)).onAlloc (.cells #[.int .i64 0,.slice none 0 0] 129);have HR:=hid (hr.keep hk);have HC:=hid hC;have hz0:=lenL_nonneg hC;clear hok hr hC hk;generalize hz:lenL R=z at *;have HZ:=hid hz;clear hz;have b0:=HS.o.b0;have b1:=HS.o.b1;go_enter Tryz.func59,Tryz.ntmps59;go_wp2_with fail;refine(afree_is N R z a c _ HZ.o HR.o HC.o).mono ?_;rintro e w2 ⟨rfl,hb2⟩;have HS:=hid (HS.o.later hb2);clear hb2 b0 b1;have r0:=HS.o.r0;have r1:=HS.o.r1;have f0:=HS.o.f0;have f1:=HS.o.f1;have b0:=HS.o.b0;have b1:=HS.o.b1;go_wp2_with fail
 go_region
 all_goals
  go_wp2_with fail;refine bodyPost_ret (v:= .tuple #[.slice none 0 0,.agg #[.int .i64 N,.slice a R.length c],.int .i64 0]) ?_ rfl ⟨rfl,?_⟩
  ·simp[results,Tryz.results59,go_sem,r0,r1,f0,f1]
  ·exact(HS.o.B.drew.setCell (by simp) _).setCell (by simp) _
theorem pieces_same (M:List Bool) (n h:Nat):piecesR (freeR M) n h=piecesL M n h:=rfl
def ATook (M:List Bool) (n h:Nat) (a:Option Addr) (w:World) (e:Ending) (w':World):Prop:=
 ∃v1 v2,e= .returned (.tuple #[v1,.agg #[.int .i64 M.length,v2],.int .i64 0])∧OwnE w' w.heap.size v1 (takeL M n h)∧NewRuns w w' a (freeR M) (freeR (chgM M (takeL M n h) true)) v2∧Below w.heap.size w w'
def TakeI (M:List Bool) (n h:Nat) (w2:World) (v:Value) (wr:World):Prop:=
 (v= .int .i64 0∨(v= .int .i64 1∧fitS (fromL (freeR M) h) n=none)∨(v= .int .i64 2∧fitS (fromL (freeR M) h) n=none∧fitS (freeR M) n=none))∧Below w2.heap.size w2 wr
theorem took_end {M:List Bool} {n h:Nat} {a a3 a4:Option Addr} {c3 c4:Nat} {w w4:World} {R4:List E} {t:TypeId} (hR:freeR (chgM M (takeL M n h) true)=R4) (hB:Below w.heap.size w w4) (ho:OwnE w4 (w.heap.size+2) (.slice a3 (takeL M n h).length c3) (takeL M n h))
  (hr:Rd w4 a4 R4) (hA:Away (R4=[]) a4 (w.heap.size+1)) (hF:Fresh (freeR M=[]) (R4=[]) w.heap.size a a4):
  ATook M n h a w (Ending.returned (Value.tuple #[.slice a3 (takeL M n h).length c3,.agg #[.int .i64 M.length,.slice a4 R4.length c4],.int .i64 0]))
   (((w4.alloc (.cells #[.int .i64 M.length,.slice a4 R4.length c4] t)).setCell ⟨w.heap.size+1,0,none⟩ (.int .i64 M.length)).setCell ⟨w.heap.size+1,1,none⟩ (.slice a4 R4.length c4)).drew:=by
 subst hR;have hk:=(Below.refl w4.heap.size w4).onAlloc (.cells #[.int .i64 M.length,.slice a4 (freeR (chgM M (takeL M n h) true)).length c4] t);have hne:(Value.slice a3 (takeL M n h).length c3).ownBlock≠some (w.heap.size+1):=fun e=>by have:=(ho.lt _ e).1;omega
 refine⟨_,_,rfl,?_,⟨a4,c4,rfl,?_,hF⟩,?_⟩
 ·exact((((ho.keep hk).away ⟨w.heap.size+1,0,none⟩ _ hne).away ⟨w.heap.size+1,1,none⟩ _ hne).keep (Below.refl _ _).drew).mono (by omega)
 ·exact(((hr.keep hk).cell_ne (w.heap.size+1) 0 _ hA).cell_ne (w.heap.size+1) 1 _ hA).keep (Below.refl _ _).drew
 ·exact(((hB.onAlloc _).setCell (by simp) _).setCell (by simp) _).drew
theorem atake_yes (M:List Bool) (n h:Nat) (a:Option Addr) (c:Nat) (w:World) (hr:Rd w a (freeR M)) (hN:M.length≤65536) (hh:h≤M.length) (hn:1≤n) (hf:n≤area (freeF M) M.length):
  Calls Tryz.prog 59 #[.agg #[.int .i64 M.length,.slice a (freeR M).length c],.int .i64 n,.int .i64 h] w (ATook M n h a w):=by
 have hn':n≤65536:=by have:=area_le (freeF M) M.length;omega
 have HS:=hid (MarkS.start w M.length a (freeR M).length c 129);have hk:=((Below.refl w.heap.size w).onAlloc (.cells #[.int .i64 M.length,.slice a (freeR M).length c] 129)).onAlloc (.cells #[.int .i64 0,.slice none 0 0] 129);have HR:=hid (hr.keep hk);have HC:=hid (freeR_canon M);have HNA:=hid hr.lt;have HT:=hid (taken_is hN (n:=n) (h:=h) hf);have HTB:=hid (fun s=>takeL_behind M n h s hn);have HTA:=hid (fun s=>takeL_any M n h s hn);have HTP:=hid (takeL_pieces M n h hn);have HZ:=hid (lenL_free M hN);obtain⟨hw,hlen⟩:=takeL_wf hN (n:=n) (h:=h) hf;have HW:=hid hw;have d0:((n:Int)==0)=false:=by simp;omega
 have i0:∀ w,(Instr.index 192 (.agg #[.func (.func 115) #[] #[],.func (.func 116) #[] #[],.func (.func 117) #[] #[]]) (.int .i64 0)).run Tryz.prog w= .ok (.func (.func 115) #[] #[]) w:=fun _=>by kernel_rfl
 have i1:∀ w,(Instr.index 192 (.agg #[.func (.func 115) #[] #[],.func (.func 116) #[] #[],.func (.func 117) #[] #[]]) (.int .i64 1)).run Tryz.prog w= .ok (.func (.func 116) #[] #[]) w:=fun _=>by kernel_rfl
 have i2:∀ w,(Instr.index 192 (.agg #[.func (.func 115) #[] #[],.func (.func 116) #[] #[],.func (.func 117) #[] #[]]) (.int .i64 2)).run Tryz.prog w= .ok (.func (.func 117) #[] #[]) w:=fun _=>by kernel_rfl
 clear hr hk hw;generalize hz:area (freeF M) M.length=z at *;have HZZ:=hid hz;clear hz;have b0:=HS.o.b0;have b1:=HS.o.b1;have e1:decide (z<n)=false:=decide_eq_false (by omega);have e2:decide ((n:Int)<0)=false:=decide_eq_false (by omega);have e3:decide ((h:Int)<0)=false:=decide_eq_false (by omega);go_enter Tryz.func59,Tryz.ntmps59;go_wp2_with fail;refine(afree_is M.length (freeR M) z a c _ HZ.o HR.o HC.o).mono ?_;rintro e w2 ⟨rfl,hb2⟩;have HS:=hid (HS.o.later hb2);have HR:=hid (HR.o.keep hb2);clear hb2 b0 b1;have r0:=HS.o.r0;have r1:=HS.o.r1;have f0:=HS.o.f0;have f1:=HS.o.f1;have b0:=HS.o.b0;have b1:=HS.o.b1;go_wp2_with fail;have HAW:Hid (Away (freeR M=[]) a (w.heap.size+1)):=hid (by
  rcases HNA.o with h1|h1
  ·exact .inl h1
  ·exact .inr fun b o e=>by have:=h1 b o e;omega)
 have HR2:=HR;have HS2:=HS;clear HR HS r0 r1 f0 f1 b0 b1;go_loopw [40] (fun i wr=>TakeI M n h w2 i wr) (fun i _=>2-(intOf i).toNat)
 case atStart=>exact⟨.inl rfl,Below.refl _ _⟩
 case round=>
  obtain⟨rfl|⟨rfl,hf⟩|⟨rfl,hf,hg⟩,hB⟩:=hrel
  ·have HS:=hid (HS2.o.later hB);have HR:=hid (HR2.o.keep hB);have r0:=HS.o.r0;have r1:=HS.o.r1;have f0:=HS.o.f0;have f1:=HS.o.f1;have b0:=HS.o.b0;have b1:=HS.o.b1
   cases hf:fitS (fromL (freeR M) h) n with
   | none=>
    have HF:=hid hf;clear hf;go_wp2_with fail;refine(behind_no M.length (freeR M) n h a c _ HR.o HC.o (by omega) HF.o).mono ?_;rintro e w3 ⟨rfl,hb3⟩;have hB3:=hB.on hb3;clear hb3;go_wp2_with fail;go_roundw
    case rel=>exact⟨.inr (.inl ⟨rfl,HF.o⟩),hB3⟩
    case measure=>simp[intOf]
   | some s=>
    have HF:=hid hf;have HTT:=hid (HTB.o s hf);clear hf;go_wp2_with fail;refine(behind_yes M.length (freeR M) n h s a c _ HR.o HC.o (by omega) (by omega) HF.o).mono ?_;rintro e w3 ⟨v3,rfl,ho3,hb3⟩;rw[←HTT.o]at ho3;obtain⟨a3,c3,rfl,_⟩:=ho3.rd (by omega);have HO3:=hid (ho3.mono (B':=w.heap.size+2) (by have:=World.block_lt_of_cell? _ _ r0;simp at this;omega));have HS3:=hid (HS.o.later hb3);have HR3:=hid (HR.o.keep hb3);clear hb3 ho3 r0 r1 f0 f1 b0 b1 HS HR HF HTT hB;have b0:=HS3.o.b0;have b1:=HS3.o.b1;go_wp2_with fail;clear b0 b1;refine(amark_any M (takeL M n h) a a3 c c3 _ hN HR3.o (HO3.o.rd' (by omega)) HW.o (by omega)).mono ?_;rintro e w4 hp;obtain⟨hb4,⟨h1,_⟩|⟨_,h1,_⟩|⟨_,_,v4,rfl,hn4⟩⟩:=hp
    ·exact absurd HT.o.range (by rw[h1];simp)
    ·exact absurd HT.o.st h1
    obtain⟨a4,c4,rfl,hr4,hfr4⟩:=hn4;have hsz3:w.heap.size+1<w3.heap.size:=by have:=World.block_lt_of_cell? _ _ HS3.o.r0;simpa using this
    have HA4:=hid (hfr4.away HAW.o hsz3);have HF4:=hid (hfr4.mono HS3.o.B.size);have HS:=hid (HS3.o.later hb4);have HO4:=hid (HO3.o.keep hb4);have HR4:=hid hr4;clear hb4 hr4 hfr4 HR3 HS3 HO3 hsz3;have r0:=HS.o.r0;have r1:=HS.o.r1;have f0:=HS.o.f0;have f1:=HS.o.f1;have b0:=HS.o.b0;have b1:=HS.o.b1;go_wp2_with fail;generalize hRR:freeR (chgM M (takeL M n h) true)=R4 at *;have HRR:=hid hRR;clear hRR
    go_region
    all_goals
     go_wp2_with fail;refine bodyPost_ret (v:= .tuple #[.slice a3 (takeL M n h).length c3,.agg #[.int .i64 M.length,.slice a4 R4.length c4],.int .i64 0]) ?_ rfl ?_
     ·simp[results,Tryz.results59,go_sem,r0,r1,f0,f1]
     ·exact took_end HRR.o HS.o.B HO4.o HR4.o HA4.o HF4.o
  ·have HS:=hid (HS2.o.later hB);have HR:=hid (HR2.o.keep hB);have HF:=hid hf;clear hf;have r0:=HS.o.r0;have r1:=HS.o.r1;have f0:=HS.o.f0;have f1:=HS.o.f1;have b0:=HS.o.b0;have b1:=HS.o.b1
   cases hg:fitS (freeR M) n with
   | none=>
    have HG:=hid hg;clear hg;go_wp2_with fail;refine(anywhere_no M.length (freeR M) n h a c _ HR.o HG.o).mono ?_;rintro e w3 ⟨rfl,hb3⟩;have hB3:=hB.on hb3;clear hb3;go_wp2_with fail;go_roundw
    case rel=>exact⟨.inr (.inr ⟨rfl,HF.o,HG.o⟩),hB3⟩
    case measure=>simp[intOf]
   | some s=>
    have HG:=hid hg;have HTT:=hid (HTA.o s HF.o hg);clear hg;go_wp2_with fail;refine(anywhere_yes M.length (freeR M) n h s a c _ HR.o HC.o (by omega) HG.o).mono ?_;rintro e w3 ⟨v3,rfl,ho3,hb3⟩;rw[←HTT.o]at ho3;obtain⟨a3,c3,rfl,_⟩:=ho3.rd (by omega);have HO3:=hid (ho3.mono (B':=w.heap.size+2) (by have:=World.block_lt_of_cell? _ _ r0;simp at this;omega));have HS3:=hid (HS.o.later hb3);have HR3:=hid (HR.o.keep hb3);clear hb3 ho3 r0 r1 f0 f1 b0 b1 HS HR HF HG HTT hB;have b0:=HS3.o.b0;have b1:=HS3.o.b1;go_wp2_with fail;clear b0 b1;refine(amark_any M (takeL M n h) a a3 c c3 _ hN HR3.o (HO3.o.rd' (by omega)) HW.o (by omega)).mono ?_;rintro e w4 hp;obtain⟨hb4,⟨h1,_⟩|⟨_,h1,_⟩|⟨_,_,v4,rfl,hn4⟩⟩:=hp
    ·exact absurd HT.o.range (by rw[h1];simp)
    ·exact absurd HT.o.st h1
    obtain⟨a4,c4,rfl,hr4,hfr4⟩:=hn4;have hsz3:w.heap.size+1<w3.heap.size:=by have:=World.block_lt_of_cell? _ _ HS3.o.r0;simpa using this
    have HA4:=hid (hfr4.away HAW.o hsz3);have HF4:=hid (hfr4.mono HS3.o.B.size);have HS:=hid (HS3.o.later hb4);have HO4:=hid (HO3.o.keep hb4);have HR4:=hid hr4;clear hb4 hr4 hfr4 HR3 HS3 HO3 hsz3;have r0:=HS.o.r0;have r1:=HS.o.r1;have f0:=HS.o.f0;have f1:=HS.o.f1;have b0:=HS.o.b0;have b1:=HS.o.b1;go_wp2_with fail;generalize hRR:freeR (chgM M (takeL M n h) true)=R4 at *;have HRR:=hid hRR;clear hRR
    go_region
    all_goals
     go_wp2_with fail;refine bodyPost_ret (v:= .tuple #[.slice a3 (takeL M n h).length c3,.agg #[.int .i64 M.length,.slice a4 R4.length c4],.int .i64 0]) ?_ rfl ?_
     ·simp[results,Tryz.results59,go_sem,r0,r1,f0,f1]
     ·exact took_end HRR.o HS.o.B HO4.o HR4.o HA4.o HF4.o
  ·have HS:=hid (HS2.o.later hB);have HR:=hid (HR2.o.keep hB);have HTT:=hid (HTP.o hf hg);clear hf hg;have r0:=HS.o.r0;have r1:=HS.o.r1;have f0:=HS.o.f0;have f1:=HS.o.f1;have b0:=HS.o.b0;have b1:=HS.o.b1;go_wp2_with fail;refine(pieces_any M.length (freeR M) n h a c _ HR.o HC.o (by omega) (by omega)).mono ?_;rintro e w3 ⟨v3,rfl,ho3,hb3⟩;rw[pieces_same,←HTT.o]at ho3;obtain⟨a3,c3,rfl,_⟩:=ho3.rd (by omega);have HO3:=hid (ho3.mono (B':=w.heap.size+2) (by have:=World.block_lt_of_cell? _ _ r0;simp at this;omega));have HS3:=hid (HS.o.later hb3);have HR3:=hid (HR.o.keep hb3);clear hb3 ho3 r0 r1 f0 f1 b0 b1 HS HR HTT hB;have b0:=HS3.o.b0;have b1:=HS3.o.b1;go_wp2_with fail;clear b0 b1;refine(amark_any M (takeL M n h) a a3 c c3 _ hN HR3.o (HO3.o.rd' (by omega)) HW.o (by omega)).mono ?_;rintro e w4 hp;obtain⟨hb4,⟨h1,_⟩|⟨_,h1,_⟩|⟨_,_,v4,rfl,hn4⟩⟩:=hp
   ·exact absurd HT.o.range (by rw[h1];simp)
   ·exact absurd HT.o.st h1
   obtain⟨a4,c4,rfl,hr4,hfr4⟩:=hn4;have hsz3:w.heap.size+1<w3.heap.size:=by have:=World.block_lt_of_cell? _ _ HS3.o.r0;simpa using this
   have HA4:=hid (hfr4.away HAW.o hsz3);have HF4:=hid (hfr4.mono HS3.o.B.size);have HS:=hid (HS3.o.later hb4);have HO4:=hid (HO3.o.keep hb4);have HR4:=hid hr4;clear hb4 hr4 hfr4 HR3 HS3 HO3 hsz3;have r0:=HS.o.r0;have r1:=HS.o.r1;have f0:=HS.o.f0;have f1:=HS.o.f1;have b0:=HS.o.b0;have b1:=HS.o.b1;go_wp2_with fail;generalize hRR:freeR (chgM M (takeL M n h) true)=R4 at *;have HRR:=hid hRR;clear hRR
   go_region
   all_goals
    go_wp2_with fail;refine bodyPost_ret (v:= .tuple #[.slice a3 (takeL M n h).length c3,.agg #[.int .i64 M.length,.slice a4 R4.length c4],.int .i64 0]) ?_ rfl ?_
    ·simp[results,Tryz.results59,go_sem,r0,r1,f0,f1]
    ·exact took_end HRR.o HS.o.B HO4.o HR4.o HA4.o HF4.o
end Go.Proofs.YtpjlignclchgiaaGreat
