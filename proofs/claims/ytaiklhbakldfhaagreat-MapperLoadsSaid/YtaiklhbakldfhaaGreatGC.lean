/-
  extent.Cut.
  The specification's Join, Cut, Same, Blocks, Find.
  The specification's Cut, Same, Blocks, Find.
  The law's own functions: copied, awake.
  Conditions: as each theorem says.
-/
import Derived.Test.YtaiklhbakldfhaaGreatGB
import Derived.Test.YtaiklhbakldfhaaGreatGA
namespace Go.Proofs.YtaiklhbakldfhaaGreat
open Go.Lib (hid)
set_option linter.unusedSimpArgs false
set_option linter.unusedVariables false
set_option maxRecDepth 100000
set_option maxHeartbeats 16000000
open Go.RowKit
structure St (w0 W:World) (X:Nat) (x:E) (vR:Value) (R:List E) (vM:Value) (M:List E):Prop where
 x1:W.cell? ⟨X,0,none⟩=some (.int .i64 x.a)
 x2:W.cell? ⟨X,1,none⟩=some (.int .i64 x.n)
 x3:W.cell? ⟨X,2,none⟩=some (.int .i64 x.s)
 hR:aG W w0.heap.size vR R
 hM:aG W w0.heap.size vM M
 nR:vR.ownBlock≠some X
 nM:vM.ownBlock≠some X
 sep:vR.ownBlock=none∨vR.ownBlock≠vM.ownBlock
 hB:Below w0.heap.size w0 W
section
variable {w0 W W':World} {X:Nat} {x:E} {vR vM v:Value} {R M L:List E}
theorem St.later (h:St w0 W X x vR R vM M) (hb:Below W.heap.size W W'):St w0 W' X x vR R vM M:=
 ⟨hb.keep h.x1,hb.keep h.x2,hb.keep h.x3,h.hR.keep hb,h.hM.keep hb,h.nR,h.nM,h.sep,h.hB.on hb⟩
theorem St.alloc (h:St w0 W X x vR R vM M) (o:Obj):St w0 (W.alloc o) X x vR R vM M:=h.later ((Below.refl _ _).bMq o)
theorem St.lt (h:St w0 W X x vR R vM M):X<W.heap.size:=World.block_lt_of_cell? W _ h.x1
theorem St.pushR (h:St w0 W X x vR R vM M) (ho:aG W' w0.heap.size v L) (hg:W.grownBy W' vR.ownBlock) (hw:v.ownBlock=vR.ownBlock∨ ∃k,v.ownBlock=some k/\W.heap.size<=k):St w0 W' X x v L vM M:=by
 have hne:some X≠vR.ownBlock:=fun e=>h.nR e.symm;have hsep:vM.ownBlock=none∨vM.ownBlock≠vR.ownBlock:=by
  rcases h.sep with e|e
  ·cases hm:vM.ownBlock with
   |none=>exact .inl rfl
   |some j=>exact .inr (by rw[e];simp)
  ·exact .inr (Ne.symm e)
 refine⟨hg.cell h.x1 hne,hg.cell h.x2 hne,hg.cell h.x3 hne,ho,h.hM.other hg hsep,?_,h.nM,?_,h.hB.bMu hg fun k hk=>(h.hR.lt k hk).1⟩
 ·rcases hw with e|⟨k,e,hk⟩
  ·rw[e];exact h.nR
  ·rw[e];have:=h.lt;simp;omega
 ·rcases hw with e|⟨k,e,hk⟩
  ·rw[e];exact h.sep
  ·refine .inr ?_;rw[e];intro he;have:=(h.hM.lt k he.symm).2;omega
theorem St.swap (h:St w0 W X x vR R vM M):St w0 W X x vM M vR R:=
 ⟨h.x1,h.x2,h.x3,h.hM,h.hR,h.nM,h.nR,by
  rcases h.sep with e|e
  ·cases hm:vM.ownBlock with
   |none=>exact .inl rfl
   |some j=>exact .inr (by rw[e];simp)
  ·exact .inr (Ne.symm e),h.hB⟩
theorem St.pushM (h:St w0 W X x vR R vM M) (ho:aG W' w0.heap.size v L) (hg:W.grownBy W' vM.ownBlock) (hw:v.ownBlock=vM.ownBlock∨ ∃k,v.ownBlock=some k/\W.heap.size<=k):St w0 W' X x vR R v L:=
 (h.swap.pushR ho hg hw).swap
end
open Go.RowKit
theorem xA (l:List E) (a:Option Addr) (c:Nat) (w:World) (hr:Rd w a l) (hw:wfL l) (hl:l.length<=1000000000) (hv:aI l=true):
  Calls Tryz.prog 195 #[.slice a l.length c] w (Listed w (joinL l)):=by
 obtain⟨i0,hi,hz0,hz1,hz2⟩:=info_parts kV;have HV:=hid hv;have HO:=hid (aK hv);clear hv;go_enter Tryz.func195,Tryz.ntmps195
 go_wp2_with (go_at_call 174;refine(mY _ _ _ _ _ HV.o hr hw).mono ?_;rintro e w' ⟨rfl,hb⟩)
 go_loopw [4,5] (fun v i wr=>∃ k:Nat,k<=l.length/\i= .int .i64 k/\aG wr w.heap.size v (joinL (l.take k))/\Below w.heap.size w wr) (fun _ i _=>l.length-(intOf i).toNat)
 case atStart=>exact⟨0,Nat.zero_le _,rfl,aG.nil _ _,hb⟩
 case round=>
  obtain⟨k,hk,rfl,ho,hB⟩:=hrel;by_cases hlt:k<l.length
  ·obtain ⟨b,o,rfl,hat⟩:=(hr.keep hB).at (by omega);obtain⟨h1,h2,h3⟩:=hat k _ (List.getElem?_eq_getElem hlt);have HX:=(aD _).1 (HO.o _ (List.getElem_mem hlt));have HT:=hid (aGt l k hlt);have HY:=hid (aGu (l.take k) (fun x hx=>HO.o x (List.mem_of_mem_take hx)));have hjl:=jL (l.take k);have htl:=List.length_take_le k l;generalize l[k]=x at *;generalize joinL (l.take k)=R at *;by_cases hR:R=[]
   ·subst hR;have HR:=hid ho;obtain⟨a4,c4,rfl⟩:∃ a c,u4= .slice a 0 c:=by
     rcases ho.form with ⟨rfl,_⟩|⟨g,c,rfl,_⟩
     ·exact⟨_,_,rfl⟩
     ·exact⟨_,_,rfl⟩
    clear hat ho hr;go_wp2_with fail;refine aC (by kernel_rfl) (by kernel_rfl) ?_
    repeat(go_big_quiet_step (fail))
    refine wpQuiet_nil ?_;intro _ hw';obtain⟨nq,hw''⟩:=hw';subst hw'';have hB2:=hB.bMt nq;have hsz:=hB2.size;have HR2:=hid (HR.o.keep (World.bMr wr nq))
    go_wp2_with (at_builtin;refine aM _ rfl _ _ 76 rfl w.heap.size 81 i0 (.agg #[.int .i64 0,.int .i64 0,.int .i64 0]) 3 24 Tryz.underlying76 hi hz0 hz1 hz2 rfl (by decide) _ _ _ rfl (World.ownsRow.alloc HR2.o _) ⟨(wr.next nq).heap.size,0,none⟩ 1 1 (E.cells x) rfl rfl (rF _ _ (by simp) _ _) (bX _) (by first|omega|(simp only[List.length_nil,List.length_append,List.length_cons];omega)) (by first|(simp only[maxLen];omega)|(simp only[maxLen,List.length_nil,List.length_append,List.length_cons];omega)) (by simp only[World.size_alloc];omega) ?_;intro v1 w1 hown1 hgrow1 hwhere1)
    go_roundw
    case rel=>exact⟨k+1,by omega,by go_num,by rw[HT.o,nE];exact aG.snoc hown1 (by simp),(hB2.bMq _).bMu hgrow1 fun j hj=>(HR2.o.lt j hj).1⟩
    case measure=>simp[intOf];omega
   ·obtain ⟨R',y,rfl⟩:=fC R hR;obtain⟨g,c4,rfl,hg1,hg2,hc1,hc2,hgt,hfz⟩:=(ho.form).resolve_left (by simp);obtain⟨y1,y2,y3⟩:=hgt R'.length y (by simp);simp only[List.length_append,List.length_cons,List.length_nil,Nat.zero_add]at y1 y2 y3 hc1 hjl;have hf:=hfz (R'.length*3+1);obtain⟨e1,e2,e3,e4,e5⟩:=(aD y).1 (HY.o y (by simp));obtain⟨f1,f2,f3,f4,f5⟩:=HX;have hlen:(R'++[y]).length=R'.length+1:=by simp
    have hlen2:(R'++[y]).length<=R'.length+1:=by simp
    rw[hlen]at ho;rw[hlen];have HR:=hid ho;have hd:decide (0<=R'.length)=true:=by simp
    clear hgt hfz hat ho hr hR hlen;cases hm:meets y x
    ·have HP:=hid (eD R' y x hm);by_cases ha:y.a+y.n=x.a
     ·have hs:y.s+y.n≠x.s:=by intro h;simp[meets,ha,h]at hm
      have hab:(x.a==y.a+y.n)=true:=by simp[ha]
      have hsb:(x.s==y.s+y.n)=false:=by simpa using Ne.symm hs
      clear ha hm hs;go_wp2_with fail;refine aC (by kernel_rfl) (by kernel_rfl) ?_
      repeat(go_big_quiet_step (fail))
      refine wpQuiet_nil ?_;intro _ hw';obtain⟨nq,hw''⟩:=hw';subst hw'';have hB2:=hB.bMt nq;have hsz:=hB2.size;have HR2:=hid (HR.o.keep (World.bMr wr nq))
      go_wp2_with (at_builtin;refine aM _ rfl _ _ 76 rfl w.heap.size 81 i0 (.agg #[.int .i64 0,.int .i64 0,.int .i64 0]) 3 24 Tryz.underlying76 hi hz0 hz1 hz2 rfl (by decide) _ _ _ rfl (World.ownsRow.alloc HR2.o _) ⟨(wr.next nq).heap.size,0,none⟩ 1 1 (E.cells x) rfl rfl (rF _ _ (by simp) _ _) (bX _) (by first|omega|(simp only[List.length_nil,List.length_append,List.length_cons];omega)) (by first|(simp only[maxLen];omega)|(simp only[maxLen,List.length_nil,List.length_append,List.length_cons];omega)) (by simp only[World.size_alloc];omega) ?_;intro v1 w1 hown1 hgrow1 hwhere1)
      go_roundw
      case rel=>exact⟨k+1,by omega,by go_num,by rw[HT.o,HP.o];exact aG.snoc hown1 (by simp),(hB2.bMq _).bMu hgrow1 fun j hj=>(HR2.o.lt j hj).1⟩
      case measure=>simp[intOf];omega
     ·have hab:(x.a==y.a+y.n)=false:=by simpa using Ne.symm ha
      clear ha hm;go_wp2_with fail;refine aC (by kernel_rfl) (by kernel_rfl) ?_
      repeat(go_big_quiet_step (fail))
      refine wpQuiet_nil ?_;intro _ hw';obtain⟨nq,hw''⟩:=hw';subst hw'';have hB2:=hB.bMt nq;have hsz:=hB2.size;have HR2:=hid (HR.o.keep (World.bMr wr nq))
      go_wp2_with (at_builtin;refine aM _ rfl _ _ 76 rfl w.heap.size 81 i0 (.agg #[.int .i64 0,.int .i64 0,.int .i64 0]) 3 24 Tryz.underlying76 hi hz0 hz1 hz2 rfl (by decide) _ _ _ rfl (World.ownsRow.alloc HR2.o _) ⟨(wr.next nq).heap.size,0,none⟩ 1 1 (E.cells x) rfl rfl (rF _ _ (by simp) _ _) (bX _) (by first|omega|(simp only[List.length_nil,List.length_append,List.length_cons];omega)) (by first|(simp only[maxLen];omega)|(simp only[maxLen,List.length_nil,List.length_append,List.length_cons];omega)) (by simp only[World.size_alloc];omega) ?_;intro v1 w1 hown1 hgrow1 hwhere1)
      go_roundw
      case rel=>exact⟨k+1,by omega,by go_num,by rw[HT.o,HP.o];exact aG.snoc hown1 (by simp),(hB2.bMq _).bMu hgrow1 fun j hj=>(HR2.o.lt j hj).1⟩
      case measure=>simp[intOf];omega
    ·have HP:=hid (dG R' y x hm);simp only[meets,Bool.and_eq_true,decide_eq_true_eq]at hm;have hab:(x.a==y.a+y.n)=true:=by simp[hm.1]
     have hsb:(x.s==y.s+y.n)=true:=by simp[hm.2]
     clear hm;go_wp2_with fail;refine aC (by kernel_rfl) (by kernel_rfl) ?_
     repeat(go_big_quiet_step (fail))
     refine wpQuiet_nil ?_;intro _ hw';obtain⟨nq,hw''⟩:=hw';subst hw'';have hB2:=hB.bMt nq;have HR2:=hid (HR.o.keep (World.bMr wr nq));have hbn:=World.bMr wr nq;have k1:=hbn.keep h1;have k2:=hbn.keep h2;have k3:=hbn.keep h3;have z2:=hbn.keep y2;have hfr:=hbn.bMw y2 hf;generalize hW:wr.next nq=W at *;clear hbn h1 h2 h3 y1 y2 y3 hf HR hW;go_wp2_with fail;refine iM 13 (by kernel_rfl) (by kernel_rfl) ?_;simp only[List.take_succ_cons,List.take_zero,List.drop_succ_cons,List.drop_zero]
     repeat(go_big_quiet_step (fail))
     refine wpQuiet_nil ?_;intro _ hw';obtain⟨nq,hw''⟩:=hw';subst hw'';have hB3:=hB2.bMt nq;have HR3:=hid (HR2.o.keep (World.bMr W nq));go_wp2_with fail;have h3:=HR3.o;unfold aG at h3;rw[show(R'++[y]).length=R'.length+1 by simp]at h3;have hst:=World.ownsRow.stored h3 (R'.length*3+1) (.int .i64 (y.n+x.n));rw[yM]at hst;have HS1:=hid hst.1;have HS2:=hid hst.2;clear hst h3;go_roundw
     case rel=>
      refine⟨k+1,by omega,by go_num,?_,hB3.bMu HS2.o fun j hj=>by simp at hj;omega⟩;rw[HT.o,HP.o];unfold aG;rw[show(R'++[y.longer x.n]).length=R'.length+1 by simp];exact HS1.o
     case measure=>simp[intOf];omega
  ·go_wp2;go_ret2;rw[List.take_of_length_le (by omega)]at ho;exact⟨_,rfl,ho,hB⟩
open Go.RowKit
theorem Rd.source {w:World} {a:Option Addr} {l:List E} (h:Rd w a l):w.source 3 a l.length (bH l):=by
 refine⟨dD l,uN l,?_⟩;rcases h.2 with rfl|⟨b,o,rfl,hat⟩
 ·cases a with
  |none=>exact .inl ⟨rfl,rfl⟩
  |some ad=>exact .inr ⟨ad,rfl,fun j u hu=>by simp[bH]at hu⟩
 ·refine .inr ⟨_,rfl,fun j u hu=> ?_⟩;have hj:j<l.length*3:=by rw[<-dD];exact(List.getElem?_eq_some_iff.1 hu).1
  have hk:j/3<l.length:=by omega
  obtain⟨c1,c2,c3⟩:=zK l (j/3) _ (List.getElem?_eq_getElem hk);obtain⟨d1,d2,d3⟩:=hat (j/3) _ (List.getElem?_eq_getElem hk);have hadd:(⟨b,o,none⟩:Addr).add j=⟨b,o+j,none⟩:=by unfold Addr.add;split <;> simp_all
  rw[hadd];rcases(by omega:j=j/3*3∨j=j/3*3+1∨j=j/3*3+2)with e|e|e
  ·rw[e]at hu ⊢;rw[c1]at hu;rw[<-hu,d1]
  ·rw[e]at hu ⊢;rw[c2]at hu;rw[<-hu,<-Nat.add_assoc,d2]
  ·rw[e]at hu ⊢;rw[c3]at hu;rw[<-hu,<-Nat.add_assoc,d3]
theorem aG.source {w:World} {B:Nat} {v:Value} {l:List E} (h:aG w B v l) (hl:l.length<=46912496118443):∃ a c,v= .slice a l.length c/\Rd w a l/\w.source 3 a l.length (bH l):=by
 obtain⟨a,c,hv,hr⟩:=h.rd hl;exact⟨a,c,hv,hr,hr.source⟩
theorem aG.append {w:World} {B n:Nat} {v:Value} {l r:List E} (h:w.ownsRow B 81 3 v n (bH l++bH r)) (hn:n=l.length+r.length):aG w B v (l++r):=by
 subst hn;unfold aG;rw[eH,List.length_append];exact h
theorem iQ {l:List E} (h:∀ x∈l,okB x=true):wfL l:=by
 intro x hx;have:=(aD x).1 (h x hx);unfold E.wf;omega
theorem bDu (l:List E) (p n:Int) (a:Option Addr) (c:Nat) (w:World) (hr:Rd w a l) (hw:wfL l) (hl:l.length<=100000000) (hv:aI l=true) (hp:dW p n 65536=true)
  (hv1:aI (aJ l 0 p++aJ l (p+n) 65536)=true) (hv2:aI (aJ l p (p+n))=true):
  Calls Tryz.prog 198 #[.slice a l.length c,.int .i64 p,.int .i64 n] w fun e w'=>
   ∃v m,e= .returned (.tuple #[v,m,.int .i64 0])/\aG w' w.heap.size v (joinL (aJ l 0 p++aJ l (p+n) 65536))/\aG w' w.heap.size m (joinL (aJ l p (p+n)))/\Below w.heap.size w w':=by
 obtain⟨i0,hi,hz0,hz1,hz2⟩:=info_parts kV;have HV:=hid hv;have HP:=hid hp;have HO:=hid (aK hv);have HV1:=hid hv1;have HV2:=hid hv2;obtain⟨p0,n0,p1,n1⟩:0<=p/\0<=n/\p<=65536/\n<=65536-p:=by simpa [dW]using hp
 have q1:=bU l 0 p;have q2:=bU l (p+n) 65536;have q3:=bU l p (p+n);have OK1:=hid (dH l 0 p HO.o);have OK2:=hid (dH l (p+n) 65536 HO.o);have OK3:=hid (dH l p (p+n) HO.o);generalize hL1:aJ l 0 p=L1 at *;generalize hL2:aJ l (p+n) 65536=L2 at *;generalize hL3:aJ l p (p+n)=L3 at *;have E1:=hid hL1;have E2:=hid hL2;have E3:=hid hL3;clear hv hp hv1 hv2 hL1 hL2 hL3;go_enter Tryz.func198,Tryz.ntmps198
 go_wp2_with (first|(go_at_call 174;refine(mY _ _ _ _ _ HV.o hr hw).mono ?_;rintro e w1 ⟨rfl,hB1⟩)|(go_at_call 221;refine(bDw _ _ _ _ HP.o).mono ?_;rintro e w2 ⟨rfl,rfl⟩))
 refine(nC l 0 p _ _ _ (hr.keep hB1) hl HO.o (by omega) (by omega) (by omega) (by omega)).mono ?_;rintro e w2 ⟨v2,rfl,ho2,hb2⟩;rw[E1.o]at ho2;have hB2:=hB1.on hb2;have HO2:=hid (ho2.mono hB1.size);clear ho2 hb2;go_wp2_with fail;refine(nC l (p+n) 65536 _ _ _ (hr.keep hB2) hl HO.o (by omega) (by omega) (by omega) (by omega)).mono ?_;rintro e w3 ⟨v3,rfl,ho3,hb3⟩;rw[E2.o]at ho3;have hB3:=hB2.on hb3;have HO3:=hid (HO2.o.keep hb3);obtain⟨a3,c3,rfl,_,hs3⟩:=ho3.source (by omega);have HS3:=hid hs3;have hsz3:=hB3.size;clear ho3 hb3 HO2 hs3
 go_wp2_with (at_builtin;refine dB _ rfl _ _ 76 rfl w.heap.size 81 i0 (.agg #[.int .i64 0,.int .i64 0,.int .i64 0]) 3 24 Tryz.underlying76 hi hz0 hz1 hz2 rfl (by decide) _ _ _ rfl HO3.o _ _ _ _ rfl HS3.o (by first|omega|(simp only[List.length_nil,List.length_append,List.length_cons];omega)) (by first|(simp only[maxLen];omega)|(simp only[maxLen,List.length_nil,List.length_append,List.length_cons];omega)) (by first|omega|(simp only[World.size_alloc];omega)) ?_;intro v1 w1 hown1 hgrow1 hwhere1)
 have hB4:=hB3.bMu hgrow1 fun j hj=>(HO3.o.lt j hj).1;obtain⟨a4,c4,rfl,hr4,_⟩:=(aG.append hown1 rfl).source (by simp;omega);clear hown1 hgrow1 hwhere1 HO3 HS3 hsz3;refine(xA (L1++L2) _ _ _ hr4 (iQ (aK HV1.o)) (by simp;omega) HV1.o).mono ?_;rintro e w5 ⟨v5,rfl,ho5,hb5⟩;have hB5:=hB4.on hb5;have HO5:=hid (ho5.mono hB4.size);clear ho5 hb5 hr4;go_wp2_with fail;refine(nC l p (p+n) _ _ _ (hr.keep hB5) hl HO.o (by omega) (by omega) (by omega) (by omega)).mono ?_;rintro e w6 ⟨v6,rfl,ho6,hb6⟩;rw[E3.o]at ho6;have hB6:=hB5.on hb6;have HO6:=hid (HO5.o.keep hb6);obtain⟨a6,c6,rfl,hr6,_⟩:=ho6.source (by omega);clear ho6 hb6 HO5;go_wp2_with fail;refine(xA L3 _ _ _ hr6 (iQ OK3.o) (by omega) HV2.o).mono ?_;rintro e w7 ⟨v7,rfl,ho7,hb7⟩;have hB7:=hB6.on hb7;have HO7:=hid (HO6.o.keep hb7);have HO8:=hid (ho7.mono hB6.size);clear ho7 hb7 HO6 hr6;go_wp2_with fail;go_ret3;exact⟨_,_,rfl,HO7.o,HO8.o,hB7⟩
theorem guardE:Tryz.prog.eqGuardType Tryz.prog.depth 81=false:=by kernel_rfl
theorem bMj:Tryz.prog.stoodInHeld 81=false:=by kernel_rfl
theorem bJa:Tryz.prog.underlying 81=some (.struct (Tryz.prog.fieldsOf 81)):=by kernel_rfl
theorem aUa (x y:E) (w:World):(Op.equalIn 10000 81 (.agg #[.int .i64 x.a,.int .i64 x.n,.int .i64 x.s]) (.agg #[.int .i64 y.a,.int .i64 y.n,.int .i64 y.s])).run Tryz.prog w= .ok (eqE x y) w:=by
 rw [run_equalIn_struct w 9999 81 _ _ bJa bMj];by_cases h1:x.a=y.a <;> by_cases h2:x.n=y.n <;> by_cases h3:x.s=y.s <;>
  simp[Program.fieldsOf,Tryz.underlying81,Tryz.underlying3,Op.eqFields,go_sem,eqE,h1,h2,h3]
theorem bDl (x y:E) (w:World) (b:Bool) (hb:eqE x y=b):(binOp .neq 81 (.agg #[.int .i64 x.a,.int .i64 x.n,.int .i64 x.s]) (.agg #[.int .i64 y.a,.int .i64 y.n,.int .i64 y.s])).run Tryz.prog w= .ok (.bool (!b)) w:=by
 rw[run_neq_struct,aUa,hb];rfl
theorem aTz (op:BinOp) (u v:Operand) (x y:E) (w:World):(eqGuard op 81 u v (.agg #[.int .i64 x.a,.int .i64 x.n,.int .i64 x.s]) (.agg #[.int .i64 y.a,.int .i64 y.n,.int .i64 y.s])).run Tryz.prog w= .ok () w:=
 run_eqGuard_agg w op 81 u v _ _ guardE
theorem bDj (l r:List E) (a b:Option Addr) (c d:Nat) (w:World) (hl:Rd w a l) (hr:Rd w b r):
  Calls Tryz.prog 71 #[.slice a l.length c,.slice b r.length d] w fun e w'=>e= .returned (.bool (uT l r))/\Below w.heap.size w w':=by
 have hl1:=hl.1;have hr1:=hr.1;by_cases hlen:l.length=r.length
 ·have hb:((l.length:Int)==(r.length:Int))=true:=by simp[hlen]
  have hb2:((l.length:Int) != (r.length:Int))=false:=by simp[hlen]
  have HL:=hid hlen;clear hlen;go_enter Tryz.func71,Tryz.ntmps71;go_wp2;go_loopw [5] (fun i wr=>∃ k:Nat,k<=l.length/\i= .int .i64 k/\l.take k=r.take k/\Below w.heap.size w wr) (fun i _=>l.length-(intOf i).toNat)
  case atStart=>exact⟨0,Nat.zero_le _,rfl,by simp,Below.refl _ _⟩
  case round=>
   obtain⟨k,hk,rfl,hv,hB⟩:=hrel;by_cases hlt:k<l.length
   ·have hlt2:k<r.length:=by rw[<-HL.o];exact hlt
    obtain ⟨b1,o1,rfl,hat1⟩:=(hl.keep hB).at (by omega);obtain⟨b2,o2,rfl,hat2⟩:=(hr.keep hB).at (by omega);obtain⟨h1,h2,h3⟩:=hat1 k _ (List.getElem?_eq_getElem hlt);obtain⟨g1,g2,g3⟩:=hat2 k _ (List.getElem?_eq_getElem hlt2);have hv0:=hv;clear hat1 hat2 hl hr hv;have HT:=hid (fun h:eqE l[k] r[k]=true=>show l.take (k+1)=r.take (k+1) by
     rw[List.take_succ_eq_append_getElem hlt,List.take_succ_eq_append_getElem hlt2,hv0,(aNi _ _).1 h])
    have HF:=hid (fun h:eqE l[k] r[k]=false=>show uT l r=false by
     cases hs:uT l r with
     |false=>rfl
     | true=>
      have e:=(aBn _ _).1 hs;subst e;have:=(aNi l[k] l[k]).2 rfl;rw[this]at h
      cases h)
    generalize l[k]=x at *;generalize r[k]=y at *;cases hq:eqE x y
    all_goals
     have HQ:=hid hq;have hne:=fun w=>bDl x y w _ hq;have hgd:=fun op u v w=>aTz op u v x y w;clear hq hv0;go_wp2_with fail;refine aC (by kernel_rfl) (by kernel_rfl) ?_
     repeat(go_big_quiet_step (fail))
     refine wpQuiet_nil ?_;intro _ hw';obtain⟨nq,hw''⟩:=hw';subst hw'';clear hne hgd;go_wp2_with fail
    ·go_ret;exact⟨bW (by simp[HF.o HQ.o]),hB.bMt _⟩
    ·go_roundw
     case rel=>exact⟨k+1,by omega,by go_num,HT.o HQ.o,hB.bMt _⟩
     case measure=>simp[intOf];omega
   ·have HV:=hid hv;clear hv;go_wp2;go_ret;refine⟨bW ?_,hB⟩;have:=HV.o;rw[List.take_of_length_le (by omega),List.take_of_length_le (by rw[<-HL.o];omega)]at this;rw[this,aFq]
 ·have hb2:((l.length:Int) != (r.length:Int))=true:=by simp;omega
  have HF:Hid (uT l r=false):=by
   cases hs:uT l r with
   |false=>exact rfl
   |true=>exact absurd (congrArg List.length ((aBn _ _).1 hs)) hlen
  clear hlen;go_enter Tryz.func71,Tryz.ntmps71;go_wp2;go_ret;exact⟨bW (by simp[HF.o]),Below.refl _ _⟩
theorem bIc (l r:List E) (a b:Option Addr) (c d:Nat) (v:Bool) (w:World) (hv:uT l r=v) (hl:Rd w a l) (hr:Rd w b r):
  Calls Tryz.prog 71 #[.slice a l.length c,.slice b r.length d] w fun e w'=>e= .returned (.bool v)/\Below w.heap.size w w':=by
 subst hv;exact bDj l r a b c d w hl hr
theorem aPh (l:List E) (a:Option Addr) (c:Nat) (w:World) (hr:Rd w a l) (hw:wfL l) (hl:l.length<=1000000000):
  Calls Tryz.prog 127 #[.slice a l.length c] w fun e w'=>e= .returned (.int .i64 (xX l))/\Below w.heap.size w w':=by
 cases hv:aI l
 ·rw[aWw hv];have HV:=hid hv;clear hv;go_enter Tryz.func127,Tryz.ntmps127
  go_wp2_with (go_at_call 174;refine(mY _ _ _ _ _ HV.o hr hw).mono ?_;rintro e w' ⟨rfl,hb⟩)
  go_ret;exact⟨rfl,hb⟩
 ·rw [aDx hv];have HV:=hid hv;have HO:=hid (aK hv);clear hv;go_enter Tryz.func127,Tryz.ntmps127
  go_wp2_with (go_at_call 174;refine(mY _ _ _ _ _ HV.o hr hw).mono ?_;rintro e w' ⟨rfl,hb⟩)
  go_loopw [3,4] (fun v i wr=>∃ k:Nat,k<=l.length/\i= .int .i64 k/\v= .int .i64 (aT (l.take k))/\Below w.heap.size w wr) (fun _ i _=>l.length-(intOf i).toNat)
  case atStart=>exact⟨0,Nat.zero_le _,rfl,rfl,hb⟩
  case round=>
   obtain⟨k,hk,rfl,rfl,hB⟩:=hrel;by_cases hlt:k<l.length
   ·obtain⟨b,o,rfl,hat⟩:=(hr.keep hB).at (by omega);obtain⟨h1,h2,h3⟩:=hat k _ (List.getElem?_eq_getElem hlt);have HX:=(aD _).1 (HO.o _ (List.getElem_mem hlt));have HT:=hid (aCc l k hlt);have hbd:=yZ (l.take k) (fun x hx=>HO.o x (List.mem_of_mem_take hx));have htl:=List.length_take_le k l;generalize l[k]=x at *;generalize aT (l.take k)=s at *;clear hat hr;go_wp2;go_roundw
    case rel=>exact⟨k+1,by omega,by go_num,by rw[HT.o],hB⟩
    case measure=>simp[intOf];omega
   ·go_wp2;go_ret;refine⟨pU ?_,hB⟩;rw[List.take_of_length_le (by omega)]
theorem aZv (l:List E) (p:Int) (a:Option Addr) (c:Nat) (w:World) (hr:Rd w a l) (hw:wfL l):
  Calls Tryz.prog 146 #[.slice a l.length c,.int .i64 p] w fun e w'=>e= .returned (.tuple #[.int .i64 (aRo l p),.bool (aRn l p)])/\Below w.heap.size w w':=by
 have hlen:=hr.1;cases hv:aI l
 ·rw[bGi p hv,bGh p hv];have HV:=hid hv;clear hv;go_enter Tryz.func146,Tryz.ntmps146
  go_wp2_with (go_at_call 174;refine(mY _ _ _ _ _ HV.o hr hw).mono ?_;rintro e w' ⟨rfl,hb⟩)
  go_ret2;exact⟨rfl,hb⟩
 ·rw [aLe p hv,aLd p hv];have HV:=hid hv;have HO:=hid (aK hv);clear hv;go_enter Tryz.func146,Tryz.ntmps146
  go_wp2_with (go_at_call 174;refine(mY _ _ _ _ _ HV.o hr hw).mono ?_;rintro e w' ⟨rfl,hb⟩)
  go_loopw [6] (fun i wr=>∃ k:Nat,k<=l.length/\i= .int .i64 k/\(l.take k).find? (hits p)=none/\Below w.heap.size w wr) (fun i _=>l.length-(intOf i).toNat)
  case atStart=>exact⟨0,Nat.zero_le _,rfl,by simp,hb⟩
  case round=>
   obtain⟨k,hk,rfl,hn,hB⟩:=hrel;by_cases hlt:k<l.length
   ·obtain ⟨b,o,rfl,hat⟩:=(hr.keep hB).at (by omega);obtain⟨h1,h2,h3⟩:=hat k _ (List.getElem?_eq_getElem hlt);obtain⟨c1,c2,c3,c4,c5⟩:=(aD _).1 (HO.o _ (List.getElem_mem hlt));have HF:=hid (bBq l p k hlt hn);generalize l[k]=x at *;clear hat hr hn;by_cases g1:x.a<=p
    ·have gd:decide (x.a<=p)=true:=by simpa using g1
     by_cases g2:p<x.a+x.n
     ·have gd2:decide (p<x.a+x.n)=true:=by simpa using g2
      have hf:=hid (HF.o.2 (by simp[hits,g1,g2]));go_wp2_with fail;refine aC (by kernel_rfl) (by kernel_rfl) ?_
      repeat(go_big_quiet_step (fail))
      refine wpQuiet_nil ?_;intro _ hw';obtain⟨nq,hw''⟩:=hw';subst hw'';generalize hW:wr.next nq=W;have hB2:Below w.heap.size w W:=by rw[<-hW];exact hB.bMt _
      have k1:W.cell? ⟨b,o+k*3,none⟩=some (.int .i64 x.a):=by rw[<-hW];exact(World.bMr wr nq).keep h1
      have k3:W.cell? ⟨b,o+k*3+2,none⟩=some (.int .i64 x.s):=by rw[<-hW];exact(World.bMr wr nq).keep h3
      clear hW h1 h2 h3;go_wp2_with fail;refine aC (by kernel_rfl) (by kernel_rfl) ?_
      repeat(go_big_quiet_step (fail))
      refine wpQuiet_nil ?_;intro _ hw';obtain⟨nq,hw''⟩:=hw';subst hw'';go_wp2_with fail;go_ret2;exact⟨by simp[fK,fH,hf.o],hB2.bMt _⟩
     ·have gd2:decide (p<x.a+x.n)=false:=by simpa using g2
      have hf:=hid (HF.o.1 (by simp[hits];omega));go_wp2_with fail;refine aC (by kernel_rfl) (by kernel_rfl) ?_
      repeat(go_big_quiet_step (fail))
      refine wpQuiet_nil ?_;intro _ hw';obtain⟨nq,hw''⟩:=hw';subst hw'';go_wp2_with fail;go_roundw
      case rel=>exact⟨k+1,by omega,by go_num,hf.o,hB.bMt _⟩
      case measure=>simp[intOf];omega
    ·have gd:decide (x.a<=p)=false:=by simpa using g1
     have hf:=hid (HF.o.1 (by simp[hits];omega));go_wp2_with fail;refine aC (by kernel_rfl) (by kernel_rfl) ?_
     repeat(go_big_quiet_step (fail))
     refine wpQuiet_nil ?_;intro _ hw';obtain⟨nq,hw''⟩:=hw';subst hw'';go_wp2_with fail;go_roundw
     case rel=>exact⟨k+1,by omega,by go_num,hf.o,hB.bMt _⟩
     case measure=>simp[intOf];omega
   ·have HN:=hid hn;clear hn;go_wp2;go_ret2;have:=HN.o;rw[List.take_of_length_le (by omega)]at this;simp[fK,fH,this,hB]
open Go.RowKit
theorem aG.lit (W:World) (cs:Array Value) (l:List E) (h:cs.toList=bH l) (hl:l.length<=maxLen) (B:Nat) (hB:B<=W.heap.size):aG (W.alloc (.cells cs 81)) B (.slice (some ⟨W.heap.size,0,none⟩) l.length l.length) l:=by
 unfold aG;rw[<-h];exact World.ownsRow_lit W cs l.length hB hl (by have:=congrArg List.length h;rw[dD]at this;simpa using this)
theorem Rd.lit (W:World) (cs:Array Value) (l:List E) (n:Nat) (hn:n=W.heap.size) (h:cs.toList=bH l) (hl:l.length<=46912496118443):Rd (W.alloc (.cells cs 81)) (some ⟨n,0,none⟩) l:=by
 subst hn;obtain⟨a,c,hv,hr⟩:=(aG.lit W cs l h (by unfold maxLen;omega) W.heap.size (Nat.le_refl _)).rd hl;simp only[Value.slice.injEq]at hv;rw[hv.1];exact hr
end Go.Proofs.YtaiklhbakldfhaaGreat
