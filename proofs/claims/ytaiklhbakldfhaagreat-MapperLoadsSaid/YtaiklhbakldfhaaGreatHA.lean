/-
  package extree: Cut, Range, Find, Blocks.
  package extree: All; slices.Collect of a tree's extents; (volume).extents.
  package family: how a family lies in memory; look-ups, stores and deletions in its map.
  Boxes of two cells; what a store to one leaves alone.
  Conditions: as each theorem says.
-/
import Derived.Test.YtaiklhbakldfhaaGreatGQ
import Derived.Deep.LoopGhost
import Derived.RangeFuncNested
import Derived.RangeFuncBound
import Derived.RangeFuncCalls
import Derived.RangeFuncLeaves
import Derived.RangeFuncBox
import Derived.Shelf.Abstract
import Derived.OwnWalkIn
import Derived.TacticsInMore
import Derived.LoopNIn
import Derived.LoopIn
import Derived.Maps.AppendAt
import Derived.Test.YtaiklhbakldfhaaGreatGA
import Derived.Test.YtaiklhbakldfhaaGreatGF
import Derived.Maps.OwnSet
namespace Go.Proofs.YtaiklhbakldfhaaGreat
open Go.Lib (hid)
set_option linter.unusedSimpArgs false
set_option linter.unusedVariables false
set_option maxRecDepth 100000
set_option maxHeartbeats 16000000
open Go.RowKit
theorem aOl (p n:Int) (w:World) (hp: -9223372036854775808<=p/\p<=9223372036854775807) (hn: -9223372036854775808<=n/\n<=9223372036854775807):
  Calls Tryz.prog 162 #[.int .i64 p,.int .i64 n] w fun e w'=>e= .returned (.bool (dW p n 65536))/\w=w':=by
 go_enter Tryz.func162,Tryz.ntmps162;go_wp2
 all_goals
  go_ret;exact⟨bW (by simp only[dW,decide_eq_true_eq,Bool.false_eq_true,false_iff];omega),rfl⟩
theorem yP (p n:Int) (r:Bool) (w:World) (hr:dW p n 65536=r) (hp: -9223372036854775808<=p/\p<=9223372036854775807) (hn: -9223372036854775808<=n/\n<=9223372036854775807):
  Calls Tryz.prog 162 #[.int .i64 p,.int .i64 n] w fun e w'=>e= .returned (.bool r)/\w=w':=by
 subst hr;exact aOl p n w hp hn
structure CSt (w W:World) (R:Nat):Prop where
 r0:W.cell? ⟨R,0,none⟩=some (.pointer none)
 rf:W.frozen? ⟨R,0,none⟩=false
 r7:W.cell? ⟨R,7,none⟩=none
 le:w.heap.size<=R
 bel:Below w.heap.size w W
theorem CSt.later {w W W':World} {R:Nat} (h:CSt w W R) (hb:Below W.heap.size W W'):CSt w W' R:=
 ⟨hb.keep h.r0,hb.bMw h.r0 h.rf,(hb.cell (p:=⟨R,7,none⟩) (World.block_lt_of_cell? W ⟨R,0,none⟩ h.r0)).trans h.r7,h.le,h.bel.on hb⟩
theorem aPs (l:List E) (p:Int):aJ l p p=[]:=by
 refine List.map_eq_nil_iff.2 (List.filter_eq_nil_iff.2 fun x _=> ?_);unfold bR;simp only[decide_eq_true_eq];omega
theorem bIt (l:List E) (p:Int):inL l p 0=[]:=by rw[wE,Int.add_zero,aPs];rfl
def bLw (w:World) (e:Ending) (w':World):Prop:=e= .returned (.tuple #[.agg #[.pointer none],.slice none 0 0,.int .i64 1])/\Below w.heap.size w w'
theorem bJl (p n:Int) (v:Value) (w:World) (hv:∃ a,v= .pointer a) (hw:dW p n 65536=false) (hp: -9223372036854775808<=p/\p<=9223372036854775807) (hn: -9223372036854775808<=n/\n<=9223372036854775807):
  Calls Tryz.prog 120 #[.agg #[v],.int .i64 p,.int .i64 n] w (bLw w):=by
 obtain⟨a,rfl⟩:=hv;have HW:=hid hw;clear hw;go_enter Tryz.func120,Tryz.ntmps120;go_wp2_with fail;refine(yP p n false _ HW.o hp hn).mono ?_;rintro e w1 ⟨rfl,rfl⟩;go_wp2_with fail
 (try simp only[Exit.inBlock,Exit.then])
 refine bodyPost_ret (v:= .tuple #[.agg #[.pointer none],.slice none 0 0,.int .i64 1]) (by first|(rw[results_cell_tmp rfl];go_simp;done)|(rw[aB rfl];go_simp;done)|(rw[aA rfl];go_simp;done)) rfl ?_;exact⟨rfl,by(repeat(first|exact Below.refl _ _|assumption|refine Below.bMt ?_ _|refine Below.bMq ?_ _|refine Below.setCell ?_ (by simp) _|refine Below.drew ?_))⟩
theorem aLi (t:Tr) (p n:Int) (v:Value) (w:World) (ht:aF w v t) (hv:aI t.toL=true) (hnm:eX t.toL=true) (hw:dW p n 65536=true):
  Calls Tryz.prog 120 #[.agg #[v],.int .i64 p,.int .i64 n] w (aYk w (fV t.toL p n) (inL t.toL p n)):=by
 obtain⟨a,rfl⟩:=ht.form;obtain⟨c1,c2,c3,c4⟩:0<=p/\0<=n/\p<=65536/\n<=65536-p:=of_decide_eq_true hw;have HV:=hid hv;have HN:=hid hnm;have HW:=hid hw;have HT:=hid ht;clear hv hnm hw ht;by_cases h0:n=0
 ·subst h0;go_enter Tryz.func120,Tryz.ntmps120;go_wp2_with fail;refine(yP p 0 true _ HW.o (by omega) (by omega)).mono ?_;rintro e w1 ⟨rfl,rfl⟩;go_wp2_with fail
  (try simp only[Exit.inBlock,Exit.then])
  refine bodyPost_ret (v:= .tuple #[.agg #[.pointer a],.slice none 0 0,.int .i64 0]) (by first|(rw[results_cell_tmp rfl];go_simp;done)|(rw[aB rfl];go_simp;done)|(rw[aA rfl];go_simp;done)) rfl ?_;have hB:Below w.heap.size w ((w.alloc (.cells #[.pointer a] 137)).alloc (.cells #[.pointer a] 137)):=by(repeat(first|exact Below.refl _ _|assumption|refine Below.bMt ?_ _|refine Below.bMq ?_ _|refine Below.setCell ?_ (by simp) _|refine Below.drew ?_))
  exact⟨_,t,_,rfl,aF.keep hB t HT.o,(bGs t.toL p HV.o HN.o).symm,by rw[bIt];exact aG.nil _ _,hB⟩
 ·go_enter Tryz.func120,Tryz.ntmps120;go_wp2_with fail;refine(yP p n true _ HW.o (by omega) (by omega)).mono ?_;rintro e w1 ⟨rfl,rfl⟩;have hB:Below w.heap.size w ((w.alloc (.cells #[.pointer a] 137)).alloc (.cells #[.pointer none] 137)):=by(repeat(first|exact Below.refl _ _|assumption|refine Below.bMt ?_ _|refine Below.bMq ?_ _|refine Below.setCell ?_ (by simp) _|refine Below.drew ?_))
  have hC:CSt w ((w.alloc (.cells #[.pointer a] 137)).alloc (.cells #[.pointer none] 137)) (w.heap.size+1):=
   ⟨by rw[World.cell?_alloc_at (hn:=by simp)];rfl,by rw[World.frozen?_alloc_at (hn:=by simp)],by rw[World.cell?_alloc_at (hn:=by simp)];rfl,by omega,hB⟩
  have HC:=hid hC;clear hB hC;go_wp2_with fail;have hsz:=oD HV.o;have hts:t.toL.length=t.size:=rfl;refine(tJ p (by omega) (by omega) t (.pointer a) _ (aF.keep HC.o.bel t HT.o) ⟨aK HV.o,by omega⟩ HV.o).mono ?_;rintro e w2 ⟨va,vb,ta,tb,rfl,hta,htb,hA,hB,hb2⟩;obtain⟨aa,rfl⟩:=hta.form;obtain⟨ab,rfl⟩:=htb.form;have hpl:=bU t.toL p 65536;have hvb:aI tb.toL=true:=by rw[hB];exact gV _ _ _ HV.o
  have hbs:tb.size<=1000000:=by show tb.toL.length<=_;rw[hB];omega
  have HTA:=hid hta;have HTB:=hid htb;have HA:=hid hA;have HB:=hid hB;have HVB:=hid hvb;have HC:=hid (HC.o.later hb2);clear hb2 hta htb hA hB hpl hvb;go_wp2_with fail;refine(tJ (p+n) (by omega) (by omega) tb (.pointer ab) w2 HTB.o ⟨aK HVB.o,hbs⟩ HVB.o).mono ?_;rintro e w3 ⟨vm,vc,tm,tc,rfl,htm,htc,hM,hE,hb3⟩;obtain⟨am,rfl⟩:=htm.form;obtain⟨ac,rfl⟩:=htc.form;have hvl:=aK HV.o;rw[HB.o,aKa t.toL p (p+n) c1 (by omega) hvl,<-aEr t.toL p n HV.o HN.o]at hM;rw[HB.o,aGc t.toL p (p+n) c1 (by omega) hvl]at hE;have hA:=HA.o;have q1:=bU t.toL 0 p;have q2:=(nK t.toL p n hvl).1;have q3:=bU t.toL (p+n) 65536;have HTA:=hid (aF.keep hb3 ta HTA.o);have HTM:=hid htm;have HTC:=hid htc;have HM:=hid hM;have HE:=hid hE;have HC:=hid (HC.o.later hb3);have hms:tm.size<=1000000000:=by show tm.toL.length<=_;rw[hM];omega
  have HJ:=hid (aSc ta tc (.pointer aa) (.pointer ac) w3 HTA.o HTC.o (by
   rw[hA,hE];intro y hy;rcases List.mem_append.1 hy with hy|hy
   ·exact dH t.toL _ _ hvl y hy
   ·exact dH t.toL _ _ hvl y hy) (by rw[hA,hE,List.length_append];omega))
  have HCUT:=hid (bGt t.toL p n (by omega) HV.o HN.o);clear hb3 hM hE hA q1 q2 q3 htm htc hvl HTB HVB hbs;go_wp2_with fail;refine HJ.o.mono ?_;rintro e w8 ⟨v8,t8,rfl,ht8,hl8,hb8⟩;obtain⟨a8,rfl⟩:=ht8.form;have HTM:=hid (aF.keep hb8 tm HTM.o);have HC:=hid (HC.o.later hb8);have HT8:=hid ht8;have HL8:=hid hl8;clear ht8 hl8 hb8;go_wp2_with fail;refine(jV tm (.pointer am) w8 HTM.o hms).mono ?_;rintro e w9 ⟨sv,rfl,ho,hb9⟩;obtain⟨sa,sc,rfl,_⟩:=ho.rd (by show tm.size<=_;omega);have P9:=HC.o.later hb9;have r0:=P9.r0;have rf:=P9.rf;have hsz8:=HC.o.bel.size;have hr8:=World.block_lt_of_cell? w8 ⟨w.heap.size+1,0,none⟩ HC.o.r0;have HT9:=hid (aF.away (i:=0) (u:= .pointer a8) P9.r7 t8 (aF.keep hb9 t8 HT8.o));have HB9:=hid (P9.bel.setCell (p:=⟨w.heap.size+1,0,none⟩) (by simp only;omega) (.pointer a8));have HO9:=hid (aG.far ho ⟨w.heap.size+1,0,none⟩ (.pointer a8) fun h=>by have:=(ho.lt (w.heap.size+1) h).1;simp only at hr8;omega);clear P9 ho hb9 hr8;go_wp2_with fail;have r1:=World.cell?_setCell_same w9 ⟨w.heap.size+1,0,none⟩ (.pointer a8) r0
  (try simp only[Exit.inBlock,Exit.then])
  refine bodyPost_ret (v:= .tuple #[.agg #[.pointer a8],.slice sa tm.toL.length sc,.int .i64 0]) (by first|(rw[results_cell_tmp rfl];go_simp;done)|(rw[aB rfl];go_simp;done)|(rw[aA rfl];go_simp;done)) rfl ?_;exact⟨_,t8,_,rfl,HT9.o,by rw[HL8.o,HA.o,HE.o,HCUT.o],by rw[<-HM.o];exact aG.mono HO9.o hsz8,HB9.o⟩
def aEz (w:World) (M:List E) (e:Ending) (w':World):Prop:= ∃sv,e= .returned sv/\aG w' w.heap.size sv M/\Below w.heap.size w w'
theorem aTf (p n:Int) (v:Value) (w:World) (hv:∃ a,v= .pointer a) (hw:dW p n 65536=false) (hp: -9223372036854775808<=p/\p<=9223372036854775807) (hn: -9223372036854775808<=n/\n<=9223372036854775807):
  Calls Tryz.prog 62 #[.agg #[v],.int .i64 p,.int .i64 n] w (aEz w []):=by
 obtain⟨a,rfl⟩:=hv;have HW:=hid hw;clear hw;go_enter Tryz.func62,Tryz.ntmps62;go_wp2_with fail;refine(bJl p n (.pointer a) _ ⟨a,rfl⟩ HW.o hp hn).mono ?_;rintro e w1 ⟨rfl,hb1⟩;have HB:=hid hb1;clear hb1;go_wp2_with fail;go_ret;exact⟨_,rfl,aG.nil _ _,Below.bMq (((Below.refl w.heap.size w).bMq (.cells #[.pointer a] 137)).on HB.o) _⟩
theorem aCz (t:Tr) (p n:Int) (v:Value) (w:World) (ht:aF w v t) (hv:aI t.toL=true) (hnm:eX t.toL=true) (hw:dW p n 65536=true):
  Calls Tryz.prog 62 #[.agg #[v],.int .i64 p,.int .i64 n] w (aEz w (inL t.toL p n)):=by
 obtain⟨a,rfl⟩:=ht.form;have hC:=hid (fun w' (hb:Below w.heap.size w w')=>aLi t p n (.pointer a) w' (aF.keep hb t ht) hv hnm hw);have hsz:=oD hv;have hil:=(nK t.toL p n (aK hv)).1;clear ht hv hnm hw;go_enter Tryz.func62,Tryz.ntmps62;go_wp2_with fail;refine(hC.o _ (by(repeat(first|exact Below.refl _ _|assumption|refine Below.bMt ?_ _|refine Below.bMq ?_ _|refine Below.setCell ?_ (by simp) _|refine Below.drew ?_)))).mono ?_;rintro e w1 ⟨v1,t1,sv,rfl,ht1,hl1,ho,hb⟩;obtain⟨a1,rfl⟩:=ht1.form;obtain⟨sa,sc,rfl,_⟩:=ho.rd (by omega);have HO:=hid ho;have HB:=hid hb;clear ht1 hl1 ho hb;go_wp2_with fail;go_ret;have hB:=((Below.refl w.heap.size w).bMq (.cells #[.pointer a] 137)).on HB.o;exact⟨.slice sa (inL t.toL p n).length sc,rfl,aG.mono (aG.keep HO.o ((Below.refl _ _).bMq _)) (by simp),hB.bMq _⟩
theorem aMb (t:Tr) (v:Value) (w:World) (ht:aF w v t):
  Calls Tryz.prog 59 #[.agg #[v]] w fun e w'=>e= .returned (.int .i64 (aT t.toL))/\Below w.heap.size w w':=by
 obtain⟨a,rfl⟩:=ht.form;have HT:=hid ht;clear ht;go_enter Tryz.func59,Tryz.ntmps59;go_wp2_with fail;refine(aBy t _ (.pointer a) _ rfl (aF.keep ((Below.refl _ _).bMq _) t HT.o)).mono ?_;rintro e w1 ⟨rfl,hb⟩;have HB:=hid hb;clear hb;go_wp2_with fail;go_ret;exact⟨rfl,((Below.refl _ _).bMq _).on HB.o⟩
theorem bBr {A B:List E} {x:E} (h:aI (A++x::B)=true) (p:Int):
  (p<x.a->fK (A++x::B) p=fK A p/\fH (A++x::B) p=fH A p)/\(x.a+x.n<=p->fK (A++x::B) p=fK B p/\fH (A++x::B) p=fH B p)/\
   (x.a<=p->p<x.a+x.n->fK (A++x::B) p=x.s+p-x.a/\fH (A++x::B) p=true):=by
 obtain⟨hA,hx,hB,h1,h2⟩:=iR h;obtain⟨c1,c2,c3,c4,c5⟩:=(aD x).1 hx;have q0:∀ l:List E,(∀y∈l,hits p y=false)->l.find? (hits p)=none:=fun l hl=>List.find?_eq_none.2 fun y hy=>by rw[hl y hy];simp
 have qA:x.a<=p->A.find? (hits p)=none:=fun hp=>q0 _ fun y hy=>by
  have:=h1 y hy;cases hh:hits p y
  ·rfl
  ·have:=(eG p y).1 hh;omega
 have qB:p<x.a+x.n->B.find? (hits p)=none:=fun hp=>q0 _ fun y hy=>by
  have:=h2 y hy;cases hh:hits p y
  ·rfl
  ·have:=(eG p y).1 hh;omega
 refine⟨fun hp=> ?_,fun hp=> ?_,fun hp hq=> ?_⟩
 ·have hf:hits p x=false:=by
   cases hh:hits p x
   ·rfl
   ·have:=(eG p x).1 hh;omega
  have:(A++x::B).find? (hits p)=A.find? (hits p):=by
   rw[List.find?_append,List.find?_cons_of_neg (by rw[hf];simp),qB (by omega)];simp
  unfold fK fH;rw[this];exact⟨rfl,rfl⟩
 ·have hf:hits p x=false:=by
   cases hh:hits p x
   ·rfl
   ·have:=(eG p x).1 hh;omega
  have:(A++x::B).find? (hits p)=B.find? (hits p):=by
   rw[List.find?_append,List.find?_cons_of_neg (by rw[hf];simp),qA (by omega)];simp
  unfold fK fH;rw[this];exact⟨rfl,rfl⟩
 ·have hf:hits p x=true:=(eG p x).2 ⟨hp,hq⟩;have:(A++x::B).find? (hits p)=some x:=by
   rw[List.find?_append,List.find?_cons_of_pos hf,qA hp];rfl
  unfold fK fH;rw[this];exact⟨rfl,rfl⟩
theorem aTg (t:Tr) (p:Int) (v:Value) (w:World) (ht:aF w v t) (hv:aI t.toL=true) (hp: -9223372036854775808<=p/\p<=9223372036854775807):
  Calls Tryz.prog 98 #[.agg #[v],.int .i64 p] w fun e w'=>e= .returned (.tuple #[.int .i64 (fK t.toL p),.bool (fH t.toL p)])/\Below w.heap.size w w':=by
 obtain⟨a,rfl⟩:=ht.form;have HT:=hid ht;have HV:=hid hv;clear ht hv;go_enter Tryz.func98,Tryz.ntmps98;go_wp2_with fail
 go_loopg [6] t.size (fun k i wr=>∃ (t':Tr) (a':Option Addr),i= .pointer a'/\t'.size<=k/\aF w (.pointer a') t'/\aI t'.toL=true/\fK t'.toL p=fK t.toL p/\fH t'.toL p=fH t.toL p/\Below w.heap.size w wr)
 case atStart=>exact⟨t,a,rfl,Nat.le_refl _,HT.o,HV.o,rfl,rfl,by(repeat(first|exact Below.refl _ _|assumption|refine Below.bMt ?_ _|refine Below.bMq ?_ _|refine Below.setCell ?_ (by simp) _|refine Below.drew ?_))⟩
 case round=>
  obtain⟨t',a',rfl,hk,ht',hv',h1,h2,hB⟩:=hrel
  cases t' with
  | nil=>
   obtain h0:a'=none:=by simpa [aF]using ht'
   subst h0;have H1:=hid h1;have H2:=hid h2;clear ht' hv' h1 h2 hk;go_wp2_with fail;refine bodyPost_ret (results_tmp2 rfl _ _ _) rfl ?_;rw[<-H1.o,<-H2.o];exact⟨rfl,hB⟩
  | node l x r=>
   obtain⟨b,vl,vr,hb,hn,hl,hr⟩:=ht';injection hb with hb';subst hb';obtain⟨al,rfl⟩:=hl.form;obtain⟨ar,rfl⟩:=hr.form;have z0:=hB.keep hn.a;have z1:=hB.keep hn.n;have z2:=hB.keep hn.s;have z3:=hB.keep hn.l;have z4:=hB.keep hn.r;have hsz:=Tr.bMy l r x;obtain⟨q1,q2,q3⟩:=bBr (A:=l.toL) (B:=r.toL) hv' p;obtain⟨hvl,hxo,hvr,_,_⟩:=iR (A:=l.toL) (B:=r.toL) hv';obtain⟨c1,c2,c3,c4,c5⟩:=(aD x).1 hxo;have HL:=hid hl;have HR:=hid hr;have HVL:=hid hvl;have HVR:=hid hvr;have Q1:=hid q1;have Q2:=hid q2;have Q3:=hid q3;have H1:Hid (fK (l.toL++x::r.toL) p=fK t.toL p):=hid h1;have H2:Hid (fH (l.toL++x::r.toL) p=fH t.toL p):=hid h2;have hBd:=hid hB;clear hn hl hr hv' h1 h2 q1 q2 q3 hvl hvr hB hxo;by_cases g1:p<x.a
   ·go_wp2_with fail
    go_roundg (gk-1)
    case measure=>omega
    case rel=>exact⟨l,al,rfl,by omega,HL.o,HVL.o,(Q1.o g1).1.symm.trans H1.o,(Q1.o g1).2.symm.trans H2.o,hBd.o⟩
   ·by_cases g2:x.a+x.n<=p
    ·go_wp2_with fail
     go_region
     go_wp2_with fail
     go_roundg (gk-1)
     case measure=>omega
     case rel=>exact⟨r,ar,rfl,by omega,HR.o,HVR.o,(Q2.o g2).1.symm.trans H1.o,(Q2.o g2).2.symm.trans H2.o,(by have:=hBd.o;(repeat(first|exact Below.refl _ _|assumption|refine Below.bMt ?_ _|refine Below.bMq ?_ _|refine Below.setCell ?_ (by simp) _|refine Below.drew ?_)))⟩
    ·go_wp2_with fail
     go_region
     go_wp2_with fail
     go_region
     go_wp2_with fail;refine bodyPost_ret (results_tmp2 rfl _ _ _) rfl ?_;have h3:=Q3.o (by omega) (by omega);rw[<-H1.o,<-H2.o,h3.1,h3.2];exact⟨rfl,by have:=hBd.o;(repeat(first|exact Below.refl _ _|assumption|refine Below.bMt ?_ _|refine Below.bMq ?_ _|refine Below.setCell ?_ (by simp) _|refine Below.drew ?_))⟩
open Go.RowKit Go.Shelf
attribute [local go_sem] Oper.semAt_some
theorem aZr {F:Fence} (hd:F.depth=none) (k:Nat):F.room k:=fun d h=>by rw[hd]at h;cases h
theorem aPa {F:Fence} (hd:F.depth=none) {m m':Nat} {P:Program} {l:Nat} {f:FuncId} {tmps:Array Value} {assign body:Code} {w:World} {R:Ending->World->Prop}
  (h:RoundIn F m P l f tmps assign body w R):RoundIn F m' P l f tmps assign body w R:=⟨h.1,fun c cs _=>h.2 c cs (aZr hd _)⟩
theorem aNz {F:Fence} (hd:F.depth=none) {m:Nat} (m':Nat) {P:Program} {l:Nat} {args:Array Value} {W:World} {R:Ending->World->Prop} (h:YieldAt F m P l args W R):YieldAt F m' P l args W R:=by
 obtain⟨fn,tmps,assign,body,hy,hR⟩:=h;exact⟨fn,tmps,assign,body,hy,aPa hd hR⟩
abbrev bBy (x:E):Value:= .agg #[.int .i64 x.a,.int .i64 x.n,.int .i64 x.s]
theorem aTc (F:Fence) (hF:F=Fence.wide) (l:Nat) (w0:World) (N:Nat) (J Jx:List E->World->Prop)
    (hY:∀ m pre x W,J pre W->Below w0.heap.size w0 W->pre.length<N->YieldAt F m Tryz.prog l #[bBy x] W fun e W'=>
      (e= .returned (.bool true)/\J (pre++[x]) W'/\Below w0.heap.size W W')∨(e= .returned (.bool false)/\Jx (pre++[x]) W')) (t:Tr):
    ∀ (n :Nat) (v:Value) (pre:List E) (W:World),aF w0 v t->Below w0.heap.size w0 W->J pre W->pre.length+t.toL.length<=N->
      CallsIn F n Tryz.prog 161 #[v,.func (.yield l) #[] #[]] W fun e W'=>
        (e= .returned (.bool true)/\J (pre++t.toL) W'/\Below w0.heap.size W W')∨(e= .returned (.bool false)/\ ∃q,q <+: t.toL/\Jx (pre++q) W'):=by
  have hd:F.depth=none:=by rw[hF];rfl
  have hf:F.fn 161:=by rw[hF];exact trivial
  have hro:F.round=none:=by rw[hF];rfl
  have HFF:=hid hF;clear hF
  induction t with
  | nil=>
    intro n v pre W ht _ hJ _;have hF:=HFF.o;subst hF;obtain rfl:v= .pointer none:=ht;refine callsIn_wide.2 ?_;go_enter Tryz.func161,Tryz.ntmps161;go_wp2_with fail;go_ret;exact .inl ⟨rfl,by simpa [Tr.toL]using hJ,Below.refl _ _⟩
  | node tl x tr ihl ihr=>
    intro n v pre W ht hB0 hJ hN;obtain⟨b,vl,vr,rfl,hn,hl,hr⟩:=ht;obtain⟨al,rfl⟩:=hl.form;obtain⟨ar,rfl⟩:=hr.form;have hdd:∀ k:Nat,(F.depth.isSome=true->1<=k):=fun k h=>by rw[hd]at h;cases h
    simp only[Tr.toL,List.length_append,List.length_cons]at hN;have z3:=hB0.keep hn.l;have hy2:∀ W1,J (pre++tl.toL) W1->Below w0.heap.size W W1->YieldAt F (n-1) Tryz.prog l #[bBy x] W1 fun e W2=>
        (e= .returned (.bool true)/\J (pre++tl.toL++[x]) W2/\Below w0.heap.size W W2/\W2.cell? ⟨b,4,none⟩=some (.pointer ar))∨(e= .returned (.bool false)/\Jx (pre++tl.toL++[x]) W2):=fun W1 hJ1 hb1=>
      YieldAt.mono (hY (n-1) _ x W1 hJ1 (hB0.trans hb1) (by simp;omega)) fun e W2 h=>h.elim
        (fun⟨he,hj,hb2⟩=> .inl ⟨he,hj,hb1.trans hb2,(hB0.trans (hb1.trans hb2)).keep hn.r⟩) .inr
    have ih1:=(ihl (n-1) (.pointer al) pre W hl hB0 hJ (by omega)).mono (R':=fun e W1=>
        (e = .returned (.bool true)/\W1.cell? ⟨b,0,none⟩=some (.int .i64 x.a)/\W1.cell? ⟨b,1,none⟩=some (.int .i64 x.n)/\W1.cell? ⟨b,2,none⟩=some (.int .i64 x.s)/\YieldAt F (n-1) Tryz.prog l #[bBy x] W1 fun e W2=>
          (e= .returned (.bool true)/\J (pre++tl.toL++[x]) W2/\Below w0.heap.size W W2/\W2.cell? ⟨b,4,none⟩=some (.pointer ar))∨(e= .returned (.bool false)/\Jx (pre++tl.toL++[x]) W2))∨
        (e= .returned (.bool false)/\ ∃q,q <+: tl.toL/\Jx (pre++q) W1))
      (fun e W1 h=>h.elim (fun⟨he,hj,hb1⟩=> .inl ⟨he,(hB0.trans hb1).keep hn.a,(hB0.trans hb1).keep hn.n,(hB0.trans hb1).keep hn.s,hy2 W1 hj hb1⟩) .inr)
    have IHR:=hid ihr;have HR:=hid hr;have HB0:=hid hB0;clear hy2 ihl ihr hr hn hl hB0;refine callsIn_of_wp Tryz.func161 rfl hf ?_ hro;simp only[Tryz.ntmps161,List.size_toArray,List.length_cons,List.length_nil,Nat.reduceAdd,Nat.reduceSub,Array.replicate_succ,Array.replicate_zero,List.push_toArray,List.append_toArray,List.nil_append,List.cons_append]
    gi_wp2_with (first
      |((try refine⟨hdd _,?_⟩);gi_at_call 161;refine ih1.mono ?_;clear ih1;rintro e W1 (⟨rfl,c0',c1',c2',fn,tmps,assign,body,hy,hR⟩|⟨rfl,q,hq,hx1⟩))
      |((try refine⟨hdd _,?_⟩);refine hR.mono ?_;clear hR;rintro e W2 (⟨rfl,hJ2,hb2,c2'⟩|⟨rfl,hx2⟩))
      |((try refine⟨hdd _,?_⟩);gi_at_call 161;refine(IHR.o (n-1) (.pointer ar) _ _ HR.o (HB0.o.trans hb2) hJ2 (by simp;omega)).mono ?_;rintro e W3 (⟨rfl,hJ3,hb3⟩|⟨rfl,q,hq,hx3⟩)))
    · go_ret;exact .inl ⟨rfl,by simpa [Tr.toL,List.append_assoc]using hJ3,hb2.trans hb3⟩
    · go_ret;obtain⟨r,hr'⟩:=hq;exact .inr ⟨rfl,tl.toL++x::q,⟨r,by simp[Tr.toL,<-hr']⟩,by simpa [List.append_assoc]using hx3⟩
    · go_ret;exact .inr ⟨rfl,tl.toL++[x],⟨tr.toL,by simp[Tr.toL]⟩,by simpa [List.append_assoc]using hx2⟩
    · refine⟨fun _ h=>(by cases h),?_⟩
      gi_wp2
      go_ret;exact .inr ⟨rfl,q,hq.trans (by simp[Tr.toL]),hx1⟩
theorem aXc (F:Fence) (hF:F=Fence.wide) (n l Bt:Nat) (w0:World) (a:Option Addr) (t:Tr) (J Jx:List E->World->Prop)
  (hY:∀ pre x W,J pre W->pre.length<t.toL.length->YieldAt F (n-1) Tryz.prog l #[bBy x] W fun e W'=>
   (e= .returned (.bool true)/\J (pre++[x]) W'/\Below w0.heap.size W W')∨(e= .returned (.bool false)/\Jx (pre++[x]) W'))
  (W:World) (hB:Below w0.heap.size w0 W) (hc:W.cell? ⟨Bt,0,none⟩=some (.pointer a)) (ht:aF w0 (.pointer a) t) (h0:J [] W):
  CallsIn F n Tryz.prog 160 #[.func (.yield l) #[] #[],.pointer (some ⟨Bt,0,none⟩)] W fun e W'=>(∃v,e= .returned v)/\
   ((∃ys,ys=t.toL/\J ys W')∨(∃pre,pre <+: t.toL/\Jx pre W')):=by
 have hd:F.depth=none:=by rw[hF];rfl
 have hf:F.fn 160:=by rw[hF];exact trivial
 have hro:F.round=none:=by rw[hF];rfl
 have hdd:∀ k:Nat,(F.depth.isSome=true->1<=k):=fun k h=>by rw[hd]at h;cases h
 have hp:=aTc F hF l w0 t.toL.length J Jx (fun m pre x W hj _ hl=>aNz hd m (hY pre x W hj hl)) t (n-1) (.pointer a) [] W ht hB h0 (by simp);have hfw:F.fn 161:=by rw[hF];exact trivial
 clear hY hF;refine callsIn_of_wp Tryz.func160 rfl hf ?_ hro;simp only[Tryz.ntmps160,List.size_toArray,List.length_cons,List.length_nil,Nat.reduceAdd,Nat.reduceSub,Array.replicate_succ,Array.replicate_zero,List.push_toArray,List.append_toArray,List.nil_append,List.cons_append]
 gi_wp2_with ((try refine⟨hdd _,?_⟩);gi_at_call 161;refine hp.mono ?_;clear hp;rintro e W1 (⟨rfl,hJ1,_⟩|⟨rfl,q,hq,hx⟩))
 ·go_end0
  exact⟨⟨_,rfl⟩,.inl ⟨_,rfl,by simpa using hJ1⟩⟩
 ·go_end0
  exact⟨⟨_,rfl⟩,.inr ⟨q,hq,by simpa using hx⟩⟩
theorem all_stops (F:Fence) (hF:F=Fence.wide) (n Bt:Nat) (a:Option Addr) (t:Tr) (w:World) (hBt:Bt<w.heap.size) (hc:w.cell? ⟨Bt,0,none⟩=some (.pointer a)) (ht:aF w (.pointer a) t):
  SeqStopsK F n Tryz.prog 160 #[.pointer (some ⟨Bt,0,none⟩)] (fun x:E=> #[bBy x]) (Below w.heap.size) (fun ys=>ys=t.toL) (fun pre=>pre <+: t.toL) t.toL.length w:=fun l J Jx W hW _ _ hY h0=>
 aXc F hF n l Bt w a t J Jx hY W hW ((hW.cell (p:=⟨Bt,0,none⟩) hBt).trans hc) ht h0
theorem bLp (a:Option Addr) (w:World):Calls Tryz.prog 119 #[.agg #[.pointer a]] w fun e w'=>e= .returned (.func (.func 160) #[] #[.pointer (some ⟨w.heap.size,0,none⟩)])/\w'=w.alloc (.cells #[.pointer a] 137):=by
 go_enter Tryz.func119,Tryz.ntmps119;go_wp2;go_ret;exact⟨rfl,rfl⟩
theorem aWt {Bx:Nat} {cs:Array Value} {e:TypeId} {fr:Nat × Nat} {X Y:World} {row:Option Nat} (h:X.heap[Bx]? =some (.cells cs e fr)) (hg:X.grownBy Y row) (hr:∀ r,row=some r-> ∃o:Obj,X.heap[r]? =some o/\o.isCells=false):Y.heap[Bx]? =some (.cells cs e fr):=by
 refine(hg.block Bx (Array.getElem?_eq_some_iff.1 h).1 fun e'=> ?_).trans h;obtain⟨o,ho,hc⟩:=hr Bx e'.symm;rw[h]at ho;cases ho;cases hc
theorem appendSeq_in (F:Fence) (hF:F=Fence.wide) (n:Nat) (hn:3<=n) (Bt:Nat) (a:Option Addr) (t:Tr) (w:World) (hBt:Bt<w.heap.size) (hc:w.cell? ⟨Bt,0,none⟩=some (.pointer a)) (ht:aF w (.pointer a) t) (hlen:t.toL.length<=1000000000):
  CallsIn F n Tryz.prog 159 #[.slice none 0 0,.func (.func 160) #[] #[.pointer (some ⟨Bt,0,none⟩)]] w fun e w'=>∃ sv,e= .returned sv/\aG w' w.heap.size sv t.toL/\Below w.heap.size w w':=by
 have hf:F.fn 159:=by rw[hF];exact trivial
 have hfa:F.fn 160:=by rw[hF];exact trivial
 have hro:F.round=none:=by rw[hF];rfl
 have HF:=hid hF;clear hF;have h1:1<=n:=by omega
 obtain⟨i0,hi,hz0,hz1,hz2⟩:=info_parts kV;refine callsIn_of_wp_marks Tryz.func159 rfl hf ?_ hro;simp only[Tryz.ntmps159,List.size_toArray,List.length_cons,List.length_nil,Nat.reduceAdd,Nat.reduceSub,Array.replicate_succ,Array.replicate_zero,List.push_toArray,List.append_toArray,List.nil_append,List.cons_append]
 gi_wp2
 have bO:=Boxed.new w 76 (.slice none 0 0);have hB0:Below w.heap.size w (w.alloc (.cells #[.slice none 0 0] 76)):=(Below.refl _ w).alloc (Nat.le_refl _) _;refine wpIn_rangeFunc_ownH hro h1 (gf:=160) (lb:= #[.pointer (some ⟨Bt,0,none⟩)]) rfl hfa (enters_of Tryz.func160 (by kernel_rfl) rfl)
  (all_stops F HF.o (n-1) Bt a t w hBt hc ht) belowK_t (belowK_b (by simp)) hB0 (fun _=>rfl)
  (fun pre W=>(∃v,Boxed W w.heap.size 76 v/\W.ownsRow w.heap.size 81 3 v pre.length (bH pre)/\True)/\Below w.heap.size w W)
  (fun _ _ _=>False)
  (OwnFrom.and (Own.from (holdsRow_own w.heap.size w.heap.size 76 81 3 (fun pre=>List.length pre) (fun pre=>bH pre) (fun _ _=>True)) _) (ownFrom_below (Nat.le_refl _) (by simp)))
  (fun _ _ _ _ _ hs _ _=>hs)
  ⟨⟨_,bO,World.ownsRow_nil _ _ _ _,trivial⟩,hB0⟩
  (fun x a' W=>∃ Bx,w.heap.size<Bx/\W.heap[Bx]? =some (.cells #[.int .i64 x.a,.int .i64 x.n,.int .i64 x.s] 81 (0,0))/\a'= {tmps:= #[.slice none 0 0,.func (.func 160) #[] #[.pointer (some ⟨Bt,0,none⟩)],.pointer (some ⟨w.heap.size,0,none⟩),undef,.slice none 0 0,.pointer (some ⟨Bx,0,none⟩),.func (.func 160) #[] #[.pointer (some ⟨Bt,0,none⟩)],bBy x,undef,undef,undef,undef,undef],defers:=[]})
  (fun x a' _ X Y row hs hg hr=>by obtain⟨Bx,h1,h2,h3⟩:=hs;exact⟨Bx,h1,aWt h2 hg (fun r e=>(hr r e).2),h3⟩)
  ?assign ?body ?done ?stop
 case assign=>
  rintro l pre x W K ⟨⟨v,hv,hrow,_⟩,hB⟩ hK
  gi_wp2
  exact hK _ _ ((KeepsOthers.alloc _ _).from _) ((Below.refl _ W).alloc hB.size _) ⟨⟨v,hv.alloc _,World.ownsRow.alloc hrow _,trivial⟩,hB.alloc hB.size _⟩ ⟨W.heap.size,hv.lt,World.alloc_heap_new W _,rfl⟩
 case body=>
  rintro l pre x a' W hl ⟨r,hr⟩ ⟨⟨v,hv,hrow,_⟩,hB⟩ ⟨Bx,hBx,hX,rfl⟩ hlt;have hc0:=hv.cell;have x0:W.cell? ⟨Bx,0,none⟩=some (.int .i64 x.a):=by simp[World.cell?,hX]
  have x1:W.cell? ⟨Bx,1,none⟩=some (.int .i64 x.n):=by simp[World.cell?,hX]
  have x2:W.cell? ⟨Bx,2,none⟩=some (.int .i64 x.s):=by simp[World.cell?,hX]
  have HHX:=hid hX;have hsz:=hB.size;clear hX hr
  gi_wp2_with (gi_at_builtin;refine wpListIn_append_own _ rfl _ _ 76 rfl w.heap.size 81 i0 (.agg #[.int .i64 0,.int .i64 0,.int .i64 0]) 3 24 Tryz.underlying76 hi hz0 hz1 hz2 rfl (by decide) _ _ _ rfl (World.ownsRow.alloc hrow _) ⟨W.heap.size,0,none⟩ 1 1 (E.cells x) rfl rfl (rF _ _ rfl _ _) (bX _) (by simp only[maxLen];omega) (by omega) (by have:=hB.size;simp;omega) ?_;intro v' w1 hown' hgrow _;obtain⟨g',cap',rfl⟩:=ownsRow_succ hown';obtain⟨hv1,hv2,hr2,hk2,hb2⟩:=hv.appended (by decide) hrow hB.size (Nat.le_refl _) hown' hgrow;have hc1:=hv1.cell;have hf1:=hv1.frozen)
  exact⟨hk2.from _,hb2,⟨_,hv2,aG.snoc hr2 rfl,trivial⟩,hB.trans hb2⟩
 case done=>
  rintro D ys W hD rfl ⟨⟨v,hv,hrow,_⟩,hB⟩ hK;have hc1:=hv.cell
  gi_wp2
  refine⟨by simp,.inl ⟨_,_,rfl,run_takeDeferred hK,?_⟩⟩;exact⟨_,results_tmp rfl _ _ _,v,rfl,ownsRow_putObj hrow _ hK rfl,hB.trans (belowK_b (w:=w) (Nat.le_refl _) W D _ _ (by simp at hD;omega) hK rfl rfl)⟩
 case stop=>
  rintro D c pre W _ _ h _;exact h.elim
theorem aWk (Bt:Nat) (a:Option Addr) (t:Tr) (w:World) (hBt:Bt<w.heap.size) (hc:w.cell? ⟨Bt,0,none⟩=some (.pointer a)) (ht:aF w (.pointer a) t) (hlen:t.toL.length<=1000000000):
  Calls Tryz.prog 118 #[.func (.func 160) #[] #[.pointer (some ⟨Bt,0,none⟩)]] w fun e w'=>∃ sv,e= .returned sv/\aG w' w.heap.size sv t.toL/\Below w.heap.size w w':=by
 have hA:=callsIn_wide.1 (appendSeq_in Fence.wide rfl 6 (by omega) Bt a t w hBt hc ht hlen);clear hc ht;go_enter Tryz.func118,Tryz.ntmps118;go_wp2_with fail;refine hA.mono ?_;rintro e w1 ⟨sv,rfl,ho,hb⟩;obtain⟨sa,sc,rfl,_⟩:=ho.rd (by omega);have HO:=hid ho;have HB:=hid hb;clear ho hb;go_wp2_with fail;go_ret;exact⟨_,rfl,HO.o,HB.o⟩
theorem zD (n r:Int) (a:Option Addr) (t:Tr) (w:World) (ht:aF w (.pointer a) t) (hlen:t.toL.length<=1000000000):
  Calls Tryz.prog 61 #[.agg #[.int .i64 n,.int .i64 r,.pointer a]] w fun e w'=>∃ sv,e= .returned sv/\aG w' w.heap.size sv t.toL/\Below w.heap.size w w':=by
 have HT:=hid ht;clear ht;go_enter Tryz.func61,Tryz.ntmps61;go_wp2_with fail;refine(bLp a _).mono ?_;rintro e w1 ⟨rfl,rfl⟩;have hb:Below w.heap.size w ((w.alloc (.cells #[.int .i64 n,.int .i64 r,.pointer a] 139)).alloc (.cells #[.pointer a] 137)):=by(repeat(first|exact Below.refl _ _|assumption|refine Below.bMt ?_ _|refine Below.bMq ?_ _|refine Below.setCell ?_ (by simp) _|refine Below.drew ?_))
 have HB:=hid hb;clear hb;go_wp2_with fail;refine(aWk (w.heap.size+1) a t _ (by simp) (by rw[World.cell?_alloc_at (hn:=by simp)];rfl) (aF.keep HB.o t HT.o) hlen).mono ?_;rintro e w2 ⟨sv,rfl,ho,hb2⟩;obtain⟨sa,sc,rfl,_⟩:=ho.rd (by omega);have HO:=hid ho;have HB2:=hid (HB.o.on hb2);clear ho hb2;go_wp2_with fail;go_ret;exact⟨_,rfl,aG.mono HO.o (by simp;omega),HB2.o⟩
open Go.RowKit Go.Maps
def pM (v:Value):Option (DataW Value × List MemPlace):=some (.held v,[])
theorem sS (v:Value):pM v=some (.held v,[]):=rfl
abbrev nmV (nm:List UInt8):Value:= .string ⟨nm.toArray⟩
structure VT where
 nm:List UInt8
 n:Int
 r:Int
 a:Option Addr
 t:Tr
def VT.vol (p:VT):Vol:=⟨p.nm,p.n,p.r,p.t.toL⟩
abbrev VT.val (p:VT):Value:= .agg #[.int .i64 p.n,.int .i64 p.r,.pointer p.a]
def VT.ent (p:VT):Lit × DataW Value:=(.string p.nm,.held p.val)
def jS (ts:List VT):DataW Value:= .map (ts.map VT.ent)
def aEe (v:VT):List VT->List VT
 | []=>[v]
 |w::r=>if bytesBefore v.nm w.nm then v::w::r else w::aEe v r
def aAw (ts:List VT) (nm:List UInt8):List VT:=ts.filter fun w=> !(w.nm==nm)
def nN (ts:List VT) (nm:List UInt8):Option VT:=ts.find? fun w=>w.nm==nm
theorem bFk (v:VT) (ts:List VT):(aEe v ts).map VT.vol=pX v.vol (ts.map VT.vol):=by
 induction ts with
 |nil=>rfl
 | cons w r ih=>
  have h:(bytesBefore v.vol.nm w.vol.nm)=bytesBefore v.nm w.nm:=rfl;unfold aEe;rw[List.map_cons];unfold pX;rw[h];by_cases hb:bytesBefore v.nm w.nm=true
  ·rw[if_pos hb,if_pos hb];rfl
  ·rw[if_neg hb,if_neg hb,List.map_cons,ih]
theorem aRy (ts:List VT) (nm:List UInt8):(aAw ts nm).map VT.vol=bP (ts.map VT.vol) nm:=by
 unfold aAw bP;rw[List.filter_map];rfl
theorem oL (ts:List VT) (nm:List UInt8):aP (ts.map VT.vol) nm=(nN ts nm).map VT.vol:=by
 unfold aP nN;rw[List.find?_map];rfl
theorem bJd (v:VT) (ts:List VT):DataW.insert v.ent (ts.map VT.ent)=(aEe v ts).map VT.ent:=by
 induction ts with
 |nil=>rfl
 | cons w r ih=>
  have h:v.ent.1.before w.ent.1=bytesBefore v.nm w.nm:=rfl;rw[List.map_cons];unfold DataW.insert aEe;rw[h];by_cases hb:bytesBefore v.nm w.nm=true
  ·rw[if_pos hb,if_pos hb];rfl
  ·rw[if_neg hb,if_neg hb,ih];rfl
theorem bJf (ts:List VT) (nm:List UInt8):(jS ts).del (.string nm)=jS (aAw ts nm):=by
 show DataW.map ((ts.map VT.ent).filter fun p=> !p.1.sameKey (.string nm))= .map ((aAw ts nm).map VT.ent);unfold aAw;rw[List.filter_map];rfl
theorem bJc (ts:List VT) (p:VT):(jS ts).put (.string p.nm) (.held p.val)=jS (aEe p (aAw ts p.nm)):=by
 show DataW.map (DataW.insert (.string p.nm,.held p.val) ((ts.map VT.ent).filter fun q=> !q.1.sameKey (.string p.nm)))=_;have:((ts.map VT.ent).filter fun q=> !q.1.sameKey (.string p.nm))=(aAw ts p.nm).map VT.ent:=by
  unfold aAw;rw[List.filter_map];rfl
 rw[this];exact congrArg DataW.map (bJd p _)
theorem bJe (ts:List VT) (nm:List UInt8):Maps.has (jS ts) (.string nm)=(nN ts nm).isSome:=by
 show(ts.map VT.ent).any (fun p=>p.1.sameKey (.string nm))=_;unfold nN
 induction ts with
 |nil=>rfl
 | cons w r ih=>
  rw[List.map_cons,List.any_cons,ih];have h:w.ent.1.sameKey (.string nm)=(w.nm==nm):=rfl;rw[h];cases hw:(w.nm==nm)
  ·rw[List.find?_cons_of_neg (by simp[hw])];simp
  ·rw[List.find?_cons_of_pos (by simpa using hw)];simp
theorem bLm (ts:List VT) (nm:List UInt8) (z:Value):(jS ts).atKey (.string nm) (.held z)= .held (match nN ts nm with|some p=>p.val|none=>z):=by
 have h0:(jS ts).atKey (.string nm) (.held z)=(((ts.map VT.ent).find? (fun p=>p.1.sameKey (.string nm))).map Prod.snd).getD (.held z):=by
  unfold jS DataW.atKey;simp only;generalize (ts.map VT.ent).find? (fun p=>p.1.sameKey (.string nm))=o;cases o <;> rfl
 rw[h0];unfold nN;rw[List.find?_map];have h:((fun p:Lit × DataW Value=>p.1.sameKey (.string nm)) ∘ VT.ent)=fun w:VT=>w.nm==nm:=rfl;rw[h];cases ts.find? fun w=>w.nm==nm <;> rfl
theorem mF {ts:List VT} {nm:List UInt8} {p:VT} (h:nN ts nm=some p):p∈ts/\p.nm=nm:=⟨List.mem_of_find?_eq_some h,by simpa using List.find?_some h⟩
theorem bFc {v x:VT} {ts:List VT}:x∈aEe v ts↔x=v∨x∈ts:=by
 induction ts with
 |nil=>simp[aEe]
 | cons w r ih=>
  unfold aEe
  split
  ·simp
  ·simp only[List.mem_cons,ih]
   constructor
   ·rintro(h|h|h)
    ·exact .inr (.inl h)
    ·exact .inl h
    ·exact .inr (.inr h)
   ·rintro(h|h|h)
    ·exact .inr (.inl h)
    ·exact .inl h
    ·exact .inr (.inr h)
theorem aQk {x:VT} {ts:List VT} {nm:List UInt8}:x∈aAw ts nm↔x∈ts/\x.nm≠nm:=by simp[aAw]
abbrev aAm (w:World) (b:Nat) (ts:List VT):Prop:=w.ownsMap Tryz.prog 9 pM b ts.length (jS ts)
theorem aKo {w:World} {b n:Nat} {ts:List VT} (h:w.ownsMap Tryz.prog 9 pM b n (jS ts)):aAm w b ts:=by
 obtain⟨es,clock,hb,F,hs,hD⟩:=h;refine⟨es,clock,hb,F,?_,hD⟩;have h1:=congrArg Maps.size hD;rw[Maps.size_eq]at h1;have h2:Maps.size (jS ts)=ts.length:=by show(ts.map VT.ent).length=_;simp
 rw[h2,length_sorted]at h1;simp at h1;omega
theorem aBz {w w':World} {b:Nat} {ts:List VT} (h:aAm w b ts) (hb:Below w.heap.size w w'):aAm w' b ts:=
 h.kept (row:=none) ⟨hb.os,hb.tape,hb.output,hb.size,fun k hk _=>hb.block k hk⟩ (by simp)
def RdT (w:World) (mb:Option Nat) (ts:List VT):Prop:=(∀p∈ts,aF w (.pointer p.a) p.t)/\((mb=none/\ts=[])∨ ∃b,mb=some b/\aAm w b ts)
theorem RdT.keep {w w':World} (hb:Below w.heap.size w w') {mb:Option Nat} {ts:List VT} (h:RdT w mb ts):RdT w' mb ts:=
 ⟨fun p hp=>aF.keep hb p.t (h.1 p hp),h.2.elim .inl fun⟨b,h1,h2⟩=> .inr ⟨b,h1,aBz h2 hb⟩⟩
def RdV (w:World) (mb:Option Nat) (vs:List Vol):Prop:= ∃ts:List VT,ts.map VT.vol=vs/\RdT w mb ts
theorem RdV.keep {w w':World} (hb:Below w.heap.size w w') {mb:Option Nat} {vs:List Vol} (h:RdV w mb vs):RdV w' mb vs:=by
 obtain⟨ts,h1,h2⟩:=h;exact⟨ts,h1,h2.keep hb⟩
def bA (w:World) (v:Value) (F:Fam):Prop:= ∃a c mb,v= .agg #[.slice a F.N c,.map mb]/\RdI w a F.C/\RdV w mb F.vs
theorem bA.keep {w w':World} (hb:Below w.heap.size w w') {v:Value} {F:Fam} (h:bA w v F):bA w' v F:=by
 obtain⟨a,c,mb,h1,h2,h3⟩:=h;exact⟨a,c,mb,h1,h2.keep hb,h3.keep hb⟩
theorem bA.zero (w:World):bA w (.agg #[.slice none 0 0,.map none]) dR:=
 ⟨none,0,none,rfl,by simp[RdI,dR,Fam.C,sW],[],rfl,by simp,.inl ⟨rfl,rfl⟩⟩
theorem vD:Keyed Tryz.prog 9:=string_keyed Tryz.underlying9
theorem aQf {nm:List UInt8} (h:nm.length<=maxLen):keyOf Tryz.prog 9 (nmV nm)=some (.string nm):=by
 have:=WideMaps.keyOf_string_mk (k:=9) Tryz.underlying9 (s:=⟨nm.toArray⟩) (by simpa [ByteArray.size]using h)
 simpa using this
theorem aXf (w:World):(zeroValue 139).run Tryz.prog w= .ok (.agg #[.int .i64 0,.int .i64 0,.pointer none]) w:=by kernel_rfl
def aDr (ts:List VT) (nm:List UInt8):Value × Bool:=match nN ts nm with
 |some p=>(p.val,true)
 |none=>(.agg #[.int .i64 0,.int .i64 0,.pointer none],false)
theorem aAn {w:World} {mb:Option Nat} {ts:List VT} (h:RdT w mb ts) {nm:List UInt8} (hn:nm.length<=maxLen):
  (Instr.lookup 44 (.map mb) (nmV nm) true).run Tryz.prog w= .ok (.tuple #[(aDr ts nm).1,.bool (aDr ts nm).2]) w:=by
 rcases h.2 with ⟨rfl,rfl⟩|⟨b,rfl,hm⟩
 ·have:=look_nil (P:=Tryz.prog) (w:=w) true vD Tryz.underlying44 (aXf w) (aQf hn)
  simpa [aDr,nN]using this
 ·obtain⟨v,ps,hrun,hv⟩:=hm.look_ok vD Tryz.underlying44 (aXf w) (sS _) (aQf hn);rw[bLm,sS]at hv;simp only[Option.some.injEq,Prod.mk.injEq,DataW.held.injEq]at hv;rw[hrun,bJe,hv.1];unfold aDr;cases nN ts nm <;> rfl
theorem bIr {w:World} {mb:Option Nat} {ts:List VT} (h:RdT w mb ts) (ty:TypeId):(Builtin.len_ #[44] ty #[.map mb]).run Tryz.prog w= .ok (.int .i64 ts.length) w:=by
 rcases h.2 with ⟨rfl,rfl⟩|⟨b,rfl,hm⟩
 ·exact len_nil Tryz.underlying44 ty
 ·have:=hm.len Tryz.underlying44 ty;rw[this];have h2:Maps.size (jS ts)=ts.length:=by show(ts.map VT.ent).length=_;simp
  rw[h2]
theorem uA {ts:List VT} {nm:List UInt8} {p:VT} (h:nN ts nm=some p):aDr ts nm=(p.val,true):=by simp[aDr,h]
theorem uB {ts:List VT} {nm:List UInt8} (h:nN ts nm=none):aDr ts nm=(.agg #[.int .i64 0,.int .i64 0,.pointer none],false):=by simp[aDr,h]
structure RF (w W:World) (R:Nat):Prop where
 r0:W.cell? ⟨R,0,none⟩=some (.slice none 0 0)
 r1:W.cell? ⟨R,1,none⟩=some (.map none)
 f0:W.frozen? ⟨R,0,none⟩=false
 f1:W.frozen? ⟨R,1,none⟩=false
 r2:∀ i,2<=i->W.cell? ⟨R,i,none⟩=none
 le:w.heap.size<=R
 bel:Below w.heap.size w W
theorem RF.lt {w W:World} {R:Nat} (h:RF w W R):R<W.heap.size:=World.block_lt_of_cell? W ⟨R,0,none⟩ h.r0
theorem RF.later {w W W':World} {R:Nat} (h:RF w W R) (hb:Below W.heap.size W W'):RF w W' R:=
 ⟨hb.keep h.r0,hb.keep h.r1,hb.bMw h.r0 h.f0,hb.bMw h.r1 h.f1,fun i hi=>(hb.cell (p:=⟨R,i,none⟩) h.lt).trans (h.r2 i hi),h.le,h.bel.on hb⟩
theorem RF.new (w W:World) (t:TypeId) (h:Below w.heap.size w W):RF w (W.alloc (.cells #[.slice none 0 0,.map none] t)) W.heap.size:=by
 refine⟨by simp,by simp,by simp,by simp,fun i hi=> ?_,h.size,h.bMq _⟩;rw[World.cell?_alloc_new];simp;omega
abbrev dN (W:World) (R:Nat) (u v:Value):World:=(W.setCell ⟨R,0,none⟩ u).setCell ⟨R,1,none⟩ v
theorem cO {W:World} {R:Nat} {u v:Value} {x:Addr} (h:x.block≠R):(dN W R u v).cell? x=W.cell? x:=by
 rw[cell_far (by simpa using h),cell_far (by simpa using h)]
theorem aCk {W:World} {R:Nat} {u v:Value} {k:Nat} (h:k≠R):(dN W R u v).heap[k]? =W.heap[k]? :=by
 rw[RowKit.Below.heap_setCell _ _ _ _ (by simpa using h),RowKit.Below.heap_setCell _ _ _ _ (by simpa using h)]
section
variable {w W:World} {R:Nat} (h:RF w W R) {u v:Value}
include h
theorem RF.cells:(dN W R u v).cell? ⟨R,0,none⟩=some u/\(dN W R u v).cell? ⟨R,1,none⟩=some v:=by
 constructor
 ·rw[World.cell?_setCell_other _ _ _ _ (by simp),World.cell?_setCell_same _ _ _ h.r0]
 ·rw[World.cell?_setCell_same (u:= .map none)];rw[World.cell?_setCell_other _ _ _ _ (by simp),h.r1]
theorem RF.below:Below w.heap.size w (dN W R u v):=(h.bel.setCell h.le _).setCell h.le _
theorem RF.tree (t:Tr) {p:Value} (ht:aF W p t):aF (dN W R u v) p t:=
 aF.away (iE (by decide) (h.r2 7 (by omega))) t (aF.away (h.r2 7 (by omega)) t ht)
theorem RF.ints {a:Option Addr} {C:List Int} (hr:RdI W a C):RdI (dN W R u v) a C:=by
 refine⟨hr.1,hr.2.elim .inl fun⟨b,o,ha,ht,hc⟩=> ?_⟩;by_cases h0:C=[]
 ·exact .inl h0
 ·refine .inr ⟨b,o,ha,(ht.set _ _).set _ _,fun k x hk=> ?_⟩;have hne:b≠R:=fun e=>by
   subst e;have h1:=hc k x hk;by_cases h2:2<=o+k
   ·rw[h.r2 _ h2]at h1;cases h1
   ·by_cases h3:o+k=0
    ·rw[h3,h.r0]at h1;cases h1
    ·rw[show o+k=1 by omega,h.r1]at h1;cases h1
  rw[cO hne];exact hc k x hk
theorem RF.map {b:Nat} {ts:List VT} (hm:aAm W b ts):aAm (dN W R u v) b ts:=by
 obtain ⟨es,clock,hb,r⟩:=hm;have hne:b≠R:=fun e=>by
  subst e;have:=h.r0;simp[World.cell?,hb]at this
 exact⟨es,clock,(aCk hne).trans hb,r⟩
theorem RF.fam {fv:Value} {F:Fam} (hf:bA W fv F):bA (dN W R u v) fv F:=by
 obtain⟨a,c,mb,h1,h2,ts,h3,h4,h5⟩:=hf;exact⟨a,c,mb,h1,h.ints h2,ts,h3,fun p hp=>h.tree p.t (h4 p hp),h5.elim .inl fun⟨b,q1,q2⟩=> .inr ⟨b,q1,h.map q2⟩⟩
end
theorem mH {W:World} {R:Nat} {u v:Value} {B:Nat} {sv:Value} {l:List E} (ho:aG W B sv l) (hB:R<B):aG (dN W R u v) B sv l:=by
 have hne:sv.ownBlock≠some R:=fun e=>by have:=(ho.lt R e).1;omega
 exact aG.far (aG.far ho ⟨R,0,none⟩ u hne) ⟨R,1,none⟩ v hne
open Go.RowKit Go.Maps
structure Bx (W:World) (T:Nat) (t:TypeId) (u v:Value):Prop where
 c0:W.cell? ⟨T,0,none⟩=some u
 c1:W.cell? ⟨T,1,none⟩=some v
 f0:W.frozen? ⟨T,0,none⟩=false
 f1:W.frozen? ⟨T,1,none⟩=false
 c2:∀ i,2<=i->W.cell? ⟨T,i,none⟩=none
 ty:pO W T t
section
variable {W W':World} {T R:Nat} {t:TypeId} {u v x y:Value}
theorem Bx.lt (h:Bx W T t u v):T<W.heap.size:=World.block_lt_of_cell? W ⟨T,0,none⟩ h.c0
theorem Bx.later (h:Bx W T t u v) (hb:Below W.heap.size W W'):Bx W' T t u v:=
 ⟨hb.keep h.c0,hb.keep h.c1,hb.bMw h.c0 h.f0,hb.bMw h.c1 h.f1,fun i hi=>(hb.cell (p:=⟨T,i,none⟩) h.lt).trans (h.c2 i hi),h.ty.keep hb⟩
theorem Bx.new (V:World) (B:Nat) (hB:V.heap.size=B) (x y:Value) (t:TypeId):Bx (V.alloc (.cells #[x,y] t)) B t x y:=by
 subst hB;refine⟨by simp,by simp,by simp,by simp,fun i hi=> ?_,_,_,Array.getElem?_push_size⟩;rw[World.cell?_alloc_new];simp;omega
theorem Bx.put (h:Bx W T t u v) (x y:Value):Bx (dN W T x y) T t x y:=by
 refine⟨?_,?_,by rw[World.frozen?_setCell,World.frozen?_setCell];exact h.f0,by rw[World.frozen?_setCell,World.frozen?_setCell];exact h.f1,fun i hi=> ?_,(h.ty.set _ _).set _ _⟩
 ·rw[World.cell?_setCell_other _ _ _ _ (by simp)];exact World.cell?_setCell_same _ _ _ h.c0
 ·refine World.cell?_setCell_same (u:=v) _ _ _ ?_;rw[World.cell?_setCell_other _ _ _ _ (by simp)];exact h.c1
 ·exact iE (by omega) (iE (by omega) (h.c2 i hi))
theorem Bx.far (h:Bx W T t u v) (hne:T≠R) (x y:Value):Bx (dN W R x y) T t u v:=by
 refine⟨(cO hne).trans h.c0,(cO hne).trans h.c1,by rw[World.frozen?_setCell,World.frozen?_setCell];exact h.f0,by rw[World.frozen?_setCell,World.frozen?_setCell];exact h.f1,fun i hi=>(cO hne).trans (h.c2 i hi),(h.ty.set _ _).set _ _⟩
theorem Bx.famV (h:Bx W T t u v) (ht:3≠t) {fv:Value} {F:Fam} (hf:bA W fv F):bA (dN W T x y) fv F:=by
 obtain ⟨a,c,mb,h1,h2,ts,h3,h4,h5⟩:=hf;refine⟨a,c,mb,h1,⟨h2.1,h2.2.imp id fun⟨b,o,ha,hy,hc⟩=>⟨b,o,ha,(hy.set _ _).set _ _,fun k z hk=>(cO (hy.ne h.ty ht)).trans (hc k z hk)⟩⟩,ts,h3,fun p hp=>aF.away (iE (by decide) (h.c2 7 (by omega))) p.t (aF.away (h.c2 7 (by omega)) p.t (h4 p hp)),h5.elim .inl fun⟨b,q1,q2⟩=> .inr ⟨b,q1,?_⟩⟩;obtain⟨es,clock,hb,r⟩:=q2;have hne:b≠T:=fun e=>by
  subst e;have:=h.c0;simp[World.cell?,hb]at this
 exact⟨es,clock,(aCk hne).trans hb,r⟩
theorem Bx.rd (h:Bx W T t u v) {a:Option Addr} {l:List E} (hr:Rd W a l):Rd (dN W T x y) a l:=by
 refine ⟨hr.1,hr.2.imp id fun⟨b,o,ha,hat⟩=>⟨b,o,ha,fun k z hk=> ?_⟩⟩;have q:=hat k z hk;have hne:b≠T:=fun e=>by
  subst e;have h1:=q.s;rw[h.c2 _ (by omega)]at h1;cases h1
 exact⟨(cO hne).trans q.a,(cO hne).trans q.n,(cO hne).trans q.s⟩
end
theorem Bx.grown {W W':World} {T:Nat} {t:TypeId} {u v:Value} {row:Option Nat} (h:Bx W T t u v) (hg:W.grownBy W' row) (hne:row≠some T):Bx W' T t u v:=by
 have hb:=hg.block T h.lt (fun e=>hne e.symm);have hc:∀ i,W'.cell? ⟨T,i,none⟩=W.cell? ⟨T,i,none⟩:=fun i=>World.cell?_of_block hb;have hf:∀ i,W'.frozen? ⟨T,i,none⟩=W.frozen? ⟨T,i,none⟩:=fun i=>World.frozen?_of_block hb;obtain⟨cs,s,hs⟩:=h.ty;exact⟨(hc 0).trans h.c0,(hc 1).trans h.c1,(hf 0).trans h.f0,(hf 1).trans h.f1,fun i hi=>(hc i).trans (h.c2 i hi),cs,s,hb.trans hs⟩
end Go.Proofs.YtaiklhbakldfhaaGreat
