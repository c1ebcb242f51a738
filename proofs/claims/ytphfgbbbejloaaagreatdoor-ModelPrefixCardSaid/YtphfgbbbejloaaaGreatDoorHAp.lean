/- package extree: Cut, Range, Find, Blocks. Conditions: as each theorem says. -/
import Derived.Test.YtphfgbbbejloaaaGreatDoorFaD
import Derived.RangeFuncNested
import Derived.RangeFuncBound
import Derived.Shelf.Abstract
import Derived.OwnWalkIn
import Derived.TacticsInMore
import Derived.LoopNIn
import Derived.LoopIn
import Derived.Test.YtphfgbbbejloaaaGreatDoorGF
import Derived.Test.YtphfgbbbejloaaaGreatDoorGH
set_option linter.unusedSimpArgs false
set_option linter.unusedVariables false
set_option linter.unusedSectionVars false
set_option maxRecDepth 100000
set_option maxHeartbeats 16000000
namespace Go.Proofs.YtphfgbbbejloaaaGreatDoor
open Go.RowKit Go.Maps
open Go.Proofs.Tryz
theorem aAl{P:Prop}(h:P:=by first|omega|(simp;omega)):P:=h
theorem aFx{P:Prop}(h:P:=by first|(simp only[maxLen];omega)|(simp[maxLen];omega)):P:=h
theorem sh84{P:Prop}(h:P:=by
  go_wp2_with (at_builtin;refine aO _ rfl _ _ 26 rfl (w.heap.size+1+1+1+1) 54 i0 (.agg #[.string ⟨#[]⟩,oo,oo,sn]) 4 56 underlying26 hi hz0 hz1 hz2 rfl dE _ _ _ rfl (Qu HX.o.own _) ⟨_,0,none⟩ 1 1 (RT.cells x) rfl rfl ?c1 ?c2 aAl aFx ?c5 ?_)
  case c1=>
   intro j u hj
   match j,hj with
   |0,hj=>simp[RT.cells]at hj;subst hj;first|(simp[Addr.add];done)|exact(XH.fit _ _ sM x _).x0
   |1,hj=>simp[RT.cells]at hj;subst hj;first|(simp[Addr.add];done)|exact(XH.fit _ _ sM x _).x1
   |2,hj=>simp[RT.cells]at hj;subst hj;first|(simp[Addr.add];done)|exact(XH.fit _ _ sM x _).x2
   |3,hj=>simp[RT.cells]at hj;subst hj;first|(simp[Addr.add];done)|exact(XH.fit _ _ sM x _).x3
  case c2=>exact jS [x]
  case c5=>have:=HX.o.lt;simp only[World.size_alloc]at this ⊢;omega
  intro v'' w5 hown hg hw;have hP2:=HX.o.app hown sM hg (by simpa using hw);obtain⟨p2,pf2⟩:=HX.o.pre hg;obtain⟨vb,vd,hv9,_⟩:=hP2.own.rd pO;rw[show(out++[x]).length=out.length+1 by simp]at hv9;subst hv9;have HP2:=hD hP2;clear hP2 hown hg hw e0 e1 e2 e3;go_wp2;go_roundw
  case rel=>exact⟨k+1,_,oM,by go_num,by rw[HSR.o],by rw[HSR.o];exact HP2.o⟩
  case measure=>simp[intOf];omega
  ):P:=h
theorem sh85{P:Prop}(h:P:=by
  rw[List.map_cons];unfold qW;rw[h];by_cases hb:bytesBefore v.nm w.nm=true
  ·rw[Qf hb,Qf hb];rfl
  ·rw[Qe hb,Qe hb,List.map_cons,ih]
  ):P:=h
theorem sh86{P:Prop}(h:P:=by
  clear hx0;go_wp2;go_roundw
  case rel=>exact⟨k+1,oM,by go_num,by rw[HT.o];exact HO.o,HB.o⟩
  case measure=>simp[intOf];omega
  ):P:=h
theorem VO{P:Prop}(h:P:=by
  refine⟨sM,sM,sM,sM,λi hi=> ?_,h.size,h.aIw _⟩;rw[World.cell?_alloc_new];simp;omega
  ):P:=h
theorem VN{P:Prop}(h:P:=by
  exact⟨(gP hne).trans q.c0,(gP hne).trans q.c1,(gP hne).trans q.c2,(gP hne).trans q.c3⟩
  ):P:=h
theorem sh89{P:Prop}(h:P:=by
  exact⟨(gP hne).trans q.a,(gP hne).trans q.n,(gP hne).trans q.s⟩
  ):P:=h
theorem VM{P:Prop}(h:P:=by
  rw[Qk _ _ _ _ sM,Qi _ _ _ h.r0]
  ):P:=h
theorem Kl(p n:Int)(w:Wd)(hp: -9223372036854775808<=p/\p<=9223372036854775807)(hn: -9223372036854775808<=n/\n<=9223372036854775807):
  ep 200 #[p,n] w λe w'=>e= .returned (.bool (fA p n 65536))/\w=w':=by
 go_enter func200,ntmps200;go_wp2
 all_goals
  go_ret;exact⟨aU (by simp only[fA,Qc,Bool.false_eq_true,false_iff];omega),rfl⟩
theorem yN(p n:Int)(r:Bool)(w:Wd)(hr:fA p n 65536=r)(hp: -9223372036854775808<=p/\p<=9223372036854775807)(hn: -9223372036854775808<=n/\n<=9223372036854775807):
  ep 200 #[p,n] w λe w'=>e= .returned (.bool r)/\w=w':=by
 subst hr;exact Kl p n w hp hn
structure CSt(w W:Wd)(R:Nat):Prop where
 r0:W (cw R 0)=some (.pointer none)
 rf:W.frozen? (cw R 0)=false
 r7:W (cw R 7)=none
 le:w.heap.size<=R
 bel:Below w w W
theorem CSt.aIx{w W W':Wd}{R:Nat}(h:CSt w W R)(hb:Below W W W'):CSt w W' R:=
 ⟨hb.keep h.r0,hb.aJc h.r0 h.rf,(hb.cell (p:=(cw R 7)) (Qj W (cw R 0) h.r0)).trans h.r7,h.le,h.bel.on hb⟩
theorem Lh(l:List E)(p:Int):aI l p p=[]:=by
 refine List.map_eq_nil_iff.2 (List.filter_eq_nil_iff.2 λx _=> ?_);unfold bY;simp only[Qc];omega
theorem aBj(l:List E)(p:Int):inL l p 0=[]:=by rw[wG,Int.add_zero,Lh];rfl
def aHr(w:Wd)(e:Ending)(w':Wd):Prop:=e= .returned (.tuple #[.agg #[.pointer none],sn,ol])/\Below w w w'
theorem aCb(p n:Int)(v:Value)(w:Wd)(hv:∃a,v= .pointer a)(hw:fA p n 65536=false)(hp: -9223372036854775808<=p/\p<=9223372036854775807)(hn: -9223372036854775808<=n/\n<=9223372036854775807):
  ep 153 #[.agg #[v],p,n] w (aHr w):=by
 obtain⟨a,rfl⟩:=hv;have HW:=hD hw;clear hw;go_enter func153,ntmps153;go_wp2_with fail;refine(yN p n false _ HW.o hp hn).m ?_;rintro e w1 ⟨rfl,rfl⟩;go_wp2_with fail;refine br (.tuple #[.agg #[.pointer none],sn,ol]) ?_;exact⟨rfl,bL⟩
theorem Iu(t:Tr)(p n:Int)(v:Value)(w:Wd)(ht:aD w v t)(hv:aH t.toL=true)(hnm:fT t.toL=true)(hw:fA p n 65536=true):
  ep 153 #[.agg #[v],p,n] w (SA w (gD t.toL p n) (inL t.toL p n)):=by
 obtain⟨a,rfl⟩:=ht.form;obtain⟨c1,c2,c3,c4⟩:0<=p/\0<=n/\p<=65536/\n<=65536-p:=Qt hw;have HV:=hD hv;have HN:=hD hnm;have HW:=hD hw;have HT:=hD ht;clear hv hnm hw ht;by_cases h0:n=0
 ·subst h0;go_enter func153,ntmps153;go_wp2_with fail;refine(yN p 0 true _ HW.o oM oM).m ?_;rintro e w1 ⟨rfl,rfl⟩;go_wp2_with fail;refine br (.tuple #[.agg #[.pointer a],sn,oo]) ?_;have hB:Below w w ((w.alloc (cq #[.pointer a] 168)).alloc (cq #[.pointer a] 168)):=bL
  exact⟨_,t,_,rfl,aD.keep hB t HT.o,(Zq t.toL p HV.o HN.o).symm,by rw[aBj];exact aG.nil _ _,hB⟩
 ·go_enter func153,ntmps153;go_wp2_with fail;refine(yN p n true _ HW.o oM oM).m ?_;rintro e w1 ⟨rfl,rfl⟩;have hB:Below w w ((w.alloc (cq #[.pointer a] 168)).alloc (cq #[.pointer none] 168)):=bL
  have hC:CSt w ((w.alloc (cq #[.pointer a] 168)).alloc (cq #[.pointer none] 168)) (w.heap.size+1):=
   ⟨by rw[World.cell?_alloc_at (hn:=by simp)];rfl,by rw[World.frozen?_alloc_at (hn:=by simp)],by rw[World.cell?_alloc_at (hn:=by simp)];rfl,oM,hB⟩
  have HC:=hD hC;clear hB hC;go_wp2_with fail;have hsz:=nL HV.o;have hts:t.toL.length=t.size:=rfl;refine(tT p oM oM t (.pointer a) _ (aD.keep HC.o.bel t HT.o) ⟨aL HV.o,oM⟩ HV.o).m ?_;rintro e w2 ⟨va,vb,ta,tb,rfl,hta,htb,hA,hB,hb2⟩;obtain⟨aa,rfl⟩:=hta.form;obtain⟨ab,rfl⟩:=htb.form;have hpl:=bV t.toL p 65536;have hvb:aH tb.toL=true:=by rw[hB];exact gL _ _ _ HV.o
  have hbs:tb.size<=1000000:=by show tb.toL.length<=_;rw[hB];omega
  have HTA:=hD hta;have HTB:=hD htb;have HA:=hD hA;have HB:=hD hB;have HVB:=hD hvb;have HC:=hD (HC.o.aIx hb2);clear hb2 hta htb hA hB hpl hvb;go_wp2_with fail;refine(tT (p+n) oM oM tb (.pointer ab) w2 HTB.o ⟨aL HVB.o,hbs⟩ HVB.o).m ?_;rintro e w3 ⟨vm,vc,tm,tc,rfl,htm,htc,hM,hE,hb3⟩;obtain⟨am,rfl⟩:=htm.form;obtain⟨ac,rfl⟩:=htc.form;have hvl:=aL HV.o;rw[HB.o,GX t.toL p (p+n) c1 oM hvl,<-Dx t.toL p n HV.o HN.o]at hM;rw[HB.o,En t.toL p (p+n) c1 oM hvl]at hE;have hA:=HA.o;have q1:=bV t.toL 0 p;have q2:=(mV t.toL p n hvl).1;have q3:=bV t.toL (p+n) 65536;have HTA:=hD (aD.keep hb3 ta HTA.o);have HTM:=hD htm;have HTC:=hD htc;have HM:=hD hM;have HE:=hD hE;have HC:=hD (HC.o.aIx hb3);have hms:tm.size<=1000000000:=by show tm.toL.length<=_;rw[hM];omega
  have HJ:=hD (MO ta tc (.pointer aa) (.pointer ac) w3 HTA.o HTC.o (by
   rw[hA,hE];intro y hy;rcases Qn.1 hy with hy|hy
   ·exact dO t.toL _ _ hvl y hy
   ·exact dO t.toL _ _ hvl y hy) (by rw[hA,hE,Qg];omega))
  have HCUT:=hD (Zr t.toL p n oM HV.o HN.o);clear hb3 hM hE hA q1 q2 q3 htm htc hvl HTB HVB hbs;go_wp2_with fail;refine HJ.o.m ?_;rintro e w8 ⟨v8,t8,rfl,ht8,hl8,hb8⟩;obtain⟨a8,rfl⟩:=ht8.form;have HTM:=hD (aD.keep hb8 tm HTM.o);have HC:=hD (HC.o.aIx hb8);have HT8:=hD ht8;have HL8:=hD hl8;clear ht8 hl8 hb8;go_wp2_with fail;refine(xG tm (.pointer am) w8 HTM.o hms).m ?_;rintro e w9 ⟨sv,rfl,ho,hb9⟩;obtain⟨sa,sc,rfl,_⟩:=ho.rd (by show tm.size<=_;omega);have P9:=HC.o.aIx hb9;have r0:=P9.r0;have rf:=P9.rf;have hsz8:=HC.o.bel.size;have hr8:=Qj w8 (cw (cf w) 0) HC.o.r0;have HT9:=hD (aD.away (i:=0) (u:= .pointer a8) P9.r7 t8 (aD.keep hb9 t8 HT8.o));have HB9:=hD (P9.bel.setCell (p:=(cw (cf w) 0)) sO (.pointer a8));have HO9:=hD (aG.far ho (cw (cf w) 0) (.pointer a8) λh=>by have:=(ho.lt (cf w) h).1;simp only at hr8;omega);clear P9 ho hb9 hr8;go_wp2_with fail;have r1:=Qi w9 (cw (cf w) 0) (.pointer a8) r0;refine br (.tuple #[.agg #[.pointer a8],.slice sa tm.toL.length sc,oo]) ?_;exact⟨_,t8,_,rfl,HT9.o,by rw[HL8.o,HA.o,HE.o,HCUT.o],by rw[<-HM.o];exact aG.mono HO9.o hsz8,HB9.o⟩
def DJ(w:Wd)(M:List E)(e:Ending)(w':Wd):Prop:= ∃sv,e= .returned sv/\aG w' w sv M/\Below w w w'
theorem NF(p n:Int)(v:Value)(w:Wd)(hv:∃a,v= .pointer a)(hw:fA p n 65536=false)(hp: -9223372036854775808<=p/\p<=9223372036854775807)(hn: -9223372036854775808<=n/\n<=9223372036854775807):
  ep 107 #[.agg #[v],p,n] w (DJ w []):=by
 obtain⟨a,rfl⟩:=hv;have HW:=hD hw;clear hw;go_enter func107,ntmps107;go_wp2_with fail;refine(aCb p n (.pointer a) _ ⟨a,rfl⟩ HW.o hp hn).m ?_;rintro e w1 ⟨rfl,hb1⟩;have HB:=hD hb1;clear hb1;go_wp2_with fail;go_ret;exact⟨_,rfl,aG.nil _ _,Below.aIw (((bQ w).aIw (cq #[.pointer a] 168)).on HB.o) _⟩
theorem Cs(t:Tr)(p n:Int)(v:Value)(w:Wd)(ht:aD w v t)(hv:aH t.toL=true)(hnm:fT t.toL=true)(hw:fA p n 65536=true):
  ep 107 #[.agg #[v],p,n] w (DJ w (inL t.toL p n)):=by
 obtain⟨a,rfl⟩:=ht.form;have hC:=hD (λw' (hb:Below w w w')=>Iu t p n (.pointer a) w' (aD.keep hb t ht) hv hnm hw);have hsz:=nL hv;have hil:=(mV t.toL p n (aL hv)).1;clear ht hv hnm hw;go_enter func107,ntmps107;go_wp2_with fail;refine(hC.o _ bL).m ?_;rintro e w1 ⟨v1,t1,sv,rfl,ht1,hl1,ho,hb⟩;obtain⟨a1,rfl⟩:=ht1.form;obtain⟨sa,sc,rfl,_⟩:=ho.rd oM;have HO:=hD ho;have HB:=hD hb;clear ht1 hl1 ho hb;go_wp2_with fail;go_ret;have hB:=((bQ w).aIw (cq #[.pointer a] 168)).on HB.o;exact⟨.slice sa (inL t.toL p n).length sc,rfl,aG.mono (aG.keep HO.o (bR.aIw _)) sM,hB.aIw _⟩
theorem IX(t:Tr)(v:Value)(w:Wd)(ht:aD w v t):
  ep 90 #[.agg #[v]] w (RB w (aR t.toL)):=by
 obtain⟨a,rfl⟩:=ht.form;have HT:=hD ht;clear ht;go_enter func90,ntmps90;go_wp2_with fail;refine(BL t _ (.pointer a) _ rfl (aD.keep (bR.aIw _) t HT.o)).m ?_;rintro e w1 ⟨rfl,hb⟩;have HB:=hD hb;clear hb;go_wp2_with fail;go_ret;exact⟨rfl,(bR.aIw _).on HB.o⟩
theorem UM{A B:List E}{x:E}(h:aH (A++x::B)=true)(p:Int):
  (p<x.a->fU (A++x::B) p=fU A p/\fI (A++x::B) p=fI A p)/\(x.a+x.n<=p->fU (A++x::B) p=fU B p/\fI (A++x::B) p=fI B p)/\
   (x.a<=p->p<x.a+x.n->fU (A++x::B) p=x.s+p-x.a/\fI (A++x::B) p=true):=by
 obtain⟨hA,hx,hB,h1,h2⟩:=jV h;obtain⟨c1,c2,c3,c4,c5⟩:=(aB x).1 hx;have q0:∀l:List E,(∀y∈l,hits p y=false)->l.find? (hits p)=none:=λl hl=>List.find?_eq_none.2 λy hy=>by rw[hl y hy];simp
 have qA:x.a<=p->A.find? (hits p)=none:=λhp=>q0 _ λy hy=>by
  have:=h1 y hy;cases hh:hits p y
  ·rfl
  ·have:=(gI p y).1 hh;omega
 have qB:p<x.a+x.n->B.find? (hits p)=none:=λhp=>q0 _ λy hy=>by
  have:=h2 y hy;cases hh:hits p y
  ·rfl
  ·have:=(gI p y).1 hh;omega
 refine⟨λhp=> ?_,λhp=> ?_,λhp hq=> ?_⟩
 ·have hf:hits p x=false:=by
   cases hh:hits p x
   ·rfl
   ·have:=(gI p x).1 hh;omega
  have:(A++x::B).find? (hits p)=A.find? (hits p):=by
   rw[List.find?_append,List.find?_cons_of_neg (by rw[hf];simp),qB oM];simp
  unfold fU fI;rw[this];exact⟨rfl,rfl⟩
 ·have hf:hits p x=false:=by
   cases hh:hits p x
   ·rfl
   ·have:=(gI p x).1 hh;omega
  have:(A++x::B).find? (hits p)=B.find? (hits p):=by
   rw[List.find?_append,List.find?_cons_of_neg (by rw[hf];simp),qA oM];simp
  unfold fU fI;rw[this];exact⟨rfl,rfl⟩
 ·have hf:hits p x=true:=(gI p x).2 ⟨hp,hq⟩;have:(A++x::B).find? (hits p)=some x:=by
   rw[List.find?_append,List.find?_cons_of_pos hf,qA hp];rfl
  unfold fU fI;rw[this];exact⟨rfl,rfl⟩
theorem NG(t:Tr)(p:Int)(v:Value)(w:Wd)(ht:aD w v t)(hv:aH t.toL=true)(hp: -9223372036854775808<=p/\p<=9223372036854775807):
  ep 122 #[.agg #[v],p] w (RB w (.tuple #[(fU t.toL p),.bool (fI t.toL p)])):=by
 obtain⟨a,rfl⟩:=ht.form;have HT:=hD ht;have HV:=hD hv;clear ht hv;go_enter func122,ntmps122;go_wp2_with fail
 go_loopg [6] t.size (λk i wr=>∃(t':Tr) (a':OA),i= .pointer a'/\t'.size<=k/\aD w (.pointer a') t'/\aH t'.toL=true/\fU t'.toL p=fU t.toL p/\fI t'.toL p=fI t.toL p/\Below w w wr)
 case atStart=>exact⟨t,a,rfl,Ye _,HT.o,HV.o,rfl,rfl,bL⟩
 case round=>
  obtain⟨t',a',rfl,hk,ht',hv',h1,h2,hB⟩:=hrel
  cases t' with
  | nil=>
   obtain h0:a'=none:=by simpa [aD]using ht'
   subst h0;have H1:=hD h1;have H2:=hD h2;clear ht' hv' h1 h2 hk;go_wp2_with fail;refine Yg (results_tmp2 rfl _ _ _) rfl ?_;rw[<-H1.o,<-H2.o];exact⟨rfl,hB⟩
  | node l x r=>
   obtain⟨b,vl,vr,hb,hn,hl,hr⟩:=ht';injection hb with hb';subst hb';obtain⟨al,rfl⟩:=hl.form;obtain⟨ar,rfl⟩:=hr.form;have z0:=hB.keep hn.a;have z1:=hB.keep hn.n;have z2:=hB.keep hn.s;have z3:=hB.keep hn.l;have z4:=hB.keep hn.r;have hsz:=Tr.aJg l r x;obtain⟨q1,q2,q3⟩:=UM (A:=l.toL) (B:=r.toL) hv' p;obtain⟨hvl,hxo,hvr,_,_⟩:=jV (A:=l.toL) (B:=r.toL) hv';obtain⟨c1,c2,c3,c4,c5⟩:=(aB x).1 hxo;have HL:=hD hl;have HR:=hD hr;have HVL:=hD hvl;have HVR:=hD hvr;have Q1:=hD q1;have Q2:=hD q2;have Q3:=hD q3;have H1:Hid (fU (l.toL++x::r.toL) p=fU t.toL p):=hD h1;have H2:Hid (fI (l.toL++x::r.toL) p=fI t.toL p):=hD h2;have hBd:=hD hB;clear hn hl hr hv' h1 h2 q1 q2 q3 hvl hvr hB hxo;by_cases g1:p<x.a
   ·go_wp2_with fail
    go_roundg (gk-1)
    case measure=>omega
    case rel=>exact⟨l,al,rfl,oM,HL.o,HVL.o,(Q1.o g1).1.symm.trans H1.o,(Q1.o g1).2.symm.trans H2.o,hBd.o⟩
   ·by_cases g2:x.a+x.n<=p
    ·go_wp2_with fail
     go_region
     go_wp2_with fail
     go_roundg (gk-1)
     case measure=>omega
     case rel=>exact⟨r,ar,rfl,oM,HR.o,HVR.o,(Q2.o g2).1.symm.trans H1.o,(Q2.o g2).2.symm.trans H2.o,(by have:=hBd.o;(repeat(first|exact bR|assumption|refine Below.aJd ?_ _|refine Below.aIw ?_ _|refine Below.setCell ?_ sM _|refine Below.drew ?_)))⟩
    ·go_wp2_with fail
     go_region
     go_wp2_with fail
     go_region
     go_wp2_with fail;refine Yg (results_tmp2 rfl _ _ _) rfl ?_;have h3:=Q3.o oM oM;rw[<-H1.o,<-H2.o,h3.1,h3.2];exact⟨rfl,by have:=hBd.o;(repeat(first|exact bR|assumption|refine Below.aJd ?_ _|refine Below.aIw ?_ _|refine Below.setCell ?_ sM _|refine Below.drew ?_))⟩
open Go.Shelf
attribute [local go_sem] Oper.semAt_some
theorem TF{F:Fence}(hd:F.depth=none)(k:Nat):F.room k:=λd h=>by rw[hd]at h;cases h
theorem KL{F:Fence}(hd:F.depth=none){m m':Nat}{P:Program}{l:Nat}{f:FuncId}{tmps:Array Value}{assign body:Code}{w:Wd}{R:Ending->Wd->Prop}
  (h:RoundIn F m P l f tmps assign body w R):RoundIn F m' P l f tmps assign body w R:=⟨h.1,λc cs _=>h.2 c cs (TF hd _)⟩
theorem JZ{F:Fence}(hd:F.depth=none){m:Nat}(m':Nat){P:Program}{l:Nat}{args:Array Value}{W:Wd}{R:Ending->Wd->Prop}(h:YieldAt F m P l args W R):YieldAt F m' P l args W R:=by
 obtain⟨fn,tmps,assign,body,hy,hR⟩:=h;exact⟨fn,tmps,assign,body,hy,KL hd hR⟩
abbrev UT(x:E):Value:= .agg #[x.a,x.n,x.s]
theorem NA(F:Fence)(hF:F=Fence.wide)(l:Nat)(w0:Wd)(N:Nat)(J Jx:List E->Wd->Prop)
    (hY:∀m pre x W,J pre W->Below w0 w0 W->pre.length<N->YieldAt F m prog l #[UT x] W λe W'=>
      (e= .returned (.bool true)/\J (pre++[x]) W'/\Below w0 W W')∨(e= .returned (.bool false)/\Jx (pre++[x]) W')) (t:Tr):
    ∀(n :Nat) (v:Value) (pre:List E) (W:Wd),aD w0 v t->Below w0 w0 W->J pre W->pre.length+t.toL.length<=N->
      CallsIn F n prog 191 #[v,.func (.yield l) #[] #[]] W λe W'=>
        (e= .returned (.bool true)/\J (pre++t.toL) W'/\Below w0 W W')∨(e= .returned (.bool false)/\ ∃q,q <+: t.toL/\Jx (pre++q) W'):=by
  have hd:F.depth=none:=by rw[hF];rfl
  have hf:F.fn 191:=by rw[hF];exact trivial
  have hro:F.round=none:=by rw[hF];rfl
  have HFF:=hD hF;clear hF
  induction t with
  | nil=>
    intro n v pre W ht _ hJ _;have hF:=HFF.o;subst hF;obtain rfl:v= .pointer none:=ht;refine callsIn_wide.2 ?_;go_enter func191,ntmps191;go_wp2_with fail;go_ret;exact .inl ⟨rfl,by simpa [Tr.toL]using hJ,bR⟩
  | node tl x tr ihl ihr=>
    intro n v pre W ht hB0 hJ hN;obtain⟨b,vl,vr,rfl,hn,hl,hr⟩:=ht;obtain⟨al,rfl⟩:=hl.form;obtain⟨ar,rfl⟩:=hr.form;have hdd:∀k:Nat,(F.depth.isSome=true->1<=k):=λk h=>by rw[hd]at h;cases h
    simp only[Tr.toL,Qg,List.length_cons]at hN;have z3:=hB0.keep hn.l;have hy2:∀W1,J (pre++tl.toL) W1->Below w0 W W1->YieldAt F (n-1) prog l #[UT x] W1 λe W2=>
        (e= .returned (.bool true)/\J (pre++tl.toL++[x]) W2/\Below w0 W W2/\W2 (cw b 4)=some (.pointer ar))∨(e= .returned (.bool false)/\Jx (pre++tl.toL++[x]) W2):=λW1 hJ1 hb1=>
      YieldAt.mono (hY (n-1) _ x W1 hJ1 (hB0.trans hb1) pO) λe W2 h=>h.elim
        (λ⟨he,hj,hb2⟩=> .inl ⟨he,hj,hb1.trans hb2,(hB0.trans (hb1.trans hb2)).keep hn.r⟩) .inr
    have ih1:=(ihl (n-1) (.pointer al) pre W hl hB0 hJ oM).mono (R':=λe W1=>
        (e = .returned (.bool true)/\W1 (cw b 0)=some (.int .i64 x.a)/\W1 (cw b 1)=some (.int .i64 x.n)/\W1 (cw b 2)=some (.int .i64 x.s)/\YieldAt F (n-1) prog l #[UT x] W1 λe W2=>
          (e= .returned (.bool true)/\J (pre++tl.toL++[x]) W2/\Below w0 W W2/\W2 (cw b 4)=some (.pointer ar))∨(e= .returned (.bool false)/\Jx (pre++tl.toL++[x]) W2))∨
        (e= .returned (.bool false)/\ ∃q,q <+: tl.toL/\Jx (pre++q) W1))
      (λe W1 h=>h.elim (λ⟨he,hj,hb1⟩=> .inl ⟨he,(hB0.trans hb1).keep hn.a,(hB0.trans hb1).keep hn.n,(hB0.trans hb1).keep hn.s,hy2 W1 hj hb1⟩) .inr)
    have IHR:=hD ihr;have HR:=hD hr;have HB0:=hD hB0;clear hy2 ihl ihr hr hn hl hB0;refine callsIn_of_wp func191 rfl hf ?_ hro;simp only[ntmps191,List.size_toArray,List.length_cons,List.length_nil,Nat.reduceAdd,Nat.reduceSub,Array.replicate_succ,Array.replicate_zero,List.push_toArray,List.append_toArray,List.nil_append,List.cons_append]
    gi_wp2_with (first
      |((try refine⟨hdd _,?_⟩);gi_at_call 191;refine ih1.mono ?_;clear ih1;rintro e W1 (⟨rfl,c0',c1',c2',fn,tmps,assign,body,hy,hR⟩|⟨rfl,q,hq,hx1⟩))
      |((try refine⟨hdd _,?_⟩);refine hR.mono ?_;clear hR;rintro e W2 (⟨rfl,hJ2,hb2,c2'⟩|⟨rfl,hx2⟩))
      |((try refine⟨hdd _,?_⟩);gi_at_call 191;refine(IHR.o (n-1) (.pointer ar) _ _ HR.o (HB0.o.trans hb2) hJ2 pO).mono ?_;rintro e W3 (⟨rfl,hJ3,hb3⟩|⟨rfl,q,hq,hx3⟩)))
    · go_ret;exact .inl ⟨rfl,by simpa [Tr.toL,Yc]using hJ3,hb2.trans hb3⟩
    · go_ret;obtain⟨r,hr'⟩:=hq;exact .inr ⟨rfl,tl.toL++x::q,⟨r,by simp[Tr.toL,<-hr']⟩,by simpa [Yc]using hx3⟩
    · go_ret;exact .inr ⟨rfl,tl.toL++[x],⟨tr.toL,by simp[Tr.toL]⟩,by simpa [Yc]using hx2⟩
    · refine⟨λ_ h=>(by cases h),?_⟩
      gi_wp2
      go_ret;exact .inr ⟨rfl,q,hq.trans (by simp[Tr.toL]),hx1⟩
theorem Re(F:Fence)(hF:F=Fence.wide)(n l Bt:Nat)(w0:Wd)(a:OA)(t:Tr)(J Jx:List E->Wd->Prop)
  (hY:∀pre x W,J pre W->pre.length<t.toL.length->YieldAt F (n-1) prog l #[UT x] W λe W'=>
   (e= .returned (.bool true)/\J (pre++[x]) W'/\Below w0 W W')∨(e= .returned (.bool false)/\Jx (pre++[x]) W'))
  (W:Wd) (hB:Below w0 w0 W) (hc:W (cw Bt 0)=some (.pointer a)) (ht:aD w0 (.pointer a) t) (h0:J [] W):
  CallsIn F n prog 190 #[.func (.yield l) #[] #[],.pointer (cw Bt 0)] W λe W'=>(∃v,e= .returned v)/\
   ((∃ys,ys=t.toL/\J ys W')∨(∃pre,pre <+: t.toL/\Jx pre W')):=by
 have hd:F.depth=none:=by rw[hF];rfl
 have hf:F.fn 190:=by rw[hF];exact trivial
 have hro:F.round=none:=by rw[hF];rfl
 have hdd:∀k:Nat,(F.depth.isSome=true->1<=k):=λk h=>by rw[hd]at h;cases h
 have hp:=NA F hF l w0 t.toL.length J Jx (λm pre x W hj _ hl=>JZ hd m (hY pre x W hj hl)) t (n-1) (.pointer a) [] W ht hB h0 sM;have hfw:F.fn 191:=by rw[hF];exact trivial
 clear hY hF;refine callsIn_of_wp func190 rfl hf ?_ hro;simp only[ntmps190,List.size_toArray,List.length_cons,List.length_nil,Nat.reduceAdd,Nat.reduceSub,Array.replicate_succ,Array.replicate_zero,List.push_toArray,List.append_toArray,List.nil_append,List.cons_append]
 gi_wp2_with ((try refine⟨hdd _,?_⟩);gi_at_call 191;refine hp.mono ?_;clear hp;rintro e W1 (⟨rfl,hJ1,_⟩|⟨rfl,q,hq,hx⟩))
 ·go_end0
  exact⟨⟨_,rfl⟩,.inl ⟨_,rfl,by simpa using hJ1⟩⟩
 ·go_end0
  exact⟨⟨_,rfl⟩,.inr ⟨q,hq,by simpa using hx⟩⟩
theorem all_stops(F:Fence)(hF:F=Fence.wide)(n Bt:Nat)(a:OA)(t:Tr)(w:Wd)(hBt:Bt<w.heap.size)(hc:w (cw Bt 0)=some (.pointer a))(ht:aD w (.pointer a) t):
  SeqStopsK F n prog 190 #[.pointer (cw Bt 0)] (λx:E=> #[UT x]) (Below w) (λys=>ys=t.toL) (λpre=>pre <+: t.toL) t.toL.length w:=λl J Jx W hW _ _ hY h0=>
 Re F hF n l Bt w a t J Jx hY W hW ((hW.cell (p:=(cw Bt 0)) hBt).trans hc) ht h0
theorem aHm(a:OA)(w:Wd):ep 132 #[.agg #[.pointer a]] w λe w'=>e= .returned (.func (.func 190) #[] #[.pointer (cw w 0)])/\w'=w.alloc (cq #[.pointer a] 168):=by
 go_enter func132,ntmps132;go_wp2;go_ret;exact⟨rfl,rfl⟩
theorem QR{Bx:Nat}{cs:Array Value}{e:TypeId}{fr:Nat × Nat}{X Y:Wd}{row:Option Nat}(h:X.heap[Bx]? =some (.cells cs e fr))(hg:X.grownBy Y row)(hr:∀r,row=some r-> ∃o:Obj,X.heap[r]? =some o/\o.isCells=false):Y.heap[Bx]? =some (.cells cs e fr):=by
 refine(hg.block Bx (Array.getElem?_eq_some_iff.1 h).1 λe'=> ?_).trans h;obtain⟨o,ho,hc⟩:=hr Bx e'.symm;rw[h]at ho;cases ho;cases hc
theorem appendSeq_in(F:Fence)(hF:F=Fence.wide)(n:Nat)(hn:3<=n)(Bt:Nat)(a:OA)(t:Tr)(w:Wd)(hBt:Bt<w.heap.size)(hc:w (cw Bt 0)=some (.pointer a))(ht:aD w (.pointer a) t)(hlen:t.toL.length<=1000000000):
  CallsIn F n prog 189 #[.slice none 0 0,.func (.func 190) #[] #[.pointer (cw Bt 0)]] w λe w'=>∃sv,e= .returned sv/\aG w' w sv t.toL/\Below w w w':=by
 have hf:F.fn 189:=by rw[hF];exact trivial
 have hfa:F.fn 190:=by rw[hF];exact trivial
 have hro:F.round=none:=by rw[hF];rfl
 have HF:=hD hF;clear hF;have h1:1<=n:=oM
 obtain⟨i0,hi,hz0,hz1,hz2⟩:=info_parts kK;refine callsIn_of_wp_marks func189 rfl hf ?_ hro;simp only[ntmps189,List.size_toArray,List.length_cons,List.length_nil,Nat.reduceAdd,Nat.reduceSub,Array.replicate_succ,Array.replicate_zero,List.push_toArray,List.append_toArray,List.nil_append,List.cons_append]
 gi_wp2
 have bO:=Boxed.new w 52 sn;have hB0:Below w w (w.alloc (cq #[sn] 52)):=(Below.refl _ w).alloc (Ye _) _;refine wpIn_rangeFunc_ownH hro h1 (gf:=190) (lb:= #[.pointer (cw Bt 0)]) rfl hfa (enters_of func190 kR rfl)
  (all_stops F HF.o (n-1) Bt a t w hBt hc ht) belowK_t (belowK_b sM) hB0 (λ_=>rfl)
  (λpre W=>(∃v,Boxed W w 52 v/\W.ownsRow w 128 3 v pre.length (bI pre)/\True)/\Below w w W)
  (λ_ _ _=>False)
  (OwnFrom.and (Own.from (holdsRow_own w w 52 128 3 (λpre=>List.length pre) (λpre=>bI pre) (λ_ _=>True)) _) (ownFrom_below (Ye _) sM))
  (λ_ _ _ _ _ hs _ _=>hs)
  ⟨⟨_,bO,World.ownsRow_nil _ _ _ _,trivial⟩,hB0⟩
  (λx a' W=>∃Bx,w.heap.size<Bx/\W.heap[Bx]? =some (.cells #[.int .i64 x.a,.int .i64 x.n,.int .i64 x.s] 128 (0,0))/\a'= {tmps:= #[.slice none 0 0,.func (.func 190) #[] #[.pointer (cw Bt 0)],.pointer (cw w 0),undef,.slice none 0 0,.pointer (cw Bx 0),.func (.func 190) #[] #[.pointer (cw Bt 0)],UT x,undef,undef,undef,undef,undef],defers:=[]})
  (λx a' _ X Y row hs hg hr=>by obtain⟨Bx,h1,h2,h3⟩:=hs;exact⟨Bx,h1,QR h2 hg (λr e=>(hr r e).2),h3⟩)
  ?assign ?body ?done ?stop
 case assign=>
  rintro l pre x W K ⟨⟨v,hv,hrow,_⟩,hB⟩ hK
  gi_wp2
  exact hK _ _ ((KeepsOthers.alloc _ _).from _) ((Below.refl _ W).alloc hB.size _) ⟨⟨v,hv.alloc _,Qu hrow _,trivial⟩,hB.alloc hB.size _⟩ ⟨W.heap.size,hv.lt,World.alloc_heap_new W _,rfl⟩
 case body=>
  rintro l pre x a' W hl ⟨r,hr⟩ ⟨⟨v,hv,hrow,_⟩,hB⟩ ⟨Bx,hBx,hX,rfl⟩ hlt;have hc0:=hv.cell;have x0:W (cw Bx 0)=some (.int .i64 x.a):=by simp[World.cell?,hX]
  have x1:W (cw Bx 1)=some (.int .i64 x.n):=by simp[World.cell?,hX]
  have x2:W (cw Bx 2)=some (.int .i64 x.s):=by simp[World.cell?,hX]
  have HHX:=hD hX;have hsz:=hB.size;clear hX hr
  gi_wp2_with (gi_at_builtin;refine wpListIn_append_own _ rfl _ _ 52 rfl w.heap.size 128 i0 (.agg #[oo,oo,oo]) 3 24 underlying52 hi hz0 hz1 hz2 rfl dE _ _ _ rfl (Qu hrow _) (cw W.heap.size 0) 1 1 (E.cells x) rfl rfl (sI _ _ rfl _ _) (dF _) (by simp only[maxLen];omega) oM (by have:=hB.size;simp;omega) ?_;intro v' w1 hown' hgrow _;obtain⟨g',cap',rfl⟩:=ownsRow_succ hown';obtain⟨hv1,hv2,hr2,hk2,hb2⟩:=hv.appended dE hrow hB.size (Ye _) hown' hgrow;have hc1:=hv1.cell;have hf1:=hv1.frozen)
  exact⟨hk2.from _,hb2,⟨_,hv2,aG.snoc hr2 rfl,trivial⟩,hB.trans hb2⟩
 case done=>
  rintro D ys W hD rfl ⟨⟨v,hv,hrow,_⟩,hB⟩ hK;have hc1:=hv.cell
  gi_wp2
  refine⟨sM,.inl ⟨_,_,rfl,run_takeDeferred hK,?_⟩⟩;exact⟨_,results_tmp rfl _ _ _,v,rfl,ownsRow_putObj hrow _ hK rfl,hB.trans (belowK_b (w:=w) (Ye _) W D _ _ (by simp at hD;omega) hK rfl rfl)⟩
 case stop=>
  rintro D c pre W _ _ h _;exact h.elim
theorem QG(Bt:Nat)(a:OA)(t:Tr)(w:Wd)(hBt:Bt<w.heap.size)(hc:w (cw Bt 0)=some (.pointer a))(ht:aD w (.pointer a) t)(hlen:t.toL.length<=1000000000):
  ep 131 #[.func (.func 190) #[] #[.pointer (cw Bt 0)]] w λe w'=>∃sv,e= .returned sv/\aG w' w sv t.toL/\Below w w w':=by
 have hA:=callsIn_wide.1 (appendSeq_in Fence.wide rfl 6 oM Bt a t w hBt hc ht hlen);clear hc ht;go_enter func131,ntmps131;go_wp2_with fail;refine hA.m ?_;rintro e w1 ⟨sv,rfl,ho,hb⟩;obtain⟨sa,sc,rfl,_⟩:=ho.rd oM;have HO:=hD ho;have HB:=hD hb;clear ho hb;go_wp2_with fail;go_ret;exact⟨_,rfl,HO.o,HB.o⟩
theorem zD(n r:Int)(a:OA)(t:Tr)(w:Wd)(ht:aD w (.pointer a) t)(hlen:t.toL.length<=1000000000):
  ep 92 #[.agg #[n,r,.pointer a]] w λe w'=>∃sv,e= .returned sv/\aG w' w sv t.toL/\Below w w w':=by
 have HT:=hD ht;clear ht;go_enter func92,ntmps92;go_wp2_with fail;refine(aHm a _).m ?_;rintro e w1 ⟨rfl,rfl⟩;have hb:Below w w ((w.alloc (cq #[n,r,.pointer a] 170)).alloc (cq #[.pointer a] 168)):=bL
 have HB:=hD hb;clear hb;go_wp2_with fail;refine(QG (cf w) a t _ sM (by rw[World.cell?_alloc_at (hn:=by simp)];rfl) (aD.keep HB.o t HT.o) hlen).m ?_;rintro e w2 ⟨sv,rfl,ho,hb2⟩;obtain⟨sa,sc,rfl,_⟩:=ho.rd oM;have HO:=hD ho;have HB2:=hD (HB.o.on hb2);clear ho hb2;go_wp2_with fail;go_ret;exact⟨_,rfl,aG.mono HO.o pO,HB2.o⟩
def lW(v:Value):Option (DataW Value × List MemPlace):=some (.held v,[])
theorem lV(v:Value):lW v=some (.held v,[]):=rfl
abbrev nmV(nm:LU):Value:= .string ⟨nm.toArray⟩
structure VT where
 nm:LU
 n:Int
 r:Int
 a:OA
 t:Tr
def VT.vol(p:VT):Vol:=⟨p.nm,p.n,p.r,p.t.toL⟩
abbrev VT.val(p:VT):Value:= .agg #[p.n,p.r,.pointer p.a]
def VT.ent(p:VT):Lit × DataW Value:=(.string p.nm,.held p.val)
def jE(ts:List VT):DataW Value:= .map (ts.map VT.ent)
def Dj(v:VT):List VT->List VT
 | []=>[v]
 |w::r=>if bytesBefore v.nm w.nm then v::w::r else w::Dj v r
def AX(ts:List VT)(nm:LU):List VT:=ts.filter λw=> !(w.nm==nm)
def mW(ts:List VT)(nm:LU):Option VT:=ts.find? λw=>w.nm==nm
theorem Yq(v:VT)(ts:List VT):(Dj v ts).map VT.vol=qW v.vol (ts.map VT.vol):=by
 induction ts with
 |nil=>rfl
 | cons w r ih=>
  have h:(bytesBefore v.vol.nm w.vol.nm)=bytesBefore v.nm w.nm:=rfl;unfold Dj;exact sh85
theorem MJ(ts:List VT)(nm:LU):(AX ts nm).map VT.vol=bZ (ts.map VT.vol) nm:=by
 unfold AX bZ;rw[List.filter_map];rfl
theorem oG(ts:List VT)(nm:LU):aN (ts.map VT.vol) nm=(mW ts nm).map VT.vol:=by
 unfold aN mW;rw[List.find?_map];rfl
theorem aBt(v:VT)(ts:List VT):DataW.insert v.ent (ts.map VT.ent)=(Dj v ts).map VT.ent:=by
 induction ts with
 |nil=>rfl
 | cons w r ih=>
  have h:v.ent.1.before w.ent.1=bytesBefore v.nm w.nm:=rfl;rw[List.map_cons];unfold DataW.insert Dj;rw[h];by_cases hb:bytesBefore v.nm w.nm=true
  ·rw[Qf hb,Qf hb];rfl
  ·rw[Qe hb,Qe hb,ih];rfl
theorem aBv(ts:List VT)(nm:LU):(jE ts).del (.string nm)=jE (AX ts nm):=by
 show DataW.map ((ts.map VT.ent).filter λp=> !p.1.sameKey (.string nm))= .map ((AX ts nm).map VT.ent);unfold AX;rw[List.filter_map];rfl
theorem aBs(ts:List VT)(p:VT):(jE ts).put (.string p.nm) (.held p.val)=jE (Dj p (AX ts p.nm)):=by
 show DataW.map (DataW.insert (.string p.nm,.held p.val) ((ts.map VT.ent).filter λq=> !q.1.sameKey (.string p.nm)))=_;have:((ts.map VT.ent).filter λq=> !q.1.sameKey (.string p.nm))=(AX ts p.nm).map VT.ent:=by
  unfold AX;rw[List.filter_map];rfl
 rw[this];exact congrArg DataW.map (aBt p _)
theorem aBu(ts:List VT)(nm:LU):Maps.has (jE ts) (.string nm)=(mW ts nm).isSome:=by
 show(ts.map VT.ent).any (λp=>p.1.sameKey (.string nm))=_;unfold mW
 induction ts with
 |nil=>rfl
 | cons w r ih=>
  rw[List.map_cons,List.any_cons,ih];have h:w.ent.1.sameKey (.string nm)=(w.nm==nm):=rfl;rw[h];cases hw:(w.nm==nm)
  ·rw[List.find?_cons_of_neg (by simp[hw])];simp
  ·rw[List.find?_cons_of_pos (by simpa using hw)];simp
theorem aHh(ts:List VT)(nm:LU)(z:Value):(jE ts).atKey (.string nm) (.held z)= .held (match mW ts nm with|some p=>p.val|none=>z):=by
 have h0:(jE ts).atKey (.string nm) (.held z)=(((ts.map VT.ent).find? (λp=>p.1.sameKey (.string nm))).map Prod.snd).getD (.held z):=by
  unfold jE DataW.atKey;simp only;generalize (ts.map VT.ent).find? (λp=>p.1.sameKey (.string nm))=o;cases o <;> rfl
 rw[h0];unfold mW;rw[List.find?_map];have h:((λp:Lit × DataW Value=>p.1.sameKey (.string nm)) ∘ VT.ent)=λw:VT=>w.nm==nm:=rfl;rw[h];cases ts.find? λw=>w.nm==nm <;> rfl
theorem lX{ts:List VT}{nm:LU}{p:VT}(h:mW ts nm=some p):p∈ts/\p.nm=nm:=⟨List.mem_of_find?_eq_some h,by simpa using List.find?_some h⟩
theorem XK{v x:VT}{ts:List VT}:x∈Dj v ts↔x=v∨x∈ts:=by
 induction ts with
 |nil=>simp[Dj]
 | cons w r ih=>
  unfold Dj
  split
  ·simp
  ·simp only[Yl,ih]
   constructor
   ·rintro(h|h|h)
    ·exact .inr (.inl h)
    ·exact .inl h
    ·exact .inr (.inr h)
   ·rintro(h|h|h)
    ·exact .inr (.inl h)
    ·exact .inl h
    ·exact .inr (.inr h)
theorem LG{x:VT}{ts:List VT}{nm:LU}:x∈AX ts nm↔x∈ts/\x.nm≠nm:=by simp[AX]
abbrev Av(w:Wd)(b:Nat)(ts:List VT):Prop:=w.ownsMap prog 9 lW b ts.length (jE ts)
theorem Hu{w:Wd}{b n:Nat}{ts:List VT}(h:w.ownsMap prog 9 lW b n (jE ts)):Av w b ts:=by
 obtain⟨es,clock,hb,F,hs,hD⟩:=h;refine⟨es,clock,hb,F,?_,hD⟩;have h1:=congrArg Maps.size hD;rw[Maps.size_eq]at h1;have h2:Maps.size (jE ts)=ts.length:=by show(ts.map VT.ent).length=_;simp
 rw[h2,length_sorted]at h1;simp at h1;omega
theorem BN{w w':Wd}{b:Nat}{ts:List VT}(h:Av w b ts)(hb:Below w w w'):Av w' b ts:=
 h.kept (row:=none) ⟨hb.os,hb.tape,hb.output,hb.size,λk hk _=>hb.block k hk⟩ sM
def RdT(w:Wd)(mb:Option Nat)(ts:List VT):Prop:=(∀p∈ts,aD w (.pointer p.a) p.t)/\((mb=none/\ts=[])∨ ∃b,mb=some b/\Av w b ts)
theorem RdT.keep{w w':Wd}(hb:Below w w w'){mb:Option Nat}{ts:List VT}(h:RdT w mb ts):RdT w' mb ts:=
 ⟨λp hp=>aD.keep hb p.t (h.1 p hp),h.2.elim .inl λ⟨b,h1,h2⟩=> .inr ⟨b,h1,BN h2 hb⟩⟩
def RdV(w:Wd)(mb:Option Nat)(vs:List Vol):Prop:= ∃ts:List VT,ts.map VT.vol=vs/\RdT w mb ts
theorem RdV.keep{w w':Wd}(hb:Below w w w'){mb:Option Nat}{vs:List Vol}(h:RdV w mb vs):RdV w' mb vs:=by
 obtain⟨ts,h1,h2⟩:=h;exact⟨ts,h1,h2.keep hb⟩
class Gst where
 g:Option Nat
variable[Gst]
def gok(w:Wd)(a:OA)(C:List Int):Prop:=∀g,Gst.g=some g->C=[]∨(g<w.heap.size/\∀b o s,a=some ⟨b,o,s⟩->b≠g)
theorem gok.le{w w':Wd}{a:OA}{C:List Int}(h:gok w a C)(hs:w.heap.size<=w'.heap.size):gok w' a C:=λg e=>(h g e).imp id λ⟨p,q⟩=>⟨Nat.lt_of_lt_of_le p hs,q⟩
def RdG(w:Wd)(a:OA)(C:List Int):Prop:=RdI w a C/\gok w a C
theorem RdG.keep{w w':Wd}(hb:Below w w w'){a:OA}{C:List Int}(h:RdG w a C):RdI w' a C:=h.1.keep hb
theorem RdG.up{w w':Wd}(hb:Below w w w'){a:OA}{C:List Int}(h:RdG w a C):RdG w' a C:=⟨h.1.keep hb,h.2.le hb.size⟩
theorem RdG.mk{w w1 w2:Wd}{B n c:Nat}{a a':OA}{C D:List Int}(h:RdG w a C)(ho:dG w1 B (.slice a' n c) D)(hr:RdI w2 a' D)(hl:D.length=C.length)(hB:w.heap.size<=B)(hs:w.heap.size<=w2.heap.size):RdG w2 a' D:=
 ⟨hr,λg e=>(h.2 g e).imp (λq=>by rw[q]at hl;exact List.eq_nil_of_length_eq_zero hl) λ⟨p,_⟩=>⟨by omega,λb o s q=>by subst q;have:=(ho.lt b rfl).1;omega⟩⟩
def bG(w:Wd)(v:Value)(F:Fam):Prop:= ∃a c mb,v= .agg #[.slice a F.N c,.map mb]/\RdG w a F.C/\RdV w mb F.vs
theorem bG.keep{w w':Wd}(hb:Below w w w'){v:Value}{F:Fam}(h:bG w v F):bG w' v F:=by
 obtain⟨a,c,mb,h1,h2,h3⟩:=h;exact⟨a,c,mb,h1,h2.up hb,h3.keep hb⟩
theorem bG.zero(w:Wd):bG w (.agg #[sn,.map none]) eP:=
 ⟨none,0,none,rfl,⟨by simp[RdI,eP,Fam.C,tC],λ_ _=>.inl (by simp[eP,Fam.C,tC])⟩,[],rfl,sM,.inl ⟨rfl,rfl⟩⟩
theorem vK:Keyed prog 9:=string_keyed underlying9
theorem LA{nm:LU}(h:nm.length<=maxLen):keyOf prog 9 (nmV nm)=some (.string nm):=by
 have:=WideMaps.keyOf_string_mk (k:=9) underlying9 (s:=⟨nm.toArray⟩) (by simpa [ByteArray.size]using h)
 simpa using this
theorem Rk(w:Wd):(zeroValue 170).run prog w= .ok (.agg #[oo,oo,.pointer none]) w:=kR
def CU(ts:List VT)(nm:LU):Value × Bool:=match mW ts nm with
 |some p=>(p.val,true)
 |none=>(.agg #[oo,oo,.pointer none],false)
theorem Aw{w:Wd}{mb:Option Nat}{ts:List VT}(h:RdT w mb ts){nm:LU}(hn:nm.length<=maxLen):
  (Instr.lookup 119 (.map mb) (nmV nm) true).run prog w= .ok (.tuple #[(CU ts nm).1,.bool (CU ts nm).2]) w:=by
 rcases h.2 with ⟨rfl,rfl⟩|⟨b,rfl,hm⟩
 ·have:=look_nil (P:=prog) (w:=w) true vK underlying119 (Rk w) (LA hn)
  simpa [CU,mW]using this
 ·obtain⟨v,ps,hrun,hv⟩:=hm.look_ok vK underlying119 (Rk w) (lV _) (LA hn);rw[aHh,lV]at hv;simp only[Option.some.injEq,Prod.mk.injEq,DataW.held.injEq]at hv;rw[hrun,aBu,hv.1];unfold CU;cases mW ts nm <;> rfl
theorem aBg{w:Wd}{mb:Option Nat}{ts:List VT}(h:RdT w mb ts)(ty:TypeId):(Builtin.len_ #[119] ty #[.map mb]).run prog w= .ok (.int .i64 ts.length) w:=by
 rcases h.2 with ⟨rfl,rfl⟩|⟨b,rfl,hm⟩
 ·exact len_nil underlying119 ty
 ·have:=hm.len underlying119 ty;rw[this];have h2:Maps.size (jE ts)=ts.length:=by show(ts.map VT.ent).length=_;simp
  rw[h2]
theorem uL{ts:List VT}{nm:LU}{p:VT}(h:mW ts nm=some p):CU ts nm=(p.val,true):=by simp[CU,h]
theorem uM{ts:List VT}{nm:LU}(h:mW ts nm=none):CU ts nm=(.agg #[oo,oo,.pointer none],false):=by simp[CU,h]
structure RF(w W:Wd)(R:Nat):Prop where
 r0:W (cw R 0)=sn
 r1:W (cw R 1)=some (.map none)
 f0:W.frozen? (cw R 0)=false
 f1:W.frozen? (cw R 1)=false
 r2:∀i,2<=i->W (cw R i)=none
 le:w.heap.size<=R
 bel:Below w w W
theorem RF.lt{w W:Wd}{R:Nat}(h:RF w W R):R<W.heap.size:=Qj W (cw R 0) h.r0
theorem RF.aIx{w W W':Wd}{R:Nat}(h:RF w W R)(hb:Below W W W'):RF w W' R:=
 ⟨hb.keep h.r0,hb.keep h.r1,hb.aJc h.r0 h.f0,hb.aJc h.r1 h.f1,λi hi=>(hb.cell (p:=(cw R i)) h.lt).trans (h.r2 i hi),h.le,h.bel.on hb⟩
theorem RF.new(w W:Wd)(t:TypeId)(h:Below w w W):RF w (W.alloc (cq #[sn,.map none] t)) W.heap.size:=by
 exact VO
abbrev fP(W:Wd)(R:Nat)(u v:Value):Wd:=(W.setCell (cw R 0) u).setCell (cw R 1) v
theorem gP{W:Wd}{R:Nat}{u v:Value}{x:Addr}(h:x.block≠R):(fP W R u v).cell? x=W.cell? x:=by
 rw[cell_far (by simpa using h),cell_far (by simpa using h)]
theorem Cb{W:Wd}{R:Nat}{u v:Value}{k:Nat}(h:k≠R):(fP W R u v).heap[k]? =W.heap[k]? :=by
 rw[RowKit.Below.heap_setCell _ _ _ _ (by simpa using h),RowKit.Below.heap_setCell _ _ _ _ (by simpa using h)]
section
variable{w W:Wd}{R:Nat}(h:RF w W R){u v:Value}
include h
theorem RF.cells:(fP W R u v).cell? (cw R 0)=some u/\(fP W R u v).cell? (cw R 1)=some v:=by
 constructor
 ·exact VM
 ·rw[Qi (u:= .map none)];rw[Qk _ _ _ _ sM,h.r1]
theorem RF.below:Below w w (fP W R u v):=(h.bel.setCell h.le _).setCell h.le _
theorem RF.tree(t:Tr){p:Value}(ht:aD W p t):aD (fP W R u v) p t:=
 aD.away (dL dE (h.r2 7 oM)) t (aD.away (h.r2 7 oM) t ht)
theorem RF.ints{a:OA}{C:List Int}(hr:RdI W a C):RdI (fP W R u v) a C:=by
 refine⟨hr.1,hr.2.elim .inl λ⟨b,o,ha,ht,hc⟩=> ?_⟩;by_cases h0:C=[]
 ·exact .inl h0
 ·refine .inr ⟨b,o,ha,(ht.set _ _).set _ _,λk x hk=> ?_⟩;have hne:b≠R:=λe=>by
   subst e;have h1:=hc k x hk;by_cases h2:2<=o+k
   ·rw[h.r2 _ h2]at h1;cases h1
   ·by_cases h3:o+k=0
    ·rw[h3,h.r0]at h1;cases h1
    ·rw[show o+k=1 by omega,h.r1]at h1;cases h1
  rw[gP hne];exact hc k x hk
theorem RF.map{b:Nat}{ts:List VT}(hm:Av W b ts):Av (fP W R u v) b ts:=by
 obtain ⟨es,clock,hb,r⟩:=hm;have hne:b≠R:=λe=>by
  subst e;have:=h.r0;simp[World.cell?,hb]at this
 exact⟨es,clock,(Cb hne).trans hb,r⟩
theorem RF.fam{fv:Value}{F:Fam}(hf:bG W fv F):bG (fP W R u v) fv F:=by
 obtain⟨a,c,mb,h1,h2,ts,h3,h4,h5⟩:=hf;exact⟨a,c,mb,h1,⟨h.ints h2.1,h2.2.le (by simp[fP])⟩,ts,h3,λp hp=>h.tree p.t (h4 p hp),h5.elim .inl λ⟨b,q1,q2⟩=> .inr ⟨b,q1,h.map q2⟩⟩
end
theorem sV{W:Wd}{R:Nat}{u v:Value}{B:Nat}{sv:Value}{l:List E}(ho:aG W B sv l)(hB:R<B):aG (fP W R u v) B sv l:=by
 have hne:sv.ownBlock≠some R:=λe=>by have:=(ho.lt R e).1;omega
 exact aG.far (aG.far ho (cw R 0) u hne) (cw R 1) v hne
structure Bx(W:Wd)(T:Nat)(t:TypeId)(u v:Value):Prop where
 c0:W (cw T 0)=some u
 c1:W (cw T 1)=some v
 f0:W.frozen? (cw T 0)=false
 f1:W.frozen? (cw T 1)=false
 c2:∀i,2<=i->W (cw T i)=none
 ty:jH W T t
section
variable{W W':Wd}{T R:Nat}{t:TypeId}{u v x y:Value}
theorem Bx.lt(h:Bx W T t u v):T<W.heap.size:=Qj W (cw T 0) h.c0
theorem Bx.aIx(h:Bx W T t u v)(hb:Below W W W'):Bx W' T t u v:=
 ⟨hb.keep h.c0,hb.keep h.c1,hb.aJc h.c0 h.f0,hb.aJc h.c1 h.f1,λi hi=>(hb.cell (p:=(cw T i)) h.lt).trans (h.c2 i hi),h.ty.keep hb⟩
theorem Bx.new(V:Wd)(B:Nat)(hB:V.heap.size=B)(x y:Value)(t:TypeId):Bx (V.alloc (cq #[x,y] t)) B t x y:=by
 subst hB;refine⟨sM,sM,sM,sM,λi hi=> ?_,_,_,Yn⟩;rw[World.cell?_alloc_new];simp;omega
theorem Bx.put(h:Bx W T t u v)(x y:Value):Bx (fP W T x y) T t x y:=by
 refine⟨?_,?_,by rw[Qb,Qb];exact h.f0,by rw[Qb,Qb];exact h.f1,λi hi=> ?_,(h.ty.set _ _).set _ _⟩
 ·rw[Qk _ _ _ _ sM];exact Qi _ _ _ h.c0
 ·refine Qi (u:=v) _ _ _ ?_;rw[Qk _ _ _ _ sM];exact h.c1
 ·exact dL oM (dL oM (h.c2 i hi))
theorem Bx.far(h:Bx W T t u v)(hne:T≠R)(x y:Value):Bx (fP W R x y) T t u v:=by
 refine⟨(gP hne).trans h.c0,(gP hne).trans h.c1,by rw[Qb,Qb];exact h.f0,by rw[Qb,Qb];exact h.f1,λi hi=>(gP hne).trans (h.c2 i hi),(h.ty.set _ _).set _ _⟩
theorem Bx.famV(h:Bx W T t u v)(ht:3≠t){fv:Value}{F:Fam}(hf:bG W fv F):bG (fP W T x y) fv F:=by
 obtain ⟨a,c,mb,h1,h2,ts,h3,h4,h5⟩:=hf;refine⟨a,c,mb,h1,⟨⟨h2.1.1,h2.1.2.imp id λ⟨b,o,ha,hy,hc⟩=>⟨b,o,ha,(hy.set _ _).set _ _,λk z hk=>(gP (hy.ne h.ty ht)).trans (hc k z hk)⟩⟩,h2.2.le (by simp[fP])⟩,ts,h3,λp hp=>aD.away (dL dE (h.c2 7 oM)) p.t (aD.away (h.c2 7 oM) p.t (h4 p hp)),h5.elim .inl λ⟨b,q1,q2⟩=> .inr ⟨b,q1,?_⟩⟩;obtain⟨es,clock,hb,r⟩:=q2;have hne:b≠T:=λe=>by
  subst e;have:=h.c0;simp[World.cell?,hb]at this
 exact⟨es,clock,(Cb hne).trans hb,r⟩
theorem Bx.rd(h:Bx W T t u v){a:OA}{l:List E}(hr:Rd W a l):Rd (fP W T x y) a l:=by
 refine ⟨hr.1,hr.2.imp id λ⟨b,o,ha,hat⟩=>⟨b,o,ha,λk z hk=> ?_⟩⟩;have q:=hat k z hk;have hne:b≠T:=λe=>by
  subst e;have h1:=q.s;rw[h.c2 _ oM]at h1;cases h1
 exact sh89
end
theorem Bx.grown{W W':Wd}{T:Nat}{t:TypeId}{u v:Value}{row:Option Nat}(h:Bx W T t u v)(hg:W.grownBy W' row)(hne:row≠some T):Bx W' T t u v:=by
 have hb:=hg.block T h.lt (λe=>hne e.symm);have hc:∀i,W' (cw T i)=W (cw T i):=λi=>World.cell?_of_block hb;have hf:∀i,W'.frozen? (cw T i)=W.frozen? (cw T i):=λi=>World.frozen?_of_block hb;obtain⟨cs,s,hs⟩:=h.ty;exact⟨(hc 0).trans h.c0,(hc 1).trans h.c1,(hf 0).trans h.f0,(hf 1).trans h.f1,λi hi=>(hc i).trans (h.c2 i hi),cs,s,hb.trans hs⟩
structure RT where
 nm:LU
 n:Int
 r:Int
 a:OA
 c:Nat
 l:List E
def RT.vol(x:RT):Vol:=⟨x.nm,x.n,x.r,x.l⟩
abbrev RT.sl(x:RT):Value:= .slice x.a x.l.length x.c
abbrev RT.val(x:RT):Value:= .agg #[nmV x.nm,x.n,x.r,x.sl]
def RT.cells(x:RT):List Value:=[nmV x.nm,.int .i64 x.n,.int .i64 x.r,x.sl]
def fF(ts:List RT):List Value:=ts.flatMap RT.cells
theorem nJ(l:List RT):(fF l).length=l.length*4:=by
 induction l with
 |nil=>rfl
 |cons x r ih=>simp only[fF,List.flatMap_cons,Qg,List.length_cons]at ih ⊢;rw[ih];simp[RT.cells];omega
theorem yK(l r:List RT):fF (l++r)=fF l++fF r:=by simp[fF]
theorem Fp(l:List RT):∀(k:Nat) (x:RT),l[k]? =some x->(fF l)[k*4]? =some (nmV x.nm)/\(fF l)[k*4+1]? =some (.int .i64 x.n)/\(fF l)[k*4+2]? =some (.int .i64 x.r)/\(fF l)[k*4+3]? =some x.sl:=by
 induction l with
 |nil=>intro k x h;simp at h
 | cons y r ih=>
  intro k x h
  cases k with
  |zero=>simp at h;subst h;simp[fF,RT.cells]
  | succ k=>
   obtain⟨h1,h2,h3,h4⟩:=ih k x (by simpa using h);have e:fF (y::r)=y.cells++fF r:=rfl;have e4:y.cells.length=4:=rfl;rw[e];refine⟨?_,?_,?_,?_⟩
   ·rw[List.getElem?_append_right oM,<-h1];congr 1;omega
   ·rw[List.getElem?_append_right oM,<-h2];congr 1;omega
   ·rw[List.getElem?_append_right oM,<-h3];congr 1;omega
   ·rw[List.getElem?_append_right oM,<-h4];congr 1;omega
theorem jS(l:List RT):∀u∈fF l,u.oneCell'=true:=by
 intro u hu;simp only[fF,List.mem_flatMap,RT.cells]at hu;obtain⟨x,_,hx⟩:=hu;simp at hx;rcases hx with rfl|rfl|rfl|rfl <;> rfl
theorem PE:(prog.info? 54).map (λi=>(i.zero,i.size,i.bytes))=some (some (.agg #[.string ⟨#[]⟩,oo,oo,sn]),4,56):=kR
structure AtR(w:Wd)(b o k:Nat)(x:RT):Prop where
 c0:w (cw b (o+k*4))=some (nmV x.nm)
 c1:w (cw b (o+k*4+1))=x.n
 c2:w (cw b (o+k*4+2))=x.r
 c3:w (cw b (o+k*4+3))=some x.sl
theorem AtR.keep{w w':Wd}{b o k:Nat}{x:RT}(h:AtR w b o k x)(hb:Below w w w'):AtR w' b o k x:=⟨hb.keep h.c0,hb.keep h.c1,hb.keep h.c2,hb.keep h.c3⟩
def nC(w:Wd)(ts:List RT):Prop:= ∀x∈ts,Rd w x.a x.l
theorem nC.keep{w w':Wd}{ts:List RT}(h:nC w ts)(hb:Below w w w'):nC w' ts:=λx hx=>(h x hx).keep hb
def RdR(w:Wd)(a:OA)(ts:List RT):Prop:=
 ts.length<=1000000/\(ts=[]∨ ∃b o,a=cw b o/\ ∀k x,ts[k]? =some x->AtR w b o k x)
theorem RdR.keep{w w':Wd}{a:OA}{ts:List RT}(h:RdR w a ts)(hb:Below w w w'):RdR w' a ts:=
 ⟨h.1,h.2.imp id λ⟨b,o,ha,hc⟩=>⟨b,o,ha,λk x hk=>(hc k x hk).keep hb⟩⟩
theorem RdR.at{w:Wd}{a:OA}{l:List RT}(hr:RdR w a l)(h:0<l.length):∃b o,a=cw b o/\ ∀k x,l[k]? =some x->AtR w b o k x:=
 hr.2.resolve_left (by intro e;rw[e]at h;simp at h)
def iN(w:Wd)(B:Nat)(v:Value)(l:List RT):Prop:=w.ownsRow B 54 4 v l.length (fF l)
theorem iN.nil(w:Wd)(B:Nat):iN w B sn []:=World.ownsRow_nil _ _ _ _
theorem iN.lt{w:Wd}{B:Nat}{v:Value}{l:List RT}(h:iN w B v l):∀k,v.ownBlock=some k->B<=k/\k<w.heap.size:=World.ownsRow.lt h
theorem iN.keep{w w':Wd}{B:Nat}{v:Value}{l:List RT}(h:iN w B v l)(hb:Below w w w'):iN w' B v l:=
 World.ownsRow.kept h (row:=none) ⟨hb.os,hb.tape,hb.output,hb.size,λk hk _=>hb.block k hk⟩ (by cases hv:v.ownBlock <;> simp)
theorem iN.rd{w:Wd}{B:Nat}{v:Value}{l:List RT}(h:iN w B v l)(hl:l.length<=1000000):∃a c,v= .slice a l c/\RdR w a l:=by
 rcases h.2 with ⟨rfl,hn⟩|⟨g,cap,cur,rfl,hb,hg,hn,hc,hs,ht⟩
 ·obtain rfl:=Qz hn;exact⟨_,_,rfl,sM,.inl rfl⟩
 ·refine⟨_,_,rfl,hl,.inr ⟨g,0,rfl,λk x hk=> ?_⟩⟩;have hk':k<l.length:=(Qx.1 hk).1;obtain⟨h1,h2,h3,h4⟩:=Fp l k x hk;have c:=λj hj=>Ys (cap:=cap) h j hj;refine⟨?_,?_,?_,?_⟩
  ·rw[Nat.zero_add,c _ oM,h1]
  ·rw[Nat.zero_add,c _ oM,h2]
  ·rw[Nat.zero_add,c _ oM,h3]
  ·rw[Nat.zero_add,c _ oM,h4]
theorem iN.cap{w:Wd}{B:Nat}{a:OA}{n c:Nat}{l:List RT}(h:iN w B (.slice a n c) l):l.length<=c:=by
 rcases h.2 with ⟨h1,hn⟩|⟨g,cap,cur,h1,hb,hg,hn,hc,hs,ht⟩
 ·omega
 ·injection h1 with _ _ h1;omega
def cB(w:Wd)(v:Value)(F:Fam):Prop:= ∃a c ts,v= .agg #[F.N,.slice a ts.length c]/\RdR w a ts/\nC w ts/\ts.map RT.vol=F.vs/\ts.length<=c
theorem cB.keep{w w':Wd}{v:Value}{F:Fam}(h:cB w v F)(hb:Below w w w'):cB w' v F:=by
 obtain⟨a,c,ts,rfl,h1,h2,h3⟩:=h;exact⟨a,c,ts,rfl,h1.keep hb,h2.keep hb,h3⟩
def Je(ts:List RT)(nm:LU):Option Nat:=ts.findIdx? λx=>x.nm==nm
def atC(ts:List RT)(nm:LU):Int:=match Je ts nm with
 |some k=>k
 |none=> -1
theorem Ni{ts:List RT}{nm:LU}(h:∀x∈ts,(x.nm==nm)=false):atC ts nm= -1:=by
 have:Je ts nm=none:=List.findIdx?_eq_none_iff.2 h;simp[atC,this]
theorem ZG{ts:List RT}{nm:LU}{k:Nat}(hk:k<ts.length)(h:∀x∈ts.take k,(x.nm==nm)=false)(he:(ts[k].nm==nm)=true):atC ts nm=k:=by
 have:Je ts nm=some k:=List.findIdx?_eq_some_iff_getElem.2 ⟨hk,he,λj hj=>by
  have:=h ts[j] (List.mem_take_iff_getElem.2 ⟨j,oM,rfl⟩)
  simpa using this⟩
 simp[atC,this]
theorem aGl(N:Int)(ts:List RT)(nm:LU)(a:OA)(c:Nat)(w:Wd)(hr:RdR w a ts):
  ep 57 #[.agg #[N,.slice a ts c],nmV nm] w (RB w (atC ts nm)):=by
 have hlen:=hr.1;have hb:=(bQ w).aIw (cq #[N,.slice a ts c] 28);have HB:=hD hb;have HR:=hD (hr.keep hb);clear hb hr;go_enter func57,ntmps57;go_wp2_with fail;have HC:Hid ((w.alloc (cq #[N,.slice a ts c] 28)).cell? (cw w 1)=some (.slice a ts c)):=hD sM;generalize w.alloc (cq #[N,.slice a ts c] 28)=w0 at *;go_loopw [5] (λi wr=>∃k:Nat,k<=ts.length/\i= .int .i64 k/\(∀x∈ts.take k,(x.nm==nm)=false)/\Below w0 w0 wr) (λi _=>ts.length-(intOf i).toNat)
 case atStart=>exact⟨0,Yf _,rfl,sM,bR⟩
 case round=>
  obtain⟨k,hk,rfl,hn,hB⟩:=hrel;have q1:=hB.keep HC.o;by_cases hlt:k<ts.length
  ·obtain ⟨b,o,rfl,hat⟩:=(HR.o.keep hB).at oM;have h1:=(hat k _ (Qa hlt)).c0;have HN:=hD hn;have HBB:=hD hB;have HFIN:=hD (λhe=>ZG hlt hn he);have HNX:=hD (λ(he:(ts[k].nm==nm)=false) (x:RT) (hx:x∈ts.take (k+1))=>by
    rw[Qh hlt,Qn,List.mem_singleton]at hx;rcases hx with hx|rfl
    ·exact hn x hx
    ·exact he)
   generalize ts[k]=x at *;cases hq:(x.nm==nm)
   ·have HQ:=hD hq;have he:(x.nm=nm)=False:=by simpa using hq
    clear hn hB hat;go_wp2;go_roundw
    case rel=>exact⟨k+1,oM,by go_num,HNX.o HQ.o,HBB.o⟩
    case measure=>simp[intOf];omega
   ·have HQ:=hD hq;have he:(x.nm=nm)=True:=by simpa using hq
    clear hn hB hat;go_wp2;go_ret;exact⟨by rw[HFIN.o HQ.o];rfl,HB.o.on HBB.o⟩
  ·obtain rfl:k=ts.length:=oM
   rw[List.take_length]at hn;have HA:=hD (Ni hn);have HBB:=hD hB;clear hn hB;go_wp2;go_ret;exact⟨by rw[HA.o];rfl,HB.o.on HBB.o⟩
structure RG(w W:Wd)(R:Nat):Prop where
 r0:W (cw R 0)=oo
 r1:W (cw R 1)=sn
 f0:W.frozen? (cw R 0)=false
 f1:W.frozen? (cw R 1)=false
 r2:∀i,2<=i->W (cw R i)=none
 le:w.heap.size<=R
 bel:Below w w W
theorem RG.lt{w W:Wd}{R:Nat}(h:RG w W R):R<W.heap.size:=Qj W (cw R 0) h.r0
theorem RG.aIx{w W W':Wd}{R:Nat}(h:RG w W R)(hb:Below W W W'):RG w W' R:=
 ⟨hb.keep h.r0,hb.keep h.r1,hb.aJc h.r0 h.f0,hb.aJc h.r1 h.f1,λi hi=>(hb.cell (p:=(cw R i)) h.lt).trans (h.r2 i hi),h.le,h.bel.on hb⟩
theorem RG.new(w W:Wd)(t:TypeId)(h:Below w w W):RG w (W.alloc (cq #[oo,sn] t)) W.heap.size:=by
 exact VO
section
variable{w W:Wd}{R:Nat}(h:RG w W R){u v:Value}
include h
theorem RG.cells:(fP W R u v).cell? (cw R 0)=some u/\(fP W R u v).cell? (cw R 1)=some v:=by
 constructor
 ·exact VM
 ·rw[Qi (u:=sn)];rw[Qk _ _ _ _ sM,h.r1]
theorem RG.below:Below w w (fP W R u v):=(h.bel.setCell h.le _).setCell h.le _
end
def aHo(w:Wd)(G:Fam)(e0:Int)(e:Ending)(w':Wd):Prop:= ∃gv,e= .returned (.tuple #[gv,e0])/\cB w' gv G/\Below w w w'
theorem cB.empty(w:Wd)(N:Nat):cB w (.agg #[N,sn]) ⟨N,[]⟩:=
 ⟨none,0,[],rfl,⟨sM,.inl rfl⟩,λx hx=>by simp at hx,rfl,Ye _⟩
theorem WE(n:Nat)(w:Wd)(hn:n<=65536):ep 53 #[n] w (aHo w ⟨n,[]⟩ 0):=by
 go_enter func53,ntmps53;go_wp2_with fail;refine br (.tuple #[.agg #[n,sn],oo]) ?_;exact⟨_,rfl,cB.empty _ _,bR.aIw _⟩
def lI(v:RT)(s:List RT × Bool)(x:RT):List RT × Bool:=
 let s1:=if (!s.2&& !bytesBefore x.nm v.nm)then (s.1++[v],true)else s
 if x.nm=v.nm then s1 else (s1.1++[x],s1.2)
def kJ(v:RT)(ts:List RT):List RT × Bool:=ts.foldl (lI v) ([],false)
def iF(ts:List RT)(v:RT):List RT:=if (kJ v ts).2 then (kJ v ts).1 else (kJ v ts).1++[v]
theorem Pn(v:RT)(ts:List RT)(k:Nat)(h:k<ts.length):kJ v (ts.take (k+1))=lI v (kJ v (ts.take k)) ts[k]:=by
 unfold kJ;rw[Qh h,List.foldl_append];rfl
def zX(ts:List RT):Prop:=ts.Pairwise λa b=>bytesBefore a.nm b.nm=true
def Jr(v:RT):List RT->List RT
 | []=>[v]
 |w::r=>if bytesBefore v.nm w.nm then v::w::r else w::Jr v r
def qP(ts:List RT)(nm:LU):List RT:=ts.filter λw=> !(w.nm==nm)
theorem YA(v:RT)(ts:List RT):(Jr v ts).map RT.vol=qW v.vol (ts.map RT.vol):=by
 induction ts with
 |nil=>rfl
 | cons w r ih=>
  have h:(bytesBefore v.vol.nm w.vol.nm)=bytesBefore v.nm w.nm:=rfl;unfold Jr;exact sh85
theorem Zl(ts:List RT)(nm:LU):(qP ts nm).map RT.vol=bZ (ts.map RT.vol) nm:=by
 unfold qP bZ;rw[List.filter_map];rfl
theorem Hz(v:RT):∀(ts:List RT) (out:List RT),ts.foldl (lI v) (out,true)=(out++qP ts v.nm,true)
 | [],out=>by simp[qP]
 | x::r,out=>by
  rw [List.foldl_cons];have:lI v (out,true) x=(out++qP [x] v.nm,true):=by
   unfold lI;by_cases h:x.nm=v.nm
   ·simp[qP,h]
   ·simp[qP,h]
  rw[this,Hz v r];simp[qP,List.filter_cons]
  split <;> simp
theorem CS(v:RT):∀(ts:List RT) (out:List RT),zX ts->
  (let s:=ts.foldl (lI v) (out,false);if s.2 then s.1 else s.1++[v])=out++Jr v (qP ts v.nm)
 | [],out,_=>by simp[qP,Jr]
 | x ::r,out,hs=>by
  have hs':=Yk.1 hs;rw[List.foldl_cons];by_cases hb:bytesBefore x.nm v.nm=true
  ·have hne:x.nm≠v.nm:=λe=>by rw[e,WideAt.bytes_irrefl]at hb;cases hb
   have hvb:bytesBefore v.nm x.nm=false:=by
    cases h:bytesBefore v.nm x.nm
    ·rfl
    ·have:=WideShapes.bytes_trans _ _ _ hb h;rw[WideAt.bytes_irrefl]at this;cases this
   have h1:lI v (out,false) x=(out++[x],false):=by simp[lI,hb,hne]
   rw[h1,CS v r _ hs'.2];have h2:qP (x::r) v.nm=x::qP r v.nm:=by simp[qP,List.filter_cons,hne]
   rw[h2];simp[Jr,hvb]
  ·have hb':bytesBefore x.nm v.nm=false:=by simpa using hb
   have h1:lI v (out,false) x=((out++[v])++qP [x] v.nm,true):=by
    unfold lI;by_cases h:x.nm=v.nm
    ·simp[qP,h,WideAt.bytes_irrefl]
    ·simp[qP,h,hb']
   rw [h1,Hz];have h3:∀y∈qP (x::r) v.nm,bytesBefore v.nm y.nm=true:=λy hy=>by
    simp only[qP,List.mem_filter,Bool.not_eq_true',beq_eq_false_iff_ne]at hy;obtain⟨hm,hn⟩:=hy;have hxy:x=y∨bytesBefore x.nm y.nm=true:=by
     rcases Yl.1 hm with h|h
     ·exact .inl h.symm
     ·exact .inr (hs'.1 y h)
    refine(WideAt.bytes_total v.nm y.nm λe=>hn e.symm).resolve_right λh=> ?_;rcases hxy with rfl|h5
    ·rw[h]at hb';cases hb'
    ·have:=WideShapes.bytes_trans _ _ _ h5 h;rw[this]at hb';cases hb'
   have h4:Jr v (qP (x::r) v.nm)=v::qP (x::r) v.nm:=by
    cases hd:qP (x::r) v.nm with
    |nil=>rfl
    | cons y s=>
     have:=h3 y (by rw[hd];simp);simp[Jr,this]
   rw[h4];simp[qP,List.filter_cons]
   split <;> simp
theorem Vu(ts:List RT)(v:RT)(h:zX ts):iF ts v=Jr v (qP ts v.nm):=by
 have:=CS v ts [] h;exact this.trans (List.nil_append _)
theorem Gm(ts:List RT)(v:RT)(h:zX ts):(iF ts v).map RT.vol=fV (ts.map RT.vol) v.vol:=by
 rw[Vu ts v h,YA,Zl];rfl
theorem Jo(v:RT)(ts:List RT):(kJ v ts).1.length<=ts.length+1:=by
 have:∀(ts:List RT) (s:List RT × Bool),(ts.foldl (lI v) s).1.length+(if (ts.foldl (lI v) s).2 then 0 else 1)<=s.1.length+ts.length+(if s.2 then 0 else 1):=by
  intro ts
  induction ts with
  |nil=>intro s;exact Ye _
  | cons x r ih=>
   intro s;rw[List.foldl_cons];refine Nat.le_trans (ih _) ?_;obtain⟨o,d⟩:=s;unfold lI;cases d <;> cases bytesBefore x.nm v.nm <;> by_cases h:x.nm=v.nm <;> simp[h] <;> omega
 have h:=this ts ([],false);simp only[kJ];simp at h;omega
theorem Ho{v:RT}{ts:List RT}{x:RT}(h:x∈(kJ v ts).1):x=v∨x∈ts:=by
 have:∀(ts:List RT) (s:List RT × Bool),x∈(ts.foldl (lI v) s).1->x∈s.1∨x=v∨x∈ts:=by
  intro ts
  induction ts with
  |nil=>intro s h;exact .inl h
  | cons y r ih=>
   intro s h;rw[List.foldl_cons]at h;rcases ih _ h with h|h|h
   ·obtain⟨o,d⟩:=s;unfold lI at h
    split at h <;> split at h <;> simp at h ⊢ <;> grind
   ·exact .inr (.inl h)
   ·exact .inr (.inr (List.mem_cons_of_mem _ h))
 rcases this ts ([],false) h with h|h
 ·simp at h
 ·exact h
theorem BK{v:RT}{ts:List RT}{x:RT}(h:x∈iF ts v):x=v∨x∈ts:=by
 unfold iF at h
 split at h
 ·exact Ho h
 ·rcases Qn.1 h with h|h
  ·exact Ho h
  ·exact .inl (by simpa using h)
structure WH(w W:Wd)(N:Int)(a:OA)(m c:Nat)(v:RT)(out:List RT)(O:Value):Prop where
 f1:W (cw w 1)=some (.slice a m c)
 v0:W (cw (cf w) 0)=some (nmV v.nm)
 v1:W (cw (cf w) 1)=v.n
 v2:W (cw (cf w) 2)=v.r
 v3:W (cw (cf w) 3)=some v.sl
 rg:RG w W (ch w)
 o0:W (cw (ci w) 0)=N
 o1:W (cw (ci w) 1)=some O
 fo:W.frozen? (cw (ci w) 1)=false
 own:iN W (w.heap.size+1+1+1+1) O out
theorem WH.lt{w W:Wd}{N:Int}{a:OA}{m c:Nat}{v:RT}{out:List RT}{O:Value}(h:WH w W N a m c v out O):w.heap.size+1+1+1<W.heap.size:=Qj W (cw (ci w) 0) h.o0
theorem WH.aIx{w W W':Wd}{N:Int}{a:OA}{m c:Nat}{v:RT}{out:List RT}{O:Value}(h:WH w W N a m c v out O)(hb:Below W W W'):WH w W' N a m c v out O:=
 ⟨hb.keep h.f1,hb.keep h.v0,hb.keep h.v1,hb.keep h.v2,hb.keep h.v3,h.rg.aIx hb,hb.keep h.o0,hb.keep h.o1,hb.aJc h.o1 h.fo,h.own.keep hb⟩
theorem iN.far{w:Wd}{B:Nat}{v:Value}{l:List RT}(h:iN w B v l)(p:Addr)(u:Value)(hp:v.ownBlock≠some p.block):iN (w.setCell p u) B v l:=by
 refine⟨h.1,h.2.imp id λ⟨g,cap,cur,hv,hb,hg,r⟩=>⟨g,cap,cur,hv,hb,?_,r⟩⟩;rw[RowKit.Below.heap_setCell _ _ _ _ (λe=>hp (by rw[hv];exact congrArg some e))];exact hg
theorem WH.put{w W W':Wd}{N:Int}{a:OA}{m c:Nat}{v:RT}{out:List RT}{O:Value}(h:WH w W N a m c v out O){O':Value}{out':List RT}(hg:W.grownBy W' O.ownBlock)
  (ho:iN W' (w.heap.size+1+1+1+1) O' out') (hw:O'.ownBlock=O.ownBlock∨O'.ownBlock=some W.heap.size):WH w (W'.setCell (cw (ci w) 1) O') N a m c v out' O':=by
 have hlt:=h.lt;have hlo:∀k,O.ownBlock=some k->w.heap.size+1+1+1+1<=k:=λk hk=>(h.own.lt k hk).1;have hk:∀k,k<w.heap.size+1+1+1+1->W'.heap[k]? =W.heap[k]? :=λk hk=>hg.block k oM λe=>by have:=hlo k e.symm;omega
 have hc:∀(b i:Nat),b<w.heap.size+1+1+1->(W'.setCell (cw (ci w) 1) O').cell? (cw b i)=W (cw b i):=λb i hb=>by
  rw[cell_far sO];exact World.cell?_of_block (hk b oM)
 have hf:∀(b i:Nat),b<w.heap.size+1+1+1+1->(W'.setCell (cw (ci w) 1) O').frozen? (cw b i)=W.frozen? (cw b i):=λb i hb=>by
  rw[Qb];exact World.frozen?_of_block (hk b hb)
 have q1:W' (cw (ci w) 1)=some O:=(World.cell?_of_block (hk (ci w) oM)).trans h.o1;refine⟨(hc _ _ oM).trans h.f1,(hc _ _ oM).trans h.v0,(hc _ _ oM).trans h.v1,(hc _ _ oM).trans h.v2,(hc _ _ oM).trans h.v3,?_,?_,Qi _ _ _ q1,(hf _ _ oM).trans h.fo,?_⟩
 ·exact⟨(hc _ _ oM).trans h.rg.r0,(hc _ _ oM).trans h.rg.r1,(hf _ _ oM).trans h.rg.f0,(hf _ _ oM).trans h.rg.f1,λi hi=>(hc _ _ oM).trans (h.rg.r2 i hi),h.rg.le,(h.rg.bel.grown hg oM λk hk=>by have:=hlo k hk;omega).setCell (p:=(cw (ci w) 1)) sO O'⟩
 ·rw[Qk _ _ _ _ sM];exact(World.cell?_of_block (hk (ci w) oM)).trans h.o0
 ·have:O'.ownBlock≠some (w.heap.size+1+1+1):=λe=>by have:=(ho.lt _ e).1;omega
  exact iN.far ho _ _ this
theorem iN.snoc{w:Wd}{B:Nat}{v:Value}{l:List RT}{y:RT}(h:w.ownsRow B 54 4 v (l.length+1) (fF l++y.cells)):iN w B v (l++[y]):=by
 unfold iN;rw[yK,Qg];have:fF [y]=y.cells:=by simp[fF]
 rw[this];exact h
theorem WH.app{w W w3:Wd}{N:Int}{a:OA}{m c n:Nat}{v y:RT}{out:List RT}{O v':Value}{t:TypeId}(h:WH w W N a m c v out O)
  (hown:w3.ownsRow (w.heap.size+1+1+1+1) 54 4 v' n (fF out++y.cells)) (hn:n=out.length+1) (hg:(W.alloc (cq #[nmV y.nm,y.n,y.r,y.sl] t)).grownBy w3 O.ownBlock)
  (hw:v'.ownBlock=O.ownBlock∨v'.ownBlock=some (W.heap.size+1)):WH w (w3.setCell (cw (ci w) 1) v') N a m c v (out++[y]) v':=
 (h.aIx (bR.aIw (cq #[nmV y.nm,y.n,y.r,y.sl] t))).put hg (iN.snoc (by rw[<-hn];exact hown)) (by simpa using hw)
theorem WH.pre{w W w3:Wd}{N:Int}{a:OA}{m c:Nat}{v y:RT}{out:List RT}{O:Value}{t:TypeId}(h:WH w W N a m c v out O)
  (hg:(W.alloc (cq #[nmV y.nm,y.n,y.r,y.sl] t)).grownBy w3 O.ownBlock):w3 (cw (ci w) 1)=some O/\w3.frozen? (cw (ci w) 1)=false:=by
 have h2:=h.aIx (bR.aIw (cq #[nmV y.nm,y.n,y.r,y.sl] t));have hb:=hg.block (ci w) h2.lt λe=>by have:=(h2.own.lt _ e.symm).1;omega
 exact⟨(World.cell?_of_block hb).trans h2.o1,(World.frozen?_of_block hb).trans h2.fo⟩
theorem WH.rows{w W:Wd}{N:Int}{a:OA}{m c:Nat}{v:RT}{out:List RT}{oa:OA}{n oc:Nat}{u z:Value}(h:WH w W N a m c v out (.slice oa n oc))(hn:n=out.length)(hl:out.length<=1000000):RdR (fP W (ch w) u z) oa out:=by
 subst hn;have hne:(Value.slice oa out oc).ownBlock≠some (w.heap.size+1+1):=λe=>by have:=(h.own.lt _ e).1;omega
 obtain⟨a',c',he,hr⟩:=(iN.far (iN.far h.own (cw (ch w) 0) u hne) (cw (ch w) 1) z hne).rd hl;injection he with he;rw[he];exact hr
structure XH(W:Wd)(Y:Nat)(x:RT):Prop where
 x0:W (cw Y 0)=some (nmV x.nm)
 x1:W (cw Y 1)=x.n
 x2:W (cw Y 2)=x.r
 x3:W (cw Y 3)=some x.sl
theorem XH.lt{W:Wd}{Y:Nat}{x:RT}(h:XH W Y x):Y<W.heap.size:=Qj W (cw Y 0) h.x0
theorem XH.new(W:Wd)(x:RT)(t:TypeId):XH (W.alloc (cq #[nmV x.nm,x.n,x.r,x.sl] t)) W x:=by
 refine⟨sM,sM,sM,sM⟩
theorem XH.fit(V:Wd)(B:Nat)(hB:V.heap.size=B)(x:RT)(t:TypeId):XH (V.alloc (cq #[nmV x.nm,x.n,x.r,x.sl] t)) B x:=by
 subst hB;exact XH.new _ _ _
theorem XH.aIx{W W':Wd}{Y:Nat}{x:RT}(h:XH W Y x)(hb:Below W W W'):XH W' Y x:=⟨hb.keep h.x0,hb.keep h.x1,hb.keep h.x2,hb.keep h.x3⟩
theorem XH.put{W W':Wd}{Y S:Nat}{x:RT}{row:Option Nat}{u:Value}(h:XH W Y x)(hg:W.grownBy W' row)(hO:row≠some Y)(hS:Y≠S):XH (W'.setCell (cw S 1) u) Y x:=by
 have hlt:=h.lt;have k:∀i,(W'.setCell (cw S 1) u).cell? (cw Y i)=W (cw Y i):=λi=>by
  rw[cell_far (by simpa using hS)];exact World.cell?_of_block (hg.block Y hlt λe=>hO e.symm)
 exact⟨(k 0).trans h.x0,(k 1).trans h.x1,(k 2).trans h.x2,(k 3).trans h.x3⟩
theorem oD:∀(a b:LU),Op.bytesLess a b=bytesBefore a b
 | [],[]=>rfl
 | [],_::_=>rfl
 |_::_,[]=>rfl
 |x::r,y::s=>by simp only[Op.bytesLess,bytesBefore,oD r s]
theorem new2(V:Wd)(B:Nat)(hB:V.heap.size=B)(x y:Value)(t:TypeId):(V.alloc (cq #[x,y] t)).cell? (cw B 0)=some x/\(V.alloc (cq #[x,y] t)).cell? (cw B 1)=some y/\(V.alloc (cq #[x,y] t)).frozen? (cw B 1)=false:=by
 subst hB;simp
theorem WH.new(w:Wd)(N:Int)(a:OA)(m c:Nat)(v:RT)(t1 t2 t3 t4:TypeId):
  WH w ((((w.alloc (cq #[N,.slice a m c] t1)).alloc (cq #[nmV v.nm,v.n,v.r,v.sl] t2)).alloc (cq #[oo,sn] t3)).alloc (cq #[N,sn] t4)) N a m c v [] sn:=by
 have hb1:=(bQ w).aIw (cq #[N,.slice a m c] t1);have hb2:=hb1.aIw (cq #[nmV v.nm,v.n,v.r,v.sl] t2);have hr:=RG.new w _ t3 hb2;rw[show((w.alloc (cq #[N,.slice a m c] t1)).alloc (cq #[nmV v.nm,v.n,v.r,v.sl] t2)).heap.size=w.heap.size+1+1 by simp]at hr;obtain⟨q0,q1,q2⟩:=new2 (((w.alloc (cq #[N,.slice a m c] t1)).alloc (cq #[nmV v.nm,v.n,v.r,v.sl] t2)).alloc (cq #[oo,sn] t3)) (ci w) sM N sn t4;refine⟨?_,?_,?_,?_,?_,hr.aIx (bR.aIw _),q0,q1,q2,iN.nil _ _⟩
 all_goals simp[Ya]
theorem Aa(N:Int)(ts:List RT)(v:RT)(a:OA)(c:Nat)(w:Wd)(hr:RdR w a ts)(hfew:ts.length<=1000):
  ep 101 #[.agg #[N,.slice a ts c],v.val] w λe w'=>∃a' c',e= .returned (.agg #[N,.slice a' (iF ts v).length c'])/\RdR w' a' (iF ts v)/\(iF ts v).length<=c'/\Below w w w':=by
 have hlen:=hr.1;have H0:=hD (WH.new w N a ts.length c v 28 54 28 28);have HR:=hD hr;clear hr;go_enter func101,ntmps101;go_wp2_with fail;generalize (((w.alloc (cq #[N,.slice a ts c] 28)).alloc (cq #[nmV v.nm,v.n,v.r,v.sl] 54)).alloc (cq #[oo,sn] 28)).alloc (cq #[N,sn] 28)=w0 at *;have HT:=hD (Pn v ts);have HLL:=hD (λk=>Jo v (ts.take k));go_loopw [6,7] (λd i wr=>∃(k:Nat) (O:Value),k<=ts.length/\i= .int .i64 k/\d= .bool (kJ v (ts.take k)).2/\WH w wr N a ts.length c v (kJ v (ts.take k)).1 O) (λ_ i _=>ts.length-(intOf i).toNat)
 case atStart=>exact⟨0,_,Yf _,rfl,rfl,H0.o⟩
 case round=>
  obtain⟨k,O,hk,rfl,rfl,hW⟩:=hrel;have q1:=hW.f1;by_cases hlt:k<ts.length
  ·obtain ⟨b,o,rfl,hat⟩:=(HR.o.keep hW.rg.bel).at oM;obtain⟨e0,e1,e2,e3⟩:=hat k _ (Qa hlt);have HW:=hD hW;have HTK:=hD (HT.o k hlt);have HLK:=hD (HLL.o k);generalize ts[k]=x at *;generalize kJ v (ts.take k)=s at *;have hX:=hW.aIx ((bQ wr).aIw (cq #[nmV x.nm,x.n,x.r,x.sl] 54));have HX:=hD hX;have v0:=hX.v0;have v1:=hX.v1;have v2:=hX.v2;have v3:=hX.v3;have o1:=hX.o1;have fo:=hX.fo;clear hat hW hX;obtain⟨out,d⟩:=s;dsimp only at HW HX HLK;obtain⟨oa,oc,rfl,_⟩:=HW.o.own.rd (by show out.length<=_;have:out.length<=_:=HLK.o;have:=List.length_take_le k ts;omega);have hol:out.length<=2000:=by have:out.length<=_:=HLK.o;have:=List.length_take_le k ts;omega
   obtain⟨i0,hi,hz0,hz1,hz2⟩:=info_parts PE;cases d
   ·cases hbl:Op.bytesLess x.nm v.nm
    ·cases heq:(x.nm==v.nm)
     ·go_wp2_with (at_builtin;refine aO _ rfl _ _ 26 rfl (w.heap.size+1+1+1+1) 54 i0 (.agg #[.string ⟨#[]⟩,oo,oo,sn]) 4 56 underlying26 hi hz0 hz1 hz2 rfl dE _ _ _ rfl (Qu HX.o.own _) ⟨_,0,none⟩ 1 1 (RT.cells v) rfl rfl ?c1 ?c2 aAl aFx ?c5 ?_)
      case c1=>
       intro j u hj
       match j,hj with
       |0,hj=>simp[RT.cells]at hj;subst hj;first|(simp[Addr.add];done)|exact(XH.fit _ _ sM v _).x0
       |1,hj=>simp[RT.cells]at hj;subst hj;first|(simp[Addr.add];done)|exact(XH.fit _ _ sM v _).x1
       |2,hj=>simp[RT.cells]at hj;subst hj;first|(simp[Addr.add];done)|exact(XH.fit _ _ sM v _).x2
       |3,hj=>simp[RT.cells]at hj;subst hj;first|(simp[Addr.add];done)|exact(XH.fit _ _ sM v _).x3
      case c2=>exact jS [v]
      case c5=>have:=HX.o.lt;simp only[World.size_alloc]at this ⊢;omega
      intro v' w3 hown hg hw;have hP:=HX.o.app hown sM hg (by simpa using hw);obtain⟨p1,pf1⟩:=HX.o.pre hg;have hXX:=(((XH.new wr x 54).aIx (bR.aIw (cq #[nmV v.nm,v.n,v.r,v.sl] 54))).put (S:=w.heap.size+1+1+1) (u:=v') hg (λe=>by have:=(HW.o.own.lt _ e).2;omega) (by have:=HW.o.lt;omega));obtain⟨va,vc,hv9,_⟩:=hP.own.rd pO;rw[show(out++[v]).length=out.length+1 by simp]at hv9;subst hv9;have HP:=hD hP;have HXX:=hD hXX;have v0:=hP.v0;have o1:=hP.o1;have fo:=hP.fo;obtain⟨x0,x1,x2,x3⟩:=hXX;clear hP hown hg hw e0 e1 e2 e3;have HSR:Hid (kJ v (ts.take (k+1))=(out++[v]++[x],true)):=hD (by
       rw[HTK.o];unfold lI;rw[<-oD,hbl]
       simp[show ¬x.nm=v.nm by simpa using heq])
      go_wp2_with (at_builtin;refine aO _ rfl _ _ 26 rfl (w.heap.size+1+1+1+1) 54 i0 (.agg #[.string ⟨#[]⟩,oo,oo,sn]) 4 56 underlying26 hi hz0 hz1 hz2 rfl dE _ _ _ rfl (Qu HP.o.own _) ⟨_,0,none⟩ 1 1 (RT.cells x) rfl rfl ?c1 ?c2 aAl aFx ?c5 ?_)
      case c1=>
       intro j u hj
       match j,hj with
       |0,hj=>simp[RT.cells]at hj;subst hj;first|(simp[Addr.add];done)|exact(XH.fit _ _ sM x _).x0
       |1,hj=>simp[RT.cells]at hj;subst hj;first|(simp[Addr.add];done)|exact(XH.fit _ _ sM x _).x1
       |2,hj=>simp[RT.cells]at hj;subst hj;first|(simp[Addr.add];done)|exact(XH.fit _ _ sM x _).x2
       |3,hj=>simp[RT.cells]at hj;subst hj;first|(simp[Addr.add];done)|exact(XH.fit _ _ sM x _).x3
      case c2=>exact jS [x]
      case c5=>have:=HP.o.lt;simp only[World.size_alloc]at this ⊢;omega
      intro v'' w5 hown hg hw;have hP2:=HP.o.app hown sM hg (by simpa using hw);obtain⟨p2,pf2⟩:=HP.o.pre hg;obtain⟨vb,vd,hv9,_⟩:=hP2.own.rd pO;rw[show(out++[v]++[x]).length=out.length+2 by simp]at hv9;subst hv9;have HP2:=hD hP2;clear hP2 hown hg hw;go_wp2;go_roundw
      case rel=>exact⟨k+1,_,oM,by go_num,by rw[HSR.o],by rw[HSR.o];exact HP2.o⟩
      case measure=>simp[intOf];omega
     ·have HSR:Hid (kJ v (ts.take (k+1))=(out++[v],true)):=hD (by
       rw[HTK.o];unfold lI;rw[<-oD,hbl]
       simp[show x.nm=v.nm by simpa using heq])
      go_wp2_with (at_builtin;refine aO _ rfl _ _ 26 rfl (w.heap.size+1+1+1+1) 54 i0 (.agg #[.string ⟨#[]⟩,oo,oo,sn]) 4 56 underlying26 hi hz0 hz1 hz2 rfl dE _ _ _ rfl (Qu HX.o.own _) ⟨_,0,none⟩ 1 1 (RT.cells v) rfl rfl ?c1 ?c2 aAl aFx ?c5 ?_)
      case c1=>
       intro j u hj
       match j,hj with
       |0,hj=>simp[RT.cells]at hj;subst hj;first|(simp[Addr.add];done)|exact(XH.fit _ _ sM v _).x0
       |1,hj=>simp[RT.cells]at hj;subst hj;first|(simp[Addr.add];done)|exact(XH.fit _ _ sM v _).x1
       |2,hj=>simp[RT.cells]at hj;subst hj;first|(simp[Addr.add];done)|exact(XH.fit _ _ sM v _).x2
       |3,hj=>simp[RT.cells]at hj;subst hj;first|(simp[Addr.add];done)|exact(XH.fit _ _ sM v _).x3
      case c2=>exact jS [v]
      case c5=>have:=HX.o.lt;simp only[World.size_alloc]at this ⊢;omega
      intro v' w3 hown hg hw;have hP:=HX.o.app hown sM hg (by simpa using hw);obtain⟨p1,pf1⟩:=HX.o.pre hg;have hXX:=(((XH.new wr x 54).aIx (bR.aIw (cq #[nmV v.nm,v.n,v.r,v.sl] 54))).put (S:=w.heap.size+1+1+1) (u:=v') hg (λe=>by have:=(HW.o.own.lt _ e).2;omega) (by have:=HW.o.lt;omega));obtain⟨va,vc,hv9,_⟩:=hP.own.rd pO;rw[show(out++[v]).length=out.length+1 by simp]at hv9;subst hv9;have HP:=hD hP;have v0:=hP.v0;have o1:=hP.o1;have fo:=hP.fo;obtain⟨x0,x1,x2,x3⟩:=hXX;clear hP hown hg hw e0 e1 e2 e3;go_wp2;go_roundw
      case rel=>exact⟨k+1,_,oM,by go_num,by rw[HSR.o],by rw[HSR.o];exact HP.o⟩
      case measure=>simp[intOf];omega
    ·cases heq:(x.nm==v.nm)
     ·have HSR:Hid (kJ v (ts.take (k+1))=(out++[x],false)):=hD (by
       rw[HTK.o];unfold lI
       simp[<-oD,hbl,show ¬x.nm=v.nm by simpa using heq])
      exact sh84
     ·exfalso;rw[oD,show x.nm=v.nm by simpa using heq,WideAt.bytes_irrefl]at hbl;cases hbl
   ·cases heq:(x.nm==v.nm)
    ·have HSR:Hid (kJ v (ts.take (k+1))=(out++[x],true)):=hD (by
      rw[HTK.o];unfold lI
      simp[show ¬x.nm=v.nm by simpa using heq])
     exact sh84
    ·have HSR:Hid (kJ v (ts.take (k+1))=(out,true)):=hD (by
      rw[HTK.o];unfold lI
      simp[show x.nm=v.nm by simpa using heq])
     go_wp2;go_roundw
     case rel=>exact⟨k+1,_,oM,by go_num,by rw[HSR.o],by rw[HSR.o];exact HX.o⟩
     case measure=>simp[intOf];omega
  ·obtain rfl:k=ts.length:=oM
   have hwr:iF ts v=if (kJ v (ts.take ts.length)).2 then (kJ v (ts.take ts.length)).1 else (kJ v (ts.take ts.length)).1++[v]:=by rw[List.take_length];rfl
   have HWR:=hD hwr;have HLK:=hD (HLL.o ts.length);clear hwr;generalize kJ v (ts.take ts.length)=s at *;obtain⟨out,d⟩:=s;dsimp only at HLK HWR hW;have hol:out.length<=2000:=by have:out.length<=_:=HLK.o;have:=List.length_take_le ts.length ts;omega
   obtain⟨oa,oc,hv9,hrd⟩:=hW.own.rd oM;subst hv9;have HW:=hD hW;have HRD:=hD hrd;have v0:=hW.v0;have v1:=hW.v1;have v2:=hW.v2;have v3:=hW.v3;have o0:=hW.o0;have o1:=hW.o1;have fo:=hW.fo;have r0:=hW.rg.r0;have r1:=hW.rg.r1;have g0:=hW.rg.f0;have g1:=hW.rg.f1;clear hW hrd;cases d
   ·have HWT:Hid (iF ts v=out++[v]):=hD HWR.o;obtain⟨i0,hi,hz0,hz1,hz2⟩:=info_parts PE
    go_wp2_with (at_builtin;refine aO _ rfl _ _ 26 rfl (w.heap.size+1+1+1+1) 54 i0 (.agg #[.string ⟨#[]⟩,oo,oo,sn]) 4 56 underlying26 hi hz0 hz1 hz2 rfl dE _ _ _ rfl (Qu HW.o.own _) ⟨_,0,none⟩ 1 1 (RT.cells v) rfl rfl ?c1 ?c2 aAl aFx ?c5 ?_)
    case c1=>
     intro j u hj
     match j,hj with
     |0,hj=>simp[RT.cells]at hj;subst hj;first|(simp[Addr.add];done)|exact(XH.fit _ _ sM v _).x0
     |1,hj=>simp[RT.cells]at hj;subst hj;first|(simp[Addr.add];done)|exact(XH.fit _ _ sM v _).x1
     |2,hj=>simp[RT.cells]at hj;subst hj;first|(simp[Addr.add];done)|exact(XH.fit _ _ sM v _).x2
     |3,hj=>simp[RT.cells]at hj;subst hj;first|(simp[Addr.add];done)|exact(XH.fit _ _ sM v _).x3
    case c2=>exact jS [v]
    case c5=>have:=HW.o.lt;simp only[World.size_alloc]at this ⊢;omega
    intro v' w3 hown hg hw;have hP:=HW.o.app hown sM hg (by simpa using hw);obtain⟨p1,pf1⟩:=HW.o.pre hg;obtain⟨va,vc,hv9,_⟩:=hP.own.rd pO;have hl9:(out++[v]).length=out.length+1:=by simp
    rw[hl9]at hv9;subst hv9;have HP:=hD hP;have o0:=hP.o0;have o1:=hP.o1;have r0:=hP.rg.r0;have r1:=hP.rg.r1;have g0:=hP.rg.f0;have g1:=hP.rg.f1;clear hP hown hg hw;go_wp2_with fail;obtain⟨j0,j1⟩:=HP.o.rg.cells (u:=N) (v:= .slice va (out.length+1) vc);have HBL:=hD (HP.o.rg.below (u:=N) (v:= .slice va (out.length+1) vc));have HRR:=hD (HP.o.rows (u:=N) (z:= .slice va (out.length+1) vc) sM pO);clear hl9;refine br (.agg #[N,.slice va (out.length+1) vc]) ?_;rw[HWT.o];exact⟨va,vc,sM,HRR.o,HP.o.own.cap,HBL.o⟩
   ·have HWT:Hid (iF ts v=out):=hD HWR.o;go_wp2_with fail;obtain⟨j0,j1⟩:=HW.o.rg.cells (u:=N) (v:= .slice oa out oc);have HBL:=hD (HW.o.rg.below (u:=N) (v:= .slice oa out oc));have HRR:Hid (RdR (fP wr (ch w) N (.slice oa out oc)) oa out):=hD (HW.o.rows rfl oM);refine br (.agg #[N,.slice oa out oc]) ?_;rw[HWT.o];exact⟨oa,⟨oc,rfl,HRR.o,HW.o.own.cap,HBL.o⟩⟩
structure aCu(N:Nat)(ts:List RT):Prop where
 hN:N<=65536
 few:ts.length<=33
 perm:∀x∈ts,aQ N x.l=true
 wf:∀x∈ts,wfL x.l
 short:∀x∈ts,x.l.length<=65536
abbrev rM(N:Nat)(ts:List RT):List Int:=tC N (ts.map RT.vol)
theorem EY(N:Nat)(ts:List RT)(k:Nat)(h:k<ts.length):rM N (ts.take (k+1))=eU (rM N (ts.take k)) ts[k].l 1:=by
 have:=QH N (ts.map RT.vol) k (by simpa using h);rw[<-List.map_take,<-List.map_take]at this;refine(show rM N (ts.take (k+1))=_ from this).trans ?_;rw[List.getElem_map];rfl
theorem aCu.range{N:Nat}{ts:List RT}(h:aCu N ts)(k:Nat):inR 0 1000000000 (rM N (ts.take k)):=by
 have h0:(List.replicate N (0:Int)).length=N:=by simp
 have:∀k,k<=ts.length->inR 0 (65536*k) (rM N (ts.take k)):=by
  intro k
  induction k with
  |zero=>intro _;simp only[rM,List.take_zero,List.map_nil,tC,List.foldl_nil];intro x hx;rw[List.mem_replicate]at hx;omega
  | succ k ih=>
   intro hk;rw[EY N ts k oM];have h1:=Zx (C:=rM N (ts.take k)) (l:=ts[k].l) (by rw[lZ];exact h.perm _ (Qm oM)) (ih oM);have:=h.short _ (Qm (show k<ts.length by omega));exact gH h1 oM oM
 have hf:=h.few;by_cases hk:k<=ts.length
 ·exact gH (this k hk) oM oM
 ·rw[Qq oM,<-List.take_length (l:=ts)];exact gH (this ts.length (Ye _)) oM oM
theorem Oq(N:Nat)(ts:List RT)(a:OA)(c:Nat)(w:Wd)(hr:RdR w a ts)(hl:nC w ts)(hf:aCu N ts):
  ep 59 #[.agg #[N,.slice a ts c]] w λe w'=>∃v,e= .returned v/\dG w' w v (rM N ts)/\Below w w w':=by
 have hlen:=hr.1;have hb:=(bQ w).aIw (cq #[N,.slice a ts c] 28);have HB:=hD hb;have HR:=hD (hr.keep hb);have HL:=hD (hl.keep hb);have HF:=hD hf;clear hb hr hl hf;go_enter func59,ntmps59;go_wp2_with fail;refine(Wx N _ HF.o.hN).m ?_;rintro e w1 ⟨v,rfl,ho,hb1⟩;obtain⟨a1,c1,rfl,_⟩:=ho.rd (by simpa using HF.o.hN);have HO:=hD ho;have hB1:=HB.o.on hb1;have HB1:=hD hB1;have HC:Hid (w1 (cw w 1)=some (.slice a ts c)):=hD (hb1.keep sM);have HR1:=hD (HR.o.keep hb1);have HL1:=hD (HL.o.keep hb1);clear ho hb1 hB1 HR HL HB;go_wp2_with fail;have HTK:=hD (EY N ts);have h0:dG w1 w (.slice a1 N c1) (rM N (ts.take 0)):=by
  have h9:=HO.o;rw[Yt]at h9;exact h9.mono sM
 have HL0:=hD (show ∀k,(rM N (ts.take k)).length=N fromλk=>lZ _ _);go_loopw [3,5] (λv i wr=>∃k:Nat,k<=ts.length/\i= .int .i64 k/\dG wr w v (rM N (ts.take k))/\Below w1 w1 wr) (λ_ i _=>ts.length-(intOf i).toNat)
 case atStart=>exact⟨0,Yf _,rfl,h0,bR⟩
 case round=>
  obtain⟨k,hk,rfl,hn,hB⟩:=hrel;have q1:=hB.keep HC.o;have HN:=hD hn;have HBB:=hD hB;by_cases hlt:k<ts.length
  ·obtain⟨b,o,rfl,hat⟩:=(HR1.o.keep hB).at oM;have h1:=(hat k _ (Qa hlt)).c3;have hm:=Qm hlt;obtain⟨a3,c3,rfl,hr3⟩:=hn.rd (by rw[HL0.o];exact HF.o.hN);have hAD:=WS (rM N (ts.take k)) ts[k].l a3 ts[k].a c3 ts[k].c wr hr3 ((HL1.o.keep hB) _ hm) (HF.o.wf _ hm) (by rw[HL0.o];exact HF.o.perm _ hm) (HF.o.range k) (by have:=HF.o.short _ hm;omega);rw[<-HTK.o k hlt]at hAD;have HAD:=hD hAD;generalize ts[k]=x at *;clear hat hm hr3 hAD hn hB h0;go_wp2_with fail;refine HAD.o.m ?_;rintro e w3 ⟨v3,rfl,ho3,hb3⟩;have HQ:=hD (ho3.mono (HB1.o.on HBB.o).size);have HBB3:=hD (HBB.o.on hb3);clear ho3 hb3;go_wp2_with fail;go_roundw
   case rel=>exact⟨k+1,oM,by go_num,HQ.o,HBB3.o⟩
   case measure=>simp[intOf];omega
  ·obtain rfl:k=ts.length:=oM
   rw[List.take_length]at HN;clear hn hB h0;go_wp2;go_ret;exact⟨_,rfl,HN.o,HB1.o.on HBB.o⟩
section
variable{W W':Wd}{T R:Nat}{t:TypeId}{u v x y:Value}
theorem Bx.rows(h:Bx W T t u v){a:OA}{ts:List RT}(hr:RdR W a ts):RdR (fP W T x y) a ts:=by
 refine ⟨hr.1,hr.2.imp id λ⟨b,o,ha,hat⟩=>⟨b,o,ha,λk z hk=> ?_⟩⟩;have q:=hat k z hk;have hne:b≠T:=λe=>by
  subst e;have h1:=q.c3;rw[h.c2 _ oM]at h1;cases h1
 exact VN
theorem Bx.famR(h:Bx W T t u v){gv:Value}{F:Fam}(hf:cB W gv F):cB (fP W T x y) gv F:=by
 obtain⟨a,c,ts,h1,h2,h3,h4⟩:=hf;exact⟨a,c,ts,h1,h.rows h2,λz hz=>h.rd (h3 z hz),h4⟩
end
theorem RG.bx{w W:Wd}{R:Nat}(h:RG w W R){u v:Value}{gv:Value}{F:Fam}(hf:cB W gv F):cB (fP W R u v) gv F:=by
 obtain ⟨a,c,ts,h1,h2,h3,h4⟩:=hf;have k:∀(b i:Nat) (z:Value),2<=i->W (cw b i)=some z->b≠R:=λb i z hi hc e=>by
  subst e;rw[h.r2 _ hi]at hc;cases hc
 refine⟨a,c,ts,h1,⟨h2.1,h2.2.imp id λ⟨b,o,ha,hat⟩=>⟨b,o,ha,λj z hj=> ?_⟩⟩,λz hz=>⟨(h3 z hz).1,(h3 z hz).2.imp id λ⟨b,o,ha,hat⟩=>⟨b,o,ha,λj e hj=> ?_⟩⟩,h4⟩
 ·have q:=hat j z hj;have hne:=k b _ _ oM q.c3;exact VN
 ·have q:=hat j e hj;have hne:=k b _ _ oM q.s;exact sh89
theorem BD{x:E}(h:okB x=true):x.wf:=by
 obtain⟨c1,c2,c3,c4,c5⟩:=(aB x).1 h;unfold E.wf;omega
theorem aHa{F:Fam}(hF:F.ok){ts:List RT}(h:ts.map RT.vol=F.vs):aCu F.N ts:=by
 have hm:∀x∈ts,x.vol∈F.vs:=λx hx=>by rw[<-h];exact Yr hx
 have hl:=congrArg List.length h;rw[Yy]at hl;exact⟨hF.hN,by have:=hF.few;omega,λx hx=>(hF.vol _ (hm x hx)).perm,λx hx y hy=>BD (aL (hF.vol _ (hm x hx)).valid y hy),λx hx=>(hF.vol _ (hm x hx)).short.1⟩
theorem wY{F:Fam}(hF:F.ok){ts:List RT}(h:ts.map RT.vol=F.vs):zX ts:=by
 have:=hF.sorted;rw[<-h]at this;exact List.pairwise_map.1 this
theorem kE{F:Fam}(hF:F.ok){ts:List RT}(h:ts.map RT.vol=F.vs):ts.length=F.vs.length/\ts.length<=32:=by
 have hl:=congrArg List.length h;rw[Yy]at hl;exact⟨hl,by have:=hF.few;omega⟩
theorem counts_of{F:Fam}{ts:List RT}(h:ts.map RT.vol=F.vs):rM F.N ts=F.C:=by
 unfold rM Fam.C;rw[h]
theorem mG{F:Fam}{ts:List RT}(h:ts.map RT.vol=F.vs){nm:LU}(hn:aN F.vs nm=none):atC ts nm= -1:=by
 refine Ni λx hx=> ?_;have:x.nm≠nm:=xJ.1 hn x.vol (by rw[<-h];exact Yr hx)
 simpa using this
theorem gK{F:Fam}{ts:List RT}(h:ts.map RT.vol=F.vs){nm:LU}{v:Vol}(hn:aN F.vs nm=some v):∃(k:Nat) (hk:k<ts.length),atC ts nm=k/\ts[k].vol=v/\ts[k].nm=nm:=by
 cases hp:Je ts nm with
 | none=>
  exfalso;have h1:=List.findIdx?_eq_none_iff.1 hp;obtain⟨h2,h3⟩:=aC hn;rw[<-h]at h2;obtain⟨x,hx,rfl⟩:=Yd.1 h2;have h3:x.nm=nm:=h3;have:=h1 x hx;rw[h3]at this;simp at this
 | some k=>
  obtain⟨hk,h1,h2⟩:=List.findIdx?_eq_some_iff_getElem.1 hp;have h3:ts[k].nm=nm:=by simpa using h1
  refine ⟨k,hk,by simp[atC,hp],?_,h3⟩;have h4:aN F.vs nm=some ts[k].vol:=by
   rw [<-h];unfold aN;rw[List.find?_map];have:ts.find? ((λw:Vol=>w.nm==nm) ∘ RT.vol)=some ts[k]:=by
    refine List.find?_eq_some_iff_getElem.2 ⟨by show(ts[k].nm==nm)=true;simpa using h3,k,hk,rfl,λj hj=> ?_⟩;have:=h2 j hj;show(!(ts[j].nm==nm))=true
    simpa using this
   rw[this];rfl
  rw[hn]at h4;exact(Qv h4).symm
theorem tX(F:Fam)(C:List Int)(hC:F.C=C)(ts:List RT)(a:OA)(c:Nat)(w:Wd)(hF:F.ok)(h:ts.map RT.vol=F.vs)(hr:RdR w a ts)(hl:nC w ts):
  ep 59 #[.agg #[F.N,.slice a ts c]] w λe w'=>∃v,e= .returned v/\dG w' w v C/\Below w w w':=by
 rw[<-hC,<-counts_of h];exact Oq F.N ts a c w hr hl (aHa hF h)
structure B22(w W:Wd)(a ag:OA)(n ng:Int)(m mg c cg:Nat):Prop where
 a0:W (cw w 0)=n
 a1:W (cw w 1)=some (.slice a m c)
 b0:W (cw (cf w) 0)=ng
 b1:W (cw (cf w) 1)=some (.slice ag mg cg)
 B:Below w w W
theorem B22.aIx{w W W':Wd}{a ag:OA}{n ng:Int}{m mg c cg:Nat}(h:B22 w W a ag n ng m mg c cg)(hb:Below W W W'):B22 w W' a ag n ng m mg c cg:=
 ⟨hb.keep h.a0,hb.keep h.a1,hb.keep h.b0,hb.keep h.b1,h.B.on hb⟩
theorem B22.new(w:Wd)(a ag:OA)(n ng:Int)(m mg c cg:Nat)(t:TypeId):B22 w ((w.alloc (cq #[n,.slice a m c] t)).alloc (cq #[ng,.slice ag mg cg] t)) a ag n ng m mg c cg:=by
 have k:∀i,((w.alloc (cq #[n,.slice a m c] t)).alloc (cq #[ng,.slice ag mg cg] t)).cell? (cw w i)=(w.alloc (cq #[n,.slice a m c] t)).cell? (cw w i):=λi=>Ya _ _ _ sM;obtain⟨h1,h2,_⟩:=new2 (w.alloc (cq #[n,.slice a m c] t)) (cf w) sM ng (.slice ag mg cg) t;exact⟨(k 0).trans sM,(k 1).trans sM,h1,h2,(bR.aIw _).aIw _⟩
theorem Bu(F G:Fam)(tf tg:List RT)(a ag:OA)(c cg:Nat)(w:Wd)(hF:F.ok)(hG:G.ok)(hN:G.N=F.N)(hf:tf.map RT.vol=F.vs)(hg:tg.map RT.vol=G.vs)
  (hr:RdR w a tf) (hl:nC w tf) (hrg:RdR w ag tg) (hlg:nC w tg):
  ep 102 #[.agg #[F.N,.slice a tf c],.agg #[G.N,.slice ag tg cg]] w λe w'=>∃v,e= .returned v/\aG w' w v (eY F G)/\Below w w w':=by
 obtain⟨i0,hi,hz0,hz1,hz2⟩:=info_parts kK;have H0:=hD (B22.new w a ag F.N G.N tf.length tg.length c cg 28);have hk:=((bQ w).aIw (cq #[F.N,.slice a tf c] 28)).aIw (cq #[G.N,.slice ag tg cg] 28);have HR:=hD (hr.keep hk);have HL:=hD (hl.keep hk);have HRG:=hD (hrg.keep hk);have HLG:=hD (hlg.keep hk);have HF:=hD hF;have HG:=hD hG;have HNN:=hD hN;have HVF:=hD hf;have HVG:=hD hg;have hlf:=hr.1;have hlg2:=hrg.1;have hNN:=hF.hN;obtain⟨CF,hCF⟩:∃C,F.C=C:=⟨_,rfl⟩;obtain⟨CG,hCG⟩:∃C,G.C=C:=⟨_,rfl⟩;have hl1:CF.length=F.N:=by rw[<-hCF,F.aIz]
 have hl2:CG.length=CF.length:=by rw[hl1,<-hN,<-hCG,G.aIz]
 have HFR:Hid (eY F G=bW (picks (oJ CF CG) CF.length)):=hD (by unfold eY;rw[hCF,hCG,hl1]);have HCF:=hD hCF;have HCG:=hD hCG;clear hCF hCG;clear hk hr hl hrg hlg hF hG hN hf hg;go_enter func102,ntmps102;go_wp2_with fail;generalize (w.alloc (cq #[F.N,.slice a tf c] 28)).alloc (cq #[G.N,.slice ag tg cg] 28)=w0 at *;have HH:=hD (H0.o.aIx bR.drew);have HBB:=hD (bQ w0).drew;have a0:=HH.o.a0;have a1:=HH.o.a1;have b0:=HH.o.b0;have b1:=HH.o.b1
 go_region_law (first
  |(go_simp;go_at_call_of 59 (Value.agg #[.int .i64 F.N,.slice a tf.length c]);refine(tX F CF HCF.o tf a c _ HF.o HVF.o (HR.o.keep HBB.o) (HL.o.keep HBB.o)).m ?_;rintro e wz ⟨va,rfl,hoa,hba⟩;have HOA:=hD (hoa.mono (Yf _));(try(have HOB:=hD (HOB.o.keep hba)));have HBB:=hD (HBB.o.on hba);have HH:=hD (HH.o.aIx hba);clear a0 a1 b0 b1;have a0:=HH.o.a0;have a1:=HH.o.a1;have b0:=HH.o.b0;have b1:=HH.o.b1)
  |(go_simp;go_at_call_of 59 (Value.agg #[.int .i64 G.N,.slice ag tg.length cg]);refine(tX G CG HCG.o tg ag cg _ HG.o HVG.o (HRG.o.keep HBB.o) (HLG.o.keep HBB.o)).m ?_;rintro e wz ⟨vb,rfl,hob,hbb⟩;have HOB:=hD (hob.mono (Yf _));(try(have HOA:=hD (HOA.o.keep hbb)));have HBB:=hD (HBB.o.on hbb);have HH:=hD (HH.o.aIx hbb);clear a0 a1 b0 b1;have a0:=HH.o.a0;have a1:=HH.o.a1;have b0:=HH.o.b0;have b1:=HH.o.b1))
 all_goals
  obtain⟨pa,ca,rfl,hra⟩:=HOA.o.rd oM;obtain⟨pb,cb,rfl,hrb⟩:=HOB.o.rd oM;have HRA:=hD hra;have HRB:=hD hrb;have HWB:=hD (H0.o.B.on ((bQ w0).on HBB.o));clear hra hrb HOA HOB a0 a1 b0 b1 hoa hob hba hbb HH H0 HR HL HRG HLG HVF HVG HF HG;generalize hww:wz=w5 at *;clear hww;go_wp2_with fail;go_loopw [7,8] (λv i wr=>∃k:Nat,k<=CF.length/\i= .int .i64 k/\aG wr w5 v (picks (oJ CF CG) k)/\Below w5 w5 wr) (λ_ i _=>CF.length-(intOf i).toNat)
  case atStart=>exact⟨0,Yf _,rfl,aG.nil _ _,bR⟩
  case round=>
   obtain⟨k,hk,rfl,ho,hB⟩:=hrel;by_cases hlt:k<CF.length
   ·obtain ⟨b1,o1,rfl,hat1⟩:=(HRA.o.keep hB).at oM;obtain⟨b2,o2,rfl,hat2⟩:=(HRB.o.keep hB).at oM;have h1:=hat1 k _ (getD_some CF k hlt);have h2:=hat2 k _ (getD_some CG k oM);have hpl:=pI (oJ CF CG) k;have hsz:=hB.size;have HO:=hD ho;have HB:=hD hB;have hzb:oJ CF CG k=(decide (CG.getD k 0=0)&&decide (0<CF.getD k 0)):=rfl;have hk1:(k:Int)<CG.length:=oM
    cases hx:oJ CF CG k
    ·have HT:=hD (Em (oJ CF CG) k hx);rw[hx]at hzb;have HZ:=hD hzb;generalize CF.getD k 0=x at *;generalize CG.getD k 0=y at *;clear hat1 hat2 ho hB hzb hx;by_cases hx0:0<x
     ·have d1:decide (0<x)=true:=Qo hx0;have d2:(y==0)=false:=by
       have:=HZ.o;rw[d1,Bool.and_true]at this;have:¬ y=0:=Yh this.symm
       simpa using this
      exact sh86
     ·have d1:decide (0<x)=false:=Qp hx0;exact sh86
    ·have HT:=hD (GU (oJ CF CG) k hx);rw[hx]at hzb;have hb9:=Bool.and_eq_true_iff.1 hzb.symm;have d1:=hb9.2;have d2:CG.getD k 0=0:=Qt hb9.1;rw[d2]at h2;generalize CF.getD k 0=x at *;generalize picks (oJ CF CG) k=R at *;clear hat1 hat2 ho hB hzb hx hb9 d2
     go_wp2_with (at_builtin;refine aO _ rfl _ _ 52 rfl w5.heap.size 128 i0 (.agg #[oo,oo,oo]) 3 24 underlying52 hi hz0 hz1 hz2 rfl dE _ _ _ rfl (Qu HO.o _) (cw wr.heap.size 0) 1 1 (E.cells (single k)) rfl rfl (sI _ _ sM _ _) (dF _) (by first|omega|(simp only[List.length_nil,Qg,List.length_cons];omega)) (by first|(simp only[maxLen];omega)|(simp only[maxLen,List.length_nil,Qg,List.length_cons];omega)) (by simp only[World.size_alloc];omega) ?_;intro v1 w1 hown1 hgrow1 hwhere1)
     have hB4:=hD ((HB.o.aIw (cq #[oo,ol,k] 128)).aJa hgrow1 λj hj=>(HO.o.lt j hj).1);have HO4:=hD (aG.snoc hown1 sM);clear hown1 hgrow1 hwhere1;go_roundw
     case rel=>exact⟨k+1,oM,by go_num,by rw[HT.o];exact HO4.o,hB4.o⟩
     case measure=>simp[intOf];omega
   ·obtain rfl:k=CF.length:=oM
    have hpl:=pI (oJ CF CG) CF.length;obtain⟨a9,c9,rfl,hr9⟩:=ho.rd oM;have HW:=hD (Le (oJ CF CG) CF.length oM);have HFR9:=HFR.o;generalize picks (oJ CF CG) CF.length=R at *;have HB9:=hD (HWB.o.on hB);clear ho hB;go_wp2_with fail;refine(TD R _ _ _ hr9 HW.o).m ?_;rintro e w6 ⟨v,rfl,ho,hb⟩;have hsz:=HB9.o.size;go_wp2_with fail;go_ret;exact⟨_,rfl,by rw[HFR9];exact ho.mono hsz,HB9.o.on hb⟩
end Go.Proofs.YtphfgbbbejloaaaGreatDoor
