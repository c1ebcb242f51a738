/-
  package extree: concat, split.
  package extree: walk over list's function, list.
  package extree: Put.
  Conditions: as each theorem says.
-/
import Derived.Test.YtaiklhbakldfhaaGreatFaD
namespace Go.Proofs.YtaiklhbakldfhaaGreat
open Go.Lib (hid)
set_option linter.unusedSimpArgs false
set_option linter.unusedVariables false
set_option maxRecDepth 100000
set_option maxHeartbeats 16000000
open Go.RowKit
theorem aSc (l r:Tr) (vl vr:Value) (w:World) (hl:aF w vl l) (hr:aF w vr r) (h1:∀ x∈l.toL++r.toL,okB x=true) (h2:(l.toL++r.toL).length<=1000000):
  Calls Tryz.prog 164 #[vl,vr] w (Grown w (l.toL++r.toL)):=by
 obtain⟨al,rfl⟩:=hl.form
 cases r with
 | nil=>
  obtain rfl:vr= .pointer none:=hr;go_enter Tryz.func164,Tryz.ntmps164;go_wp2_with fail;go_ret;exact⟨_,l,rfl,hl,by simp[Tr.toL],Below.refl _ _⟩
 | node rl ry rr=>
  obtain ⟨ar,rfl⟩:=hr.form;have har:ar≠none:=by
   obtain⟨b2,_,_,hal,_⟩:=hr;cases hal;simp
  obtain ⟨p,rfl⟩:∃ p,ar=some p:=by
   cases ar with
   |none=>exact absurd rfl har
   |some p=>exact⟨p,rfl⟩
  obtain ⟨x1,L1,hL1⟩:∃ x1 L1,(Tr.node rl ry rr).toL=x1::L1:=by
   cases h:(Tr.node rl ry rr).toL with
   |nil=>simp[Tr.toL]at h
   |cons a b=>exact⟨a,b,rfl⟩
  have HF:=hid (uF (.node rl ry rr) (.pointer (some p)) w x1 L1 hL1 hr ⟨fun x hx=>h1 x (by simp[hx]),by rw[List.length_append]at h2;show(Tr.node rl ry rr).toL.length<=_;omega⟩);have HL:=hid hl;have HL1:=hid hL1;have H1:=hid h1;have H2:=hid h2;clear hl hr hL1 h1 h2 har;go_enter Tryz.func164,Tryz.ntmps164;go_wp2_with fail;refine HF.o.mono ?_;rintro e w1 ⟨v1,t1,rfl,ht1,hl1,hb1⟩;have HB1:=hid hb1;have HT1:=hid ht1;have HM1:=hid hl1;clear hb1 ht1 hl1;go_wp2_with fail;have hb2:Below w.heap.size w (w1.alloc (.cells #[.int .i64 x1.a,.int .i64 x1.n,.int .i64 x1.s] 81)):=HB1.o.bMq _;refine(fG l t1 x1 (.pointer al) v1 _ (aF.keep hb2 l HL.o) (aF.keep (by(repeat(first|exact Below.refl _ _|assumption|refine Below.bMt ?_ _|refine Below.bMq ?_ _|refine Below.setCell ?_ (by simp) _|refine Below.drew ?_))) t1 HT1.o) ⟨fun x hx=>H1.o x (by rw[HL1.o];simp only[Tr.toL,HM1.o]at hx;exact hx),by have:=H2.o;rw[HL1.o]at this;show(l.toL++x1::t1.toL).length<=_;rw[HM1.o];exact this⟩).mono ?_;rintro e w2 ⟨v2,t2,rfl,ht2,hl2,hb3⟩;have hb4:=hb2.on hb3;clear hb3 hb2;go_wp2_with fail;go_ret;exact⟨v2,t2,rfl,ht2,by rw[hl2,HM1.o,HL1.o],hb4⟩
theorem kN {l r:Tr} {x:E} {A B:List E} (hA:l.toL=A) (hB:r.toL=B) (h:∀ y∈A,okB y=true) (hx:okB x=true) (h':∀ y∈B,okB y=true) (hlen:A.length+1+B.length<=1000000):(Tr.node l x r).ok:=by
 subst hA;subst hB;refine⟨fun y hy=> ?_,by rw[Tr.bMy];exact hlen⟩;simp only[Tr.toL,List.mem_append,List.mem_cons]at hy;rcases hy with hy|rfl|hy
 ·exact h y hy
 ·exact hx
 ·exact h' y hy
def bCv (w:World) (A B:List E) (e:Ending) (w':World):Prop:=
 ∃va vb ta tb,e= .returned (.tuple #[va,vb])/\aF w' va ta/\aF w' vb tb/\ta.toL=A/\tb.toL=B/\Below w.heap.size w w'
theorem tJ (p:Int) (hp0:0<=p) (hp1:p<=131072) (t:Tr):∀ (v:Value) (w:World),aF w v t->t.ok->aI t.toL=true->
  Calls Tryz.prog 163 #[v,.int .i64 p] w (bCv w (aJ t.toL 0 p) (aJ t.toL p 65536)):=by
 induction t with
 | nil=>
  intro v w ht _ _;obtain rfl:v= .pointer none:=ht;go_enter Tryz.func163,Tryz.ntmps163;go_wp2_with fail
  (try simp only[Exit.inBlock,Exit.then])
  refine bodyPost_ret (results_tmp2 rfl _ _ _) rfl ?_;exact⟨_,_,.nil,.nil,rfl,rfl,rfl,rfl,rfl,Below.refl _ _⟩
 | node l x r ihl ihr=>
  intro v w ht hok hv;obtain⟨b,vl,vr,rfl,hn,hl,hr⟩:=ht;obtain⟨al,rfl⟩:=hl.form;obtain⟨ar,rfl⟩:=hr.form;obtain⟨c1,c2,c3,c4,c5⟩:=(aD x).1 (Tr.ok_mid hok);have z0:=hn.a;have z1:=hn.n;have z2:=hn.s;have z3:=hn.l;have z4:=hn.r;have HOK:=hid hok;have HV:=hid (show aI (l.toL++x::r.toL)=true from hv);have hk:=(Below.refl w.heap.size w).bMq (.cells #[.int .i64 x.a,.int .i64 x.n,.int .i64 x.s] 81);have HK:=hid hk;have HL:=hid hl;have HR:=hid hr;have HIL:=hid ihl;have HIR:=hid ihr;clear hn hl hr hok hv hk ihl ihr;by_cases h1:p<=x.a
  ·have HS:=hid (aTp HV.o p h1);go_enter Tryz.func163,Tryz.ntmps163;go_wp2_with fail;refine(HIL.o (.pointer al) _ (aF.keep HK.o l HL.o) (Tr.ok_left HOK.o) (iR HV.o).1).mono ?_;rintro e w1 ⟨va,vb,ta,tb,rfl,hta,htb,hA,hB,hb1⟩;have x0:w1.cell? ⟨w.heap.size,0,none⟩=some (.int .i64 x.a):=hb1.keep (by simp);have x1:w1.cell? ⟨w.heap.size,1,none⟩=some (.int .i64 x.n):=hb1.keep (by simp);have x2:w1.cell? ⟨w.heap.size,2,none⟩=some (.int .i64 x.s):=hb1.keep (by simp);have hb2:=HK.o.on hb1;have z4:=hb2.keep z4;have hlen:=Tr.bMy l r x;have hok2:=HOK.o.2;have hpl:=bU l.toL p 65536;have hlsz:l.toL.length=l.size:=rfl;have HJ:=hid (fG tb r x vb (.pointer ar) w1.drew (aF.keep (Below.refl _ _).drew tb htb) (aF.keep hb2.drew r HR.o) (kN hB rfl (dH l.toL _ _ (Tr.ok_left HOK.o).1) (Tr.ok_mid HOK.o) (Tr.bNa HOK.o).1 (by show _+1+r.size<=_;omega)));have HA:=hid hA;have HTA:=hid (aF.keep (Below.refl _ _).drew ta hta);have HB2:=hid hb2.drew;have HBB:=hid hB;clear hb1 hb2 hlen hok2 hpl hlsz hA hB hta htb;go_wp2_with fail
   go_region_held3 (fun w'=>w'.cell? ⟨b,4,none⟩=some (.pointer ar)/\w'.cell? ⟨w.heap.size,0,none⟩=some (.int .i64 x.a)/\w'.cell? ⟨w.heap.size,1,none⟩=some (.int .i64 x.n)/\w'.cell? ⟨w.heap.size,2,none⟩=some (.int .i64 x.s))
    (first
     |exact⟨z4,x0,x1,x2⟩
     |exact⟨hb4.keep z4,hb4.keep x0,hb4.keep x1,hb4.keep x2⟩)
    ((go_at_call 171;refine HJ.o.mono ?_;rintro e w4 ⟨v4,t4,rfl,ht4,hl4,hb4⟩))
   go_wp2_with fail
   (try simp only[Exit.inBlock,Exit.then])
   refine bodyPost_ret (results_tmp2 rfl _ _ _) rfl ?_;exact⟨_,_,ta,t4,rfl,aF.keep hb4 ta HTA.o,ht4,by rw[HA.o];exact HS.o.1.symm,by rw[hl4,HBB.o];exact HS.o.2.symm,HB2.o.on hb4⟩
  ·by_cases h2:x.a+x.n<=p
   ·have HS:=hid (aOp HV.o p h2);go_enter Tryz.func163,Tryz.ntmps163;go_wp2_with fail;refine(HIR.o (.pointer ar) _ (aF.keep HK.o r HR.o) (Tr.bNa HOK.o) (iR HV.o).2.2.1).mono ?_;rintro e w1 ⟨va,vb,ta,tb,rfl,hta,htb,hA,hB,hb1⟩;have x0:w1.cell? ⟨w.heap.size,0,none⟩=some (.int .i64 x.a):=hb1.keep (by simp);have x1:w1.cell? ⟨w.heap.size,1,none⟩=some (.int .i64 x.n):=hb1.keep (by simp);have x2:w1.cell? ⟨w.heap.size,2,none⟩=some (.int .i64 x.s):=hb1.keep (by simp);have hb2:=HK.o.on hb1;have z3:=hb2.keep z3;have hlen:=Tr.bMy l r x;have hok2:=HOK.o.2;have hpl:=bU r.toL 0 p;have hlsz:r.toL.length=r.size:=rfl;have HJ:=hid (fG l ta x (.pointer al) va w1.drew (aF.keep hb2.drew l HL.o) (aF.keep (Below.refl _ _).drew ta hta) (kN rfl hA (Tr.ok_left HOK.o).1 (Tr.ok_mid HOK.o) (dH r.toL _ _ (Tr.bNa HOK.o).1) (by show l.size+1+_<=_;omega)));have HA:=hid hA;have HTB:=hid (aF.keep (Below.refl _ _).drew tb htb);have HB2:=hid hb2.drew;have HBB:=hid hB;clear hb1 hb2 hlen hok2 hpl hlsz hA hB hta htb;go_wp2_with fail
    go_region_held3 (fun w'=>w'.cell? ⟨b,3,none⟩=some (.pointer al)/\w'.cell? ⟨w.heap.size,0,none⟩=some (.int .i64 x.a)/\w'.cell? ⟨w.heap.size,1,none⟩=some (.int .i64 x.n)/\w'.cell? ⟨w.heap.size,2,none⟩=some (.int .i64 x.s))
     (first
      |exact⟨z3,x0,x1,x2⟩
      |exact⟨hb4.keep z3,hb4.keep x0,hb4.keep x1,hb4.keep x2⟩)
     ((go_at_call 171;refine HJ.o.mono ?_;rintro e w4 ⟨v4,t4,rfl,ht4,hl4,hb4⟩))
    go_wp2_with fail
    (try simp only[Exit.inBlock,Exit.then])
    refine bodyPost_ret (results_tmp2 rfl _ _ _) rfl ?_;exact⟨_,_,t4,tb,rfl,ht4,aF.keep hb4 tb HTB.o,by rw[hl4,HA.o];exact HS.o.1.symm,by rw[HBB.o];exact HS.o.2.symm,HB2.o.on hb4⟩
   ·have HS:=hid (aZb HV.o p (by omega) (by omega));go_enter Tryz.func163,Tryz.ntmps163;go_wp2_with fail
    go_region
    have hb1:Below w.heap.size w ((w.alloc (.cells #[.int .i64 x.a,.int .i64 x.n,.int .i64 x.s] 81)).alloc (.cells #[.int .i64 x.a,.int .i64 (p-x.a),.int .i64 x.s] 81)).drew:=by(repeat(first|exact Below.refl _ _|assumption|refine Below.bMt ?_ _|refine Below.bMq ?_ _|refine Below.setCell ?_ (by simp) _|refine Below.drew ?_))
    have z0:=hb1.keep z0;have z1:=hb1.keep z1;have z2:=hb1.keep z2;have z3:=hb1.keep z3;have z4:=hb1.keep z4;have g0:(((w.alloc (.cells #[.int .i64 x.a,.int .i64 x.n,.int .i64 x.s] 81)).alloc (.cells #[.int .i64 x.a,.int .i64 (p-x.a),.int .i64 x.s] 81)).drew).cell? ⟨w.heap.size+1,0,none⟩=some (.int .i64 x.a):=by simp
    have g1:(((w.alloc (.cells #[.int .i64 x.a,.int .i64 x.n,.int .i64 x.s] 81)).alloc (.cells #[.int .i64 x.a,.int .i64 (p-x.a),.int .i64 x.s] 81)).drew).cell? ⟨w.heap.size+1,1,none⟩=some (.int .i64 (p-x.a)):=by simp
    have g2:(((w.alloc (.cells #[.int .i64 x.a,.int .i64 x.n,.int .i64 x.s] 81)).alloc (.cells #[.int .i64 x.a,.int .i64 (p-x.a),.int .i64 x.s] 81)).drew).cell? ⟨w.heap.size+1,2,none⟩=some (.int .i64 x.s):=by simp
    generalize ((w.alloc (.cells #[.int .i64 x.a,.int .i64 x.n,.int .i64 x.s] 81)).alloc (.cells #[.int .i64 x.a,.int .i64 (p-x.a),.int .i64 x.s] 81)).drew=w1 at *;go_wp2_with fail
    go_region
    have hb2:Below w1.heap.size w1 (w1.alloc (.cells #[.int .i64 p,.int .i64 (x.n-(p-x.a)),.int .i64 (x.s+(p-x.a))] 81)).drew:=by(repeat(first|exact Below.refl _ _|assumption|refine Below.bMt ?_ _|refine Below.bMq ?_ _|refine Below.setCell ?_ (by simp) _|refine Below.drew ?_))
    have z3:=hb2.keep z3;have z4:=hb2.keep z4;have g0:=hb2.keep g0;have g1:=hb2.keep g1;have g2:=hb2.keep g2;have j0:((w1.alloc (.cells #[.int .i64 p,.int .i64 (x.n-(p-x.a)),.int .i64 (x.s+(p-x.a))] 81)).drew).cell? ⟨w1.heap.size,0,none⟩=some (.int .i64 p):=by simp
    have j1:((w1.alloc (.cells #[.int .i64 p,.int .i64 (x.n-(p-x.a)),.int .i64 (x.s+(p-x.a))] 81)).drew).cell? ⟨w1.heap.size,1,none⟩=some (.int .i64 (x.n-(p-x.a))):=by simp
    have j2:((w1.alloc (.cells #[.int .i64 p,.int .i64 (x.n-(p-x.a)),.int .i64 (x.s+(p-x.a))] 81)).drew).cell? ⟨w1.heap.size,2,none⟩=some (.int .i64 (x.s+(p-x.a))):=by simp
    have hb3:=hb1.on hb2;generalize (w1.alloc (.cells #[.int .i64 p,.int .i64 (x.n-(p-x.a)),.int .i64 (x.s+(p-x.a))] 81)).drew=w2 at *;go_wp2_with fail;have hlen:=Tr.bMy l r x;have hok2:=HOK.o.2;have HJ1:=hid (fun w' (hb:Below w2.heap.size w2 w')=>fG l .nil ⟨x.a,p-x.a,x.s⟩ (.pointer al) (.pointer none) w' (aF.keep (hb3.on hb) l HL.o) rfl (kN rfl rfl (Tr.ok_left HOK.o).1 ((aD _).2 (by simp only;omega)) (by simp[Tr.toL]) (by show l.size+1+0<=_;omega)));have HJ2:=hid (fun w' (hb:Below w2.heap.size w2 w')=>fG .nil r ⟨p,x.n-(p-x.a),x.s+(p-x.a)⟩ (.pointer none) (.pointer ar) w' rfl (aF.keep (hb3.on hb) r HR.o) (kN rfl rfl (by simp[Tr.toL]) ((aD _).2 (by simp only;omega)) (Tr.bNa HOK.o).1 (by show 0+1+r.size<=_;omega)));have HB3:=hid hb3;clear hb1 hb2 hb3 hlen hok2 z0 z1 z2
    go_region_held3 (fun w'=>w'.cell? ⟨b,3,none⟩=some (.pointer al)/\w'.cell? ⟨b,4,none⟩=some (.pointer ar)/\w'.cell? ⟨w.heap.size+1,0,none⟩=some (.int .i64 x.a)/\w'.cell? ⟨w.heap.size+1,1,none⟩=some (.int .i64 (p-x.a))/\w'.cell? ⟨w.heap.size+1,2,none⟩=some (.int .i64 x.s)/\w'.cell? ⟨w1.heap.size,0,none⟩=some (.int .i64 p)/\w'.cell? ⟨w1.heap.size,1,none⟩=some (.int .i64 (x.n-(p-x.a)))/\w'.cell? ⟨w1.heap.size,2,none⟩=some (.int .i64 (x.s+(p-x.a))))
     (first
      |exact⟨z3,z4,g0,g1,g2,j0,j1,j2⟩
      |exact⟨hb4.keep z3,hb4.keep z4,hb4.keep g0,hb4.keep g1,hb4.keep g2,hb4.keep j0,hb4.keep j1,hb4.keep j2⟩
      |exact⟨hb5.keep (hb4.keep z3),hb5.keep (hb4.keep z4),hb5.keep (hb4.keep g0),hb5.keep (hb4.keep g1),hb5.keep (hb4.keep g2),hb5.keep (hb4.keep j0),hb5.keep (hb4.keep j1),hb5.keep (hb4.keep j2)⟩)
     (first
      |(go_at_call_of 171 (Value.pointer al);first|(refine(HJ1.o w2.drew (Below.refl _ _).drew).mono ?_;rintro e w4 ⟨v4,t4,rfl,ht4,hl4,hb4⟩)|(refine(HJ1.o w4 ((Below.refl w2.heap.size w2).drew.on hb4)).mono ?_;rintro e w5 ⟨v5,t5,rfl,ht5,hl5,hb5⟩))
      |(go_at_call_of 171 (Value.pointer none);first|(refine(HJ2.o w2.drew (Below.refl _ _).drew).mono ?_;rintro e w4 ⟨v4,t4,rfl,ht4,hl4,hb4⟩)|(refine(HJ2.o w4 ((Below.refl w2.heap.size w2).drew.on hb4)).mono ?_;rintro e w5 ⟨v5,t5,rfl,ht5,hl5,hb5⟩)))
    ·go_wp2_with fail
     (try simp only[Exit.inBlock,Exit.then])
     refine bodyPost_ret (results_tmp2 rfl _ _ _) rfl ?_;exact⟨_,_,t4,t5,rfl,aF.keep hb5 t4 ht4,ht5,by rw[hl4];exact HS.o.1.symm,by rw[hl5];exact HS.o.2.symm,(HB3.o.drew.on hb4).on hb5⟩
open Go.RowKit
theorem aHd {w w':World} {row:Option Nat} (hg:w.grownBy w' row) (a:Addr) (hlt:a.block<w.heap.size) (hne:some a.block≠row):w'.cell? a=w.cell? a/\w'.frozen? a=w.frozen? a:=by
 have:=hg.block a.block hlt hne;simp only[World.cell?,World.frozen?,this,and_self]
theorem aVr (w:World) (a:Addr) (u:Value):w.grownBy (w.setCell a u) (some a.block):=
 ⟨rfl,rfl,rfl,by simp[World.setCell],fun k hk hne=>Below.heap_setCell _ _ _ _ (fun e=>hne (by rw[e]))⟩
theorem aG.far {w:World} {B:Nat} {v:Value} {l:List E} (h:aG w B v l) (a:Addr) (u:Value) (hne:v.ownBlock≠some a.block):aG (w.setCell a u) B v l:=
 h.other (row:=some a.block) (aVr w a u) (.inr hne)
def LS (w0:World) (B:Nat) (w:World) (L:List E):Prop:=
 w0.heap.size<=B/\B<w.heap.size/\Below w0.heap.size w0 w/\ ∃sv,w.cell? ⟨B,0,none⟩=some sv/\w.frozen? ⟨B,0,none⟩=false/\aG w (B+1) sv L
theorem bAz (w0:World) (B:Nat) (L:List E) (x:E) (w:World) (h:LS w0 B w L) (hl:L.length<=1000000000):
  Calls Tryz.prog 210 #[.agg #[.int .i64 x.a,.int .i64 x.n,.int .i64 x.s],.pointer (some ⟨B,0,none⟩)] w fun e w'=>e= .returned (.bool true)/\LS w0 B w' (L++[x]):=by
 obtain⟨i0,hi,hz0,hz1,hz2⟩:=info_parts kV;obtain⟨hB0,hB1,hb,sv,hc,hf,ho⟩:=h;obtain⟨a0,c0,rfl,_⟩:=ho.rd (by omega);have hne:(Value.slice a0 L.length c0).ownBlock≠some B:=fun h=>by have:=(ho.lt B h).1;omega
 have HNE:=hid hne;have HO:=hid (aG.keep ho ((Below.refl w.heap.size w).bMq (.cells #[.int .i64 x.a,.int .i64 x.n,.int .i64 x.s] 81)));have HB:=hid hb;clear ho hb hne;go_enter Tryz.func210,Tryz.ntmps210
 go_wp2_with (at_builtin;go_loud (refine aM _ rfl _ _ 76 rfl (B+1) 81 i0 (.agg #[.int .i64 0,.int .i64 0,.int .i64 0]) 3 24 Tryz.underlying76 hi hz0 hz1 hz2 rfl (by decide) _ _ _ rfl (World.ownsRow.alloc HO.o _) ⟨w.heap.size+1,0,none⟩ 1 1 (E.cells x) rfl rfl (rF _ _ (by simp) _ _) (bX _) (by omega) (by simp only[maxLen];omega) (by simp only[World.size_alloc];omega) ?_;intro v1 w1 hown1 hgrow1 hwhere1;have ho1:=aG.snoc hown1 (by omega);obtain⟨a1,c1,rfl,hrd1⟩:=ho1.rd (by simp;omega);have hq:=aHd hgrow1 ⟨B,0,none⟩ (by simp only[World.size_alloc];omega) (fun h=>HNE.o h.symm);have hc1:w1.cell? ⟨B,0,none⟩=some (.slice a0 L.length c0):=hq.1.trans (by simp[hc]);have hf1:w1.frozen? ⟨B,0,none⟩=false:=hq.2.trans (by simp[hc,hf]);have HO1:=hid ho1;have HG:=hid hgrow1;clear hown1 hgrow1 hwhere1 ho1 hrd1 hq))
 go_ret;have hg:=HG.o;have h5:=aG.far HO1.o ⟨B,0,none⟩ (.slice a1 (L++[x]).length c1) fun h=>by have:B+1<=B:=(HO1.o.lt B h).1;omega
 rw[show(L++[x]).length=L.length+1 by simp]at h5;refine⟨rfl,hB0,?_,?_,_,World.cell?_setCell_same _ _ _ hc1,by rw[World.frozen?_setCell];exact hf1,h5⟩
 ·have:=hg.size;simp at this ⊢;omega
 ·refine Below.setCell ?_ hB0 _;exact(by(repeat(first|exact Below.refl _ _|assumption|refine Below.bMt ?_ _|refine Below.bMq ?_ _|refine Below.setCell ?_ (by simp) _|refine Below.drew ?_)):Below w0.heap.size w0 ((w.alloc _).alloc _)).grown hg (by simp;omega) (fun k hk=>by have:=(HO.o.lt k hk).1;omega)
theorem aYn (w0:World) (B:Nat) (t:Tr):∀ (v:Value) (L:List E) (w:World),aF w0 v t->LS w0 B w L->L.length+t.size<=1000000000->
  Calls Tryz.prog 161 #[v,.func (.func 210) #[] #[.pointer (some ⟨B,0,none⟩)]] w fun e w'=>e= .returned (.bool true)/\LS w0 B w' (L++t.toL):=by
 induction t with
 | nil=>
  intro v L w ht hL _;obtain rfl:v= .pointer none:=ht;go_enter Tryz.func161,Tryz.ntmps161;go_wp2_with fail;go_ret;exact⟨rfl,by simpa [Tr.toL]using hL⟩
 | node l x r ihl ihr=>
  intro v L w ht hL hlen;obtain⟨b,vl,vr,rfl,hn,hl,hr⟩:=ht;obtain⟨al,rfl⟩:=hl.form;obtain⟨ar,rfl⟩:=hr.form;rw[Tr.bMy]at hlen;have hlsz:l.toL.length=l.size:=rfl;have hb0:=hL.2.2.1;have z0:=hb0.keep hn.a;have z1:=hb0.keep hn.n;have z2:=hb0.keep hn.s;have z3:=hb0.keep hn.l;have HN:=hid hn;have HL:=hid (ihl (.pointer al) L w hl hL (by omega));have HR:=hid (fun L w hL hlen=>ihr (.pointer ar) L w hr hL hlen);clear hl hr ihl ihr hb0 hL hn;go_enter Tryz.func161,Tryz.ntmps161
  go_wp2_with (first
   |(go_at_call_of 161 (Value.pointer al);refine HL.o.mono ?_;rintro e w1 ⟨rfl,h1⟩;have y0:=h1.2.2.1.keep HN.o.a;have y1:=h1.2.2.1.keep HN.o.n;have y2:=h1.2.2.1.keep HN.o.s;have H1:=hid h1;clear h1)
   |(go_at_call 210;refine(bAz w0 B (L++l.toL) x w1 H1.o (by rw[List.length_append];omega)).mono ?_;rintro e w2 ⟨rfl,h2⟩;have u4:=h2.2.2.1.keep HN.o.r;have H2:=hid h2;clear h2)
   |(go_at_call_of 161 (Value.pointer ar);refine(HR.o (L++l.toL++[x]) w2 H2.o (by simp only[List.length_append,List.length_singleton];omega)).mono ?_;rintro e w3 ⟨rfl,h3⟩))
  go_ret;exact⟨rfl,by simpa [Tr.toL,List.append_assoc]using h3⟩
theorem jV (t:Tr) (v:Value) (w:World) (ht:aF w v t) (hlen:t.size<=1000000000):
  Calls Tryz.prog 165 #[v] w fun e w'=>∃ sv,e= .returned sv/\aG w' w.heap.size sv t.toL/\Below w.heap.size w w':=by
 obtain⟨a,rfl⟩:=ht.form;have h0:LS w w.heap.size (w.alloc (.cells #[.slice none 0 0] 76)) []:=⟨Nat.le_refl _,by simp,(Below.refl _ _).bMq _,_,by simp,by simp,aG.nil _ _⟩;have HW:=hid (aYn w w.heap.size t (.pointer a) [] _ ht h0 (by simpa using hlen));clear h0 ht;go_enter Tryz.func165,Tryz.ntmps165;go_wp2_with fail;refine HW.o.mono ?_;rintro e w1 ⟨rfl,h1⟩;obtain⟨_,_,hb,sv,hc,hf,ho⟩:=h1;have HO:=hid ho;have HB:=hid hb;clear ho hb;go_wp2_with fail;go_ret;exact⟨sv,rfl,aG.mono HO.o (by omega),HB.o⟩
open Go.RowKit
theorem aRj (x y:E) (w:World) (h0: -9223372036854775808<=x.a+x.n/\x.a+x.n<=9223372036854775807) (h1: -9223372036854775808<=x.s+x.n/\x.s+x.n<=9223372036854775807):
  Calls Tryz.prog 169 #[.agg #[.int .i64 x.a,.int .i64 x.n,.int .i64 x.s],.agg #[.int .i64 y.a,.int .i64 y.n,.int .i64 y.s]] w fun e w'=>e= .returned (.bool (meets x y))/\Below w.heap.size w w':=by
 go_enter Tryz.func169,Tryz.ntmps169;go_wp2
 all_goals
  go_ret;exact⟨by unfold meets;first|(simp[*];done)|(simp[*];rfl),by(repeat(first|exact Below.refl _ _|assumption|refine Below.bMt ?_ _|refine Below.bMq ?_ _|refine Below.setCell ?_ (by simp) _|refine Below.drew ?_))⟩
theorem kF (x y:E) (r:Bool) (w:World) (hr:meets x y=r) (h0: -9223372036854775808<=x.a+x.n/\x.a+x.n<=9223372036854775807) (h1: -9223372036854775808<=x.s+x.n/\x.s+x.n<=9223372036854775807):
  Calls Tryz.prog 169 #[.agg #[.int .i64 x.a,.int .i64 x.n,.int .i64 x.s],.agg #[.int .i64 y.a,.int .i64 y.n,.int .i64 y.s]] w fun e w'=>e= .returned (.bool r)/\Below w.heap.size w w':=by
 subst hr;exact aRj x y w h0 h1
theorem aF.away {w:World} {B i:Nat} {u:Value} (h7:w.cell? ⟨B,7,none⟩=none) (t:Tr):∀ {v:Value},aF w v t->aF (w.setCell ⟨B,i,none⟩ u) v t:=by
 induction t with
 |nil=>exact fun hv=>hv
 | node l x r ihl ihr=>
  rintro v ⟨b,vl,vr,hv,hn,hl,hr⟩;have hne:b≠B:=fun e=>by
   subst e;have:=hn.m;rw[h7]at this;cases this
  have k:∀ j,(w.setCell ⟨B,i,none⟩ u).cell? ⟨b,j,none⟩=w.cell? ⟨b,j,none⟩:=fun j=>by
   simp only[World.cell?];rw[RowKit.Below.heap_setCell _ _ _ _ hne]
  exact⟨b,vl,vr,hv,⟨(k _).trans hn.a,(k _).trans hn.n,(k _).trans hn.s,(k _).trans hn.l,(k _).trans hn.r,(k _).trans hn.d,(k _).trans hn.c,(k _).trans hn.m⟩,ihl hl,ihr hr⟩
theorem cell_far {w:World} {a p:Addr} {u:Value} (h:a.block≠p.block):(w.setCell p u).cell? a=w.cell? a:=by
 simp only[World.cell?];rw[RowKit.Below.heap_setCell _ _ _ _ h]
theorem iE {w:World} {b i j:Nat} {u:Value} (hij:i≠j) (h:w.cell? ⟨b,j,none⟩=none):(w.setCell ⟨b,i,none⟩ u).cell? ⟨b,j,none⟩=none:=by
 rw[World.cell?_setCell_other _ _ _ _ (by simp[hij]),h]
structure PSt (w W:World) (x:E):Prop where
 x0:W.cell? ⟨w.heap.size+1,0,none⟩=some (.int .i64 x.a)
 x1:W.cell? ⟨w.heap.size+1,1,none⟩=some (.int .i64 x.n)
 x2:W.cell? ⟨w.heap.size+1,2,none⟩=some (.int .i64 x.s)
 f0:W.frozen? ⟨w.heap.size+1,0,none⟩=false
 f1:W.frozen? ⟨w.heap.size+1,1,none⟩=false
 f2:W.frozen? ⟨w.heap.size+1,2,none⟩=false
 h7:W.cell? ⟨w.heap.size+1,7,none⟩=none
 r0:W.cell? ⟨w.heap.size+1+1,0,none⟩=some (.pointer none)
 rf:W.frozen? ⟨w.heap.size+1+1,0,none⟩=false
 r7:W.cell? ⟨w.heap.size+1+1,7,none⟩=none
 bel:Below w.heap.size w W
theorem PSt.init (w:World) (v:Value) (x:E) (t e:TypeId) (S:Obj):PSt w ((((w.alloc (.cells #[v] t)).alloc (.cells #[.int .i64 x.a,.int .i64 x.n,.int .i64 x.s] e)).alloc (.cells #[.pointer none] t)).alloc S) x:=by
 have k1:∀ i,((((w.alloc (.cells #[v] t)).alloc (.cells #[.int .i64 x.a,.int .i64 x.n,.int .i64 x.s] e)).alloc (.cells #[.pointer none] t)).alloc S).cell? ⟨w.heap.size+1,i,none⟩=((w.alloc (.cells #[v] t)).alloc (.cells #[.int .i64 x.a,.int .i64 x.n,.int .i64 x.s] e)).cell? ⟨w.heap.size+1,i,none⟩:=fun i=>by
  rw[World.cell?_alloc_lt _ _ _ (by simp),World.cell?_alloc_lt _ _ _ (by simp)]
 have k2:∀ i,((((w.alloc (.cells #[v] t)).alloc (.cells #[.int .i64 x.a,.int .i64 x.n,.int .i64 x.s] e)).alloc (.cells #[.pointer none] t)).alloc S).frozen? ⟨w.heap.size+1,i,none⟩=((w.alloc (.cells #[v] t)).alloc (.cells #[.int .i64 x.a,.int .i64 x.n,.int .i64 x.s] e)).frozen? ⟨w.heap.size+1,i,none⟩:=fun i=>by
  rw[World.frozen?_alloc_old _ _ _ (by simp),World.frozen?_alloc_old _ _ _ (by simp)]
 have k3:∀ i,((((w.alloc (.cells #[v] t)).alloc (.cells #[.int .i64 x.a,.int .i64 x.n,.int .i64 x.s] e)).alloc (.cells #[.pointer none] t)).alloc S).cell? ⟨w.heap.size+1+1,i,none⟩=(((w.alloc (.cells #[v] t)).alloc (.cells #[.int .i64 x.a,.int .i64 x.n,.int .i64 x.s] e)).alloc (.cells #[.pointer none] t)).cell? ⟨w.heap.size+1+1,i,none⟩:=fun i=>by
  rw[World.cell?_alloc_lt _ _ _ (by simp)]
 have k4:∀ i,((((w.alloc (.cells #[v] t)).alloc (.cells #[.int .i64 x.a,.int .i64 x.n,.int .i64 x.s] e)).alloc (.cells #[.pointer none] t)).alloc S).frozen? ⟨w.heap.size+1+1,i,none⟩=(((w.alloc (.cells #[v] t)).alloc (.cells #[.int .i64 x.a,.int .i64 x.n,.int .i64 x.s] e)).alloc (.cells #[.pointer none] t)).frozen? ⟨w.heap.size+1+1,i,none⟩:=fun i=>by
  rw[World.frozen?_alloc_old _ _ _ (by simp)]
 refine⟨?_,?_,?_,?_,?_,?_,?_,?_,?_,?_,by(repeat(first|exact Below.refl _ _|assumption|refine Below.bMt ?_ _|refine Below.bMq ?_ _|refine Below.setCell ?_ (by simp) _|refine Below.drew ?_))⟩
 ·rw[k1];simp
 ·rw[k1];simp
 ·rw[k1];simp
 ·rw[k2];simp
 ·rw[k2];simp
 ·rw[k2];simp
 ·rw[k1];simp
 ·rw[k3,World.cell?_alloc_at (hn:=by simp)];rfl
 ·rw[k4,World.frozen?_alloc_at (hn:=by simp)]
 ·rw[k3,World.cell?_alloc_at (hn:=by simp)];rfl
theorem PSt.later {w W W':World} {x:E} (h:PSt w W x) (hb:Below W.heap.size W W'):PSt w W' x:=
 ⟨hb.keep h.x0,hb.keep h.x1,hb.keep h.x2,hb.bMw h.x0 h.f0,hb.bMw h.x1 h.f1,hb.bMw h.x2 h.f2,(hb.cell (p:=⟨w.heap.size+1,7,none⟩) (World.block_lt_of_cell? W ⟨w.heap.size+1,0,none⟩ h.x0)).trans h.h7,hb.keep h.r0,hb.bMw h.r0 h.rf,(hb.cell (p:=⟨w.heap.size+1+1,7,none⟩) (World.block_lt_of_cell? W ⟨w.heap.size+1+1,0,none⟩ h.r0)).trans h.r7,h.bel.on hb⟩
theorem PSt.set {w W:World} {x:E} (h:PSt w W x) (y:E):PSt w (((W.setCell ⟨w.heap.size+1,0,none⟩ (.int .i64 y.a)).setCell ⟨w.heap.size+1,1,none⟩ (.int .i64 y.n)).setCell ⟨w.heap.size+1,2,none⟩ (.int .i64 y.s)) y:=by
 obtain⟨j0,j1,j2⟩:=vQ (u0:= .int .i64 y.a) (u1:= .int .i64 y.n) (u2:= .int .i64 y.s) h.x0 h.x1 h.x2;have hne:w.heap.size+1+1≠w.heap.size+1:=by omega
 refine⟨j0,j1,j2,?_,?_,?_,iE (by decide) (iE (by decide) (iE (by decide) h.h7)),(fA hne hne hne).trans h.r0,?_,(fA hne hne hne).trans h.r7,((h.bel.setCell (by simp only;omega) _).setCell (by simp only;omega) _).setCell (by simp only;omega) _⟩
 ·rw[World.frozen?_setCell,World.frozen?_setCell,World.frozen?_setCell];exact h.f0
 ·rw[World.frozen?_setCell,World.frozen?_setCell,World.frozen?_setCell];exact h.f1
 ·rw[World.frozen?_setCell,World.frozen?_setCell,World.frozen?_setCell];exact h.f2
 ·rw[World.frozen?_setCell,World.frozen?_setCell,World.frozen?_setCell];exact h.rf
theorem PSt.setn {w W:World} {x:E} (h:PSt w W x) (n:Int):PSt w (W.setCell ⟨w.heap.size+1,1,none⟩ (.int .i64 n)) ⟨x.a,n,x.s⟩:=by
 have hne:w.heap.size+1+1≠w.heap.size+1:=by omega
 refine⟨(World.cell?_setCell_other _ _ _ _ (by simp)).trans h.x0,World.cell?_setCell_same _ _ _ h.x1,(World.cell?_setCell_other _ _ _ _ (by simp)).trans h.x2,?_,?_,?_,iE (by decide) h.h7,(cell_far hne).trans h.r0,?_,(cell_far hne).trans h.r7,h.bel.setCell (by simp only;omega) _⟩
 ·rw[World.frozen?_setCell];exact h.f0
 ·rw[World.frozen?_setCell];exact h.f1
 ·rw[World.frozen?_setCell];exact h.f2
 ·rw[World.frozen?_setCell];exact h.rf
def aYk (w:World) (L M:List E) (e:Ending) (w':World):Prop:=
 ∃v t sv,e= .returned (.tuple #[.agg #[v],sv,.int .i64 0])/\aF w' v t/\t.toL=L/\aG w' w.heap.size sv M/\Below w.heap.size w w'
theorem aYp {x:E} (hx:okB x=true):aI [x]=true:=(bQ _).2 ⟨fun y hy=>by simp at hy;rw[hy];exact hx,List.pairwise_singleton _ _⟩
theorem bAf (t:Tr) (x:E) (v:Value) (w:World) (ht:aF w v t) (hv:aI t.toL=true) (hn:eX t.toL=true) (hx:okB x=true):
  Calls Tryz.prog 124 #[.agg #[v],.agg #[.int .i64 x.a,.int .i64 x.n,.int .i64 x.s]] w (aYk w (bK t.toL x) (inL t.toL x.a x.n)):=by
 obtain⟨a,rfl⟩:=ht.form;obtain⟨c1,c2,c3,c4,c5⟩:=(aD x).1 hx;have HV:=hid hv;have HN:=hid hn;have HX:=hid hx;have HT:=hid ht;have hw1:=iQ (l:=[x]) (fun y hy=>by simp at hy;rw[hy];exact hx);have HW:=hid hw1;clear hv hn hx ht hw1;go_enter Tryz.func124,Tryz.ntmps124;go_wp2_with fail;refine(aJg [x] _ _ _ (Rd.lit _ _ [x] _ (by simp) rfl (by simp)) HW.o).mono ?_;rintro e w1 ⟨rfl,hb1⟩;have P:PSt w w1 x:=PSt.later (PSt.init w _ x _ _ _) hb1;have g0:w1.cell? ⟨w.heap.size,0,none⟩=some (.pointer a):=hb1.keep (by simp);rw[aYp HX.o];have y0:=P.x0;have HP:=hid P;clear P hb1;go_wp2_with fail;have hsz:=oD HV.o;have hts:t.toL.length=t.size:=rfl;refine(tJ x.a (by omega) (by omega) t (.pointer a) w1 (aF.keep HP.o.bel t HT.o) ⟨aK HV.o,by omega⟩ HV.o).mono ?_;rintro e w2 ⟨va,vb,ta,tb,rfl,hta,htb,hA,hB,hb2⟩;have P:=HP.o.later hb2;have y0:=P.x0;have y1:=P.x1;have y2:=P.x2;have hpl:=bU t.toL x.a 65536;have hvb:aI tb.toL=true:=by rw[hB];exact gV _ _ _ HV.o
 have HTA:=hid hta;have HTB:=hid htb;have HA:=hid hA;have HB:=hid hB;have HVB:=hid hvb;have hbs:tb.size<=1000000:=by show tb.toL.length<=_;rw[hB];omega
 have HP:=hid P;have hb2':=Below.refl w2.heap.size w2;clear P hb2 hta htb hA hB hpl hvb;go_wp2_with fail;refine(tJ (x.a+x.n) (by omega) (by omega) tb vb w2 HTB.o ⟨aK HVB.o,hbs⟩ HVB.o).mono ?_;rintro e w3 ⟨vm,vc,tm,tc,rfl,htm,htc,hM,hC,hb3⟩;obtain⟨aa,rfl⟩:=HTA.o.form;obtain⟨am,rfl⟩:=htm.form;obtain⟨ac,rfl⟩:=htc.form;have hvl:=aK HV.o;rw[HB.o,aKa t.toL x.a (x.a+x.n) c2 c4 hvl,<-aEr t.toL x.a x.n HV.o HN.o]at hM;rw[HB.o,aGc t.toL x.a (x.a+x.n) c2 (by omega) hvl]at hC;have P:=HP.o.later hb3;have hA:=HA.o;have htA:=aF.keep hb3 ta (aF.keep hb2' ta HTA.o);have HM:=hid hM;have HC:=hid hC;have HTA:=hid htA;have HTM:=hid htm;have HTC:=hid htc;have HP:=hid P;have HSZ:Hid (ta.size<=65536/\tm.size<=65536/\tc.size<=65536):=hid (by
  have q1:=bU t.toL 0 x.a;have q2:=(nK t.toL x.a x.n hvl).1;have q3:=bU t.toL (x.a+x.n) 65536;refine⟨?_,?_,?_⟩
  ·show ta.toL.length<=_;rw[hA];omega
  ·show tm.toL.length<=_;rw[hM];omega
  ·show tc.toL.length<=_;rw[hC];omega)
 have HOA:Hid (∀y∈ta.toL,okB y=true):=hid (by rw[hA];exact dH t.toL _ _ hvl);have HOC:Hid (∀y∈tc.toL,okB y=true):=hid (by rw[hC];exact dH t.toL _ _ hvl);have HPUT:=hid (aPj t.toL x HV.o HN.o);have HNC:Hid (eX tc.toL=true):=hid (by rw[hC];exact qP _ _ _ HV.o HN.o);have HRA:Hid (∀y∈ta.toL,y.a+y.n<=x.a):=hid (by rw[hA];exact fun y hy=>(iH t.toL _ _ y hy).2);clear P hb3 hA htA hM hC htm htc hvl HTB HB HVB hbs
 cases ta with
 | nil=>
  obtain h0:aa=none:=by have:=HTA.o;simpa [aF]using this
  subst h0;have HL:Hid ((Tr.nil).toL++[x]=fD (aJ t.toL 0 x.a) x):=hid (by rw[<-HA.o];rfl);have HTL:Hid (aF w3 (.pointer none) .nil):=hid rfl;have HSA:Hid (Tr.nil.size<=65536):=hid (Nat.zero_le _);have HXX:=HX;have b0:x.a+x.n<=65536/\x.s+x.n<=65536/\0<=x.a+x.n/\0<=x.s+x.n/\0<=x.n/\x.n<=65536:=by omega
  clear HTA HOA HRA HA;have HOA:Hid (∀y∈Tr.nil.toL,okB y=true):=hid (by simp[Tr.toL])
  cases tc with
  | nil=>
   obtain h0:ac=none:=by have:=HTC.o;simpa [aF]using this
   subst h0;have y0:=HP.o.x0;have y1:=HP.o.x1;have y2:=HP.o.x2;go_wp2_with fail;refine(fG Tr.nil Tr.nil x (.pointer none) (.pointer none) _ HTL.o HTC.o (kN rfl rfl HOA.o HXX.o HOC.o (by show(Tr.nil).size+1+(Tr.nil).size<=_;have:=HSA.o;have:=HSZ.o;omega))).mono ?_;rintro e w8 ⟨v8,t8,rfl,ht8,hl8,hb8⟩;obtain⟨a8,rfl⟩:=ht8.form;have HTM:=hid (aF.keep hb8 tm HTM.o);have HP:=hid (HP.o.later hb8);have HT8:=hid ht8;have HL8:=hid hl8;clear ht8 hl8 hb8;go_wp2_with fail;refine(jV tm (.pointer am) w8 HTM.o (by have:=HSZ.o;omega)).mono ?_;rintro e w9 ⟨sv,rfl,ho,hb9⟩;obtain⟨sa,sc,rfl,_⟩:=ho.rd (by show tm.size<=_;have:=HSZ.o;omega);have P9:=HP.o.later hb9;have r0:=P9.r0;have rf:=P9.rf;have hsz8:=HP.o.bel.size;have hr8:=World.block_lt_of_cell? w8 ⟨w.heap.size+1+1,0,none⟩ HP.o.r0;have HT9:=hid (aF.away (i:=0) (u:= .pointer a8) P9.r7 t8 (aF.keep hb9 t8 HT8.o));have HB9:=hid (P9.bel.setCell (p:=⟨w.heap.size+1+1,0,none⟩) (by simp only;omega) (.pointer a8));have HO9:=hid (aG.far ho ⟨w.heap.size+1+1,0,none⟩ (.pointer a8) fun h=>by have:=(ho.lt (w.heap.size+1+1) h).1;simp only at hr8;omega);clear P9 ho hb9 hr8;go_wp2_with fail;have r1:=World.cell?_setCell_same w9 ⟨w.heap.size+1+1,0,none⟩ (.pointer a8) r0
   (try simp only[Exit.inBlock,Exit.then])
   refine bodyPost_ret (v:= .tuple #[.agg #[.pointer a8],.slice sa tm.toL.length sc,.int .i64 0]) (by first|(rw[results_cell_tmp rfl];go_simp;done)|(rw[aB rfl];go_simp;done)|(rw[aA rfl];go_simp;done)) rfl ?_;exact⟨_,t8,_,rfl,HT9.o,by rw[HL8.o];(rw[HPUT.o,<-HC.o,<-HL.o];simp[Tr.toL,bM]),by rw[<-HM.o];exact aG.mono HO9.o hsz8,HB9.o⟩
  | node cl yc cr=>
   obtain ⟨p,rfl⟩:∃ p,ac=some p:=by
    obtain⟨b2,_,_,hal,_⟩:=HTC.o;cases hal;exact⟨_,rfl⟩
   obtain ⟨y,L1,hL1⟩:∃ y L1,(Tr.node cl yc cr).toL=y::L1:=by
    cases h:(Tr.node cl yc cr).toL with
    |nil=>simp[Tr.toL]at h
    |cons a b=>exact⟨a,b,rfl⟩
   have hyo:=(aD y).1 (HOC.o y (by rw[hL1];simp));have HL1:=hid hL1;clear hL1;have y0:=HP.o.x0;have y1:=HP.o.x1;have y2:=HP.o.x2;go_wp2_with fail;refine(uF (.node cl yc cr) (.pointer (some p)) _ y L1 HL1.o HTC.o ⟨HOC.o,by show(Tr.node cl yc cr).size<=_;have:=HSZ.o;omega⟩).mono ?_;rintro e w5 ⟨v5,t5,rfl,ht5,hl5,hb5⟩;obtain⟨a5,rfl⟩:=ht5.form;have hb6:=hb5.bMq (.cells #[.int .i64 y.a,.int .i64 y.n,.int .i64 y.s] 81);have P:=HP.o.later hb5;have y0:=P.x0;have y1:=P.x1;have y2:=P.x2;have HP:=hid (HP.o.later hb6);have HTL:=hid (aF.keep hb6 Tr.nil HTL.o);have HTM:=hid (aF.keep hb6 tm HTM.o);have HTC:=hid (aF.keep hb6 _ HTC.o);have HT5:=hid (aF.keep ((Below.refl w5.heap.size w5).bMq (.cells #[.int .i64 y.a,.int .i64 y.n,.int .i64 y.s] 81)) t5 ht5);have HL5:=hid hl5;clear P ht5 hl5 hb5 hb6;cases hm:meets x y
   ·have hm':=hid hm;clear hm;go_wp2_with fail;refine(kF x y false _ hm'.o (by first|omega|(dsimp only;omega)) (by first|omega|(dsimp only;omega))).mono ?_;rintro e w6 ⟨rfl,hb6⟩;have y0:=hb6.keep HP.o.x0;have y1:=hb6.keep HP.o.x1;have y2:=hb6.keep HP.o.x2;have HP:=hid (HP.o.later hb6);have HTL:=hid (aF.keep hb6 Tr.nil HTL.o);have HTM:=hid (aF.keep hb6 tm HTM.o);have HTC:=hid (aF.keep hb6 _ HTC.o);clear hb6;go_wp2_with fail;refine(fG Tr.nil (Tr.node cl yc cr) x (.pointer none) (.pointer (some p)) _ HTL.o HTC.o (kN rfl rfl HOA.o HXX.o HOC.o (by show(Tr.nil).size+1+((Tr.node cl yc cr)).size<=_;have:=HSA.o;have:=HSZ.o;omega))).mono ?_;rintro e w8 ⟨v8,t8,rfl,ht8,hl8,hb8⟩;obtain⟨a8,rfl⟩:=ht8.form;have HTM:=hid (aF.keep hb8 tm HTM.o);have HP:=hid (HP.o.later hb8);have HT8:=hid ht8;have HL8:=hid hl8;clear ht8 hl8 hb8;go_wp2_with fail;refine(jV tm (.pointer am) w8 HTM.o (by have:=HSZ.o;omega)).mono ?_;rintro e w9 ⟨sv,rfl,ho,hb9⟩;obtain⟨sa,sc,rfl,_⟩:=ho.rd (by show tm.size<=_;have:=HSZ.o;omega);have P9:=HP.o.later hb9;have r0:=P9.r0;have rf:=P9.rf;have hsz8:=HP.o.bel.size;have hr8:=World.block_lt_of_cell? w8 ⟨w.heap.size+1+1,0,none⟩ HP.o.r0;have HT9:=hid (aF.away (i:=0) (u:= .pointer a8) P9.r7 t8 (aF.keep hb9 t8 HT8.o));have HB9:=hid (P9.bel.setCell (p:=⟨w.heap.size+1+1,0,none⟩) (by simp only;omega) (.pointer a8));have HO9:=hid (aG.far ho ⟨w.heap.size+1+1,0,none⟩ (.pointer a8) fun h=>by have:=(ho.lt (w.heap.size+1+1) h).1;simp only at hr8;omega);clear P9 ho hb9 hr8;go_wp2_with fail;have r1:=World.cell?_setCell_same w9 ⟨w.heap.size+1+1,0,none⟩ (.pointer a8) r0
    (try simp only[Exit.inBlock,Exit.then])
    refine bodyPost_ret (v:= .tuple #[.agg #[.pointer a8],.slice sa tm.toL.length sc,.int .i64 0]) (by first|(rw[results_cell_tmp rfl];go_simp;done)|(rw[aB rfl];go_simp;done)|(rw[aA rfl];go_simp;done)) rfl ?_;exact⟨_,t8,_,rfl,HT9.o,by rw[HL8.o];(rw[HPUT.o,<-HC.o,<-HL.o,yS _ _ _ HNC.o (by rw[HL1.o];simp[hm'.o])]),by rw[<-HM.o];exact aG.mono HO9.o hsz8,HB9.o⟩
   ·obtain⟨m1,m2⟩:=(iD _ _).1 hm;have hm':=hid hm;clear hm;go_wp2_with fail;refine(kF x y true _ hm'.o (by first|omega|(dsimp only;omega)) (by first|omega|(dsimp only;omega))).mono ?_;rintro e w6 ⟨rfl,hb6⟩;have k1:w6.cell? ⟨w5.heap.size,1,none⟩=some (.int .i64 y.n):=hb6.keep (by simp);have HPP:=hid (HP.o.later hb6);have y0:=HPP.o.x0;have y1:=HPP.o.x1;have y2:=HPP.o.x2;have f1:=HPP.o.f1;have HTL:=hid (aF.away (i:=1) (u:= .int .i64 ((x).n+y.n)) HPP.o.h7 Tr.nil (aF.keep hb6 Tr.nil HTL.o));have HTM:=hid (aF.away (i:=1) (u:= .int .i64 ((x).n+y.n)) HPP.o.h7 tm (aF.keep hb6 tm HTM.o));have HTC:=hid (aF.away (i:=1) (u:= .int .i64 ((x).n+y.n)) HPP.o.h7 t5 (aF.keep hb6 t5 HT5.o));have HP:=hid (HPP.o.setn ((x).n+y.n));have HXX:Hid (okB ⟨(x).a,(x).n+y.n,(x).s⟩=true):=hid ((aD _).2 (by have:=(aD _).1 HXX.o;first|(simp only;omega)|(dsimp only at *;omega)));have HOC:Hid (∀z∈t5.toL,okB z=true):=hid (by rw[HL5.o];intro z hz;exact HOC.o z (by rw[HL1.o];simp[hz]));have h6:(Tr.node cl yc cr).toL.length<=65536:=HSZ.o.2.2;rw[HL1.o,List.length_cons]at h6;have HSZ:Hid (0<=65536/\tm.size<=65536/\t5.size<=65536):=hid ⟨by omega,HSZ.o.2.1,by show t5.toL.length<=_;rw[HL5.o];omega⟩;clear h6;clear hb6;go_wp2_with fail;refine(fG Tr.nil t5 ⟨(x).a,(x).n+y.n,(x).s⟩ (.pointer none) (.pointer a5) _ HTL.o HTC.o (kN rfl rfl HOA.o HXX.o HOC.o (by show(Tr.nil).size+1+(t5).size<=_;have:=HSA.o;have:=HSZ.o;omega))).mono ?_;rintro e w8 ⟨v8,t8,rfl,ht8,hl8,hb8⟩;obtain⟨a8,rfl⟩:=ht8.form;have HTM:=hid (aF.keep hb8 tm HTM.o);have HP:=hid (HP.o.later hb8);have HT8:=hid ht8;have HL8:=hid hl8;clear ht8 hl8 hb8;go_wp2_with fail;refine(jV tm (.pointer am) w8 HTM.o (by have:=HSZ.o;omega)).mono ?_;rintro e w9 ⟨sv,rfl,ho,hb9⟩;obtain⟨sa,sc,rfl,_⟩:=ho.rd (by show tm.size<=_;have:=HSZ.o;omega);have P9:=HP.o.later hb9;have r0:=P9.r0;have rf:=P9.rf;have hsz8:=HP.o.bel.size;have hr8:=World.block_lt_of_cell? w8 ⟨w.heap.size+1+1,0,none⟩ HP.o.r0;have HT9:=hid (aF.away (i:=0) (u:= .pointer a8) P9.r7 t8 (aF.keep hb9 t8 HT8.o));have HB9:=hid (P9.bel.setCell (p:=⟨w.heap.size+1+1,0,none⟩) (by simp only;omega) (.pointer a8));have HO9:=hid (aG.far ho ⟨w.heap.size+1+1,0,none⟩ (.pointer a8) fun h=>by have:=(ho.lt (w.heap.size+1+1) h).1;simp only at hr8;omega);clear P9 ho hb9 hr8;go_wp2_with fail;have r1:=World.cell?_setCell_same w9 ⟨w.heap.size+1+1,0,none⟩ (.pointer a8) r0
    (try simp only[Exit.inBlock,Exit.then])
    refine bodyPost_ret (v:= .tuple #[.agg #[.pointer a8],.slice sa tm.toL.length sc,.int .i64 0]) (by first|(rw[results_cell_tmp rfl];go_simp;done)|(rw[aB rfl];go_simp;done)|(rw[aA rfl];go_simp;done)) rfl ?_;exact⟨_,t8,_,rfl,HT9.o,by rw[HL8.o];(rw[HPUT.o,<-HC.o,<-HL.o,HL1.o,vK _ _ _ _ (by rw[<-HL1.o];exact HNC.o) hm'.o,HL5.o];rfl),by rw[<-HM.o];exact aG.mono HO9.o hsz8,HB9.o⟩
 | node al ya ar=>
  obtain ⟨p0,rfl⟩:∃ p,aa=some p:=by
   obtain⟨b2,_,_,hal,_⟩:=HTA.o;cases hal;exact⟨_,rfl⟩
  obtain ⟨L0,ye,hL0⟩:=fC (Tr.node al ya ar).toL (by simp[Tr.toL]);have hyo:=(aD ye).1 (HOA.o ye (by rw[hL0];simp));have hyr:=HRA.o ye (by rw[hL0];simp);have HL0:=hid hL0;have hsa:L0.length+1<=65536:=by
   have:=HSZ.o.1;have h6:(Tr.node al ya ar).toL.length<=65536:=this;rw[hL0]at h6
   simpa using h6
  clear hL0;have y0:=HP.o.x0;have y1:=HP.o.x1;have y2:=HP.o.x2;go_wp2_with fail;refine(bBd (.node al ya ar) (.pointer (some p0)) w3 ye L0 HL0.o HTA.o ⟨HOA.o,by show(Tr.node al ya ar).size<=_;have:=HSZ.o;omega⟩).mono ?_;rintro e w4 ⟨v4,t4,rfl,ht4,hl4,hb4⟩;obtain⟨a4,rfl⟩:=ht4.form;have hb5:=hb4.bMq (.cells #[.int .i64 ye.a,.int .i64 ye.n,.int .i64 ye.s] 81);have P:=HP.o.later hb4;have y0:=P.x0;have y1:=P.x1;have y2:=P.x2;have HP:=hid (HP.o.later hb5);have HTA:=hid (aF.keep hb5 _ HTA.o);have HTM:=hid (aF.keep hb5 tm HTM.o);have HTC:=hid (aF.keep hb5 tc HTC.o);have HT4:=hid (aF.keep ((Below.refl w4.heap.size w4).bMq (.cells #[.int .i64 ye.a,.int .i64 ye.n,.int .i64 ye.s] 81)) t4 ht4);have HL4:=hid hl4;clear P ht4 hl4 hb4 hb5;cases hm:meets ye x
  ·have hm':=hid hm;clear hm;go_wp2_with fail;refine(kF ye x false _ hm'.o (by omega) (by omega)).mono ?_;rintro e w7 ⟨rfl,hb6⟩;have HP:=hid (HP.o.later hb6);have HTL:=hid (aF.keep hb6 _ HTA.o);have HTM:=hid (aF.keep hb6 tm HTM.o);have HTC:=hid (aF.keep hb6 tc HTC.o);have HL:Hid ((Tr.node al ya ar).toL++[x]=fD (aJ t.toL 0 x.a) x):=hid (by rw[<-HA.o,HL0.o,eD _ _ _ hm'.o]);have HSA:Hid ((Tr.node al ya ar).size<=65536):=hid HSZ.o.1;have HXX:=HX;have b0:x.a+x.n<=65536/\x.s+x.n<=65536/\0<=x.a+x.n/\0<=x.s+x.n/\0<=x.n/\x.n<=65536:=by omega
   clear HTA HRA HA HL0 HT4 HL4 hb6
   cases tc with
   | nil=>
    obtain h0:ac=none:=by have:=HTC.o;simpa [aF]using this
    subst h0;have y0:=HP.o.x0;have y1:=HP.o.x1;have y2:=HP.o.x2;go_wp2_with fail;refine(fG (Tr.node al ya ar) Tr.nil x (.pointer (some p0)) (.pointer none) _ HTL.o HTC.o (kN rfl rfl HOA.o HXX.o HOC.o (by show((Tr.node al ya ar)).size+1+(Tr.nil).size<=_;have:=HSA.o;have:=HSZ.o;omega))).mono ?_;rintro e w8 ⟨v8,t8,rfl,ht8,hl8,hb8⟩;obtain⟨a8,rfl⟩:=ht8.form;have HTM:=hid (aF.keep hb8 tm HTM.o);have HP:=hid (HP.o.later hb8);have HT8:=hid ht8;have HL8:=hid hl8;clear ht8 hl8 hb8;go_wp2_with fail;refine(jV tm (.pointer am) w8 HTM.o (by have:=HSZ.o;omega)).mono ?_;rintro e w9 ⟨sv,rfl,ho,hb9⟩;obtain⟨sa,sc,rfl,_⟩:=ho.rd (by show tm.size<=_;have:=HSZ.o;omega);have P9:=HP.o.later hb9;have r0:=P9.r0;have rf:=P9.rf;have hsz8:=HP.o.bel.size;have hr8:=World.block_lt_of_cell? w8 ⟨w.heap.size+1+1,0,none⟩ HP.o.r0;have HT9:=hid (aF.away (i:=0) (u:= .pointer a8) P9.r7 t8 (aF.keep hb9 t8 HT8.o));have HB9:=hid (P9.bel.setCell (p:=⟨w.heap.size+1+1,0,none⟩) (by simp only;omega) (.pointer a8));have HO9:=hid (aG.far ho ⟨w.heap.size+1+1,0,none⟩ (.pointer a8) fun h=>by have:=(ho.lt (w.heap.size+1+1) h).1;simp only at hr8;omega);clear P9 ho hb9 hr8;go_wp2_with fail;have r1:=World.cell?_setCell_same w9 ⟨w.heap.size+1+1,0,none⟩ (.pointer a8) r0
    (try simp only[Exit.inBlock,Exit.then])
    refine bodyPost_ret (v:= .tuple #[.agg #[.pointer a8],.slice sa tm.toL.length sc,.int .i64 0]) (by first|(rw[results_cell_tmp rfl];go_simp;done)|(rw[aB rfl];go_simp;done)|(rw[aA rfl];go_simp;done)) rfl ?_;exact⟨_,t8,_,rfl,HT9.o,by rw[HL8.o];(rw[HPUT.o,<-HC.o,<-HL.o];simp[Tr.toL,bM]),by rw[<-HM.o];exact aG.mono HO9.o hsz8,HB9.o⟩
   | node cl yc cr=>
    obtain ⟨p,rfl⟩:∃ p,ac=some p:=by
     obtain⟨b2,_,_,hal,_⟩:=HTC.o;cases hal;exact⟨_,rfl⟩
    obtain ⟨y,L1,hL1⟩:∃ y L1,(Tr.node cl yc cr).toL=y::L1:=by
     cases h:(Tr.node cl yc cr).toL with
     |nil=>simp[Tr.toL]at h
     |cons a b=>exact⟨a,b,rfl⟩
    have hyo:=(aD y).1 (HOC.o y (by rw[hL1];simp));have HL1:=hid hL1;clear hL1;have y0:=HP.o.x0;have y1:=HP.o.x1;have y2:=HP.o.x2;go_wp2_with fail;refine(uF (.node cl yc cr) (.pointer (some p)) _ y L1 HL1.o HTC.o ⟨HOC.o,by show(Tr.node cl yc cr).size<=_;have:=HSZ.o;omega⟩).mono ?_;rintro e w5 ⟨v5,t5,rfl,ht5,hl5,hb5⟩;obtain⟨a5,rfl⟩:=ht5.form;have hb6:=hb5.bMq (.cells #[.int .i64 y.a,.int .i64 y.n,.int .i64 y.s] 81);have P:=HP.o.later hb5;have y0:=P.x0;have y1:=P.x1;have y2:=P.x2;have HP:=hid (HP.o.later hb6);have HTL:=hid (aF.keep hb6 (Tr.node al ya ar) HTL.o);have HTM:=hid (aF.keep hb6 tm HTM.o);have HTC:=hid (aF.keep hb6 _ HTC.o);have HT5:=hid (aF.keep ((Below.refl w5.heap.size w5).bMq (.cells #[.int .i64 y.a,.int .i64 y.n,.int .i64 y.s] 81)) t5 ht5);have HL5:=hid hl5;clear P ht5 hl5 hb5 hb6;cases hm:meets x y
    ·have hm':=hid hm;clear hm;go_wp2_with fail;refine(kF x y false _ hm'.o (by first|omega|(dsimp only;omega)) (by first|omega|(dsimp only;omega))).mono ?_;rintro e w6 ⟨rfl,hb6⟩;have y0:=hb6.keep HP.o.x0;have y1:=hb6.keep HP.o.x1;have y2:=hb6.keep HP.o.x2;have HP:=hid (HP.o.later hb6);have HTL:=hid (aF.keep hb6 (Tr.node al ya ar) HTL.o);have HTM:=hid (aF.keep hb6 tm HTM.o);have HTC:=hid (aF.keep hb6 _ HTC.o);clear hb6;go_wp2_with fail;refine(fG (Tr.node al ya ar) (Tr.node cl yc cr) x (.pointer (some p0)) (.pointer (some p)) _ HTL.o HTC.o (kN rfl rfl HOA.o HXX.o HOC.o (by show((Tr.node al ya ar)).size+1+((Tr.node cl yc cr)).size<=_;have:=HSA.o;have:=HSZ.o;omega))).mono ?_;rintro e w8 ⟨v8,t8,rfl,ht8,hl8,hb8⟩;obtain⟨a8,rfl⟩:=ht8.form;have HTM:=hid (aF.keep hb8 tm HTM.o);have HP:=hid (HP.o.later hb8);have HT8:=hid ht8;have HL8:=hid hl8;clear ht8 hl8 hb8;go_wp2_with fail;refine(jV tm (.pointer am) w8 HTM.o (by have:=HSZ.o;omega)).mono ?_;rintro e w9 ⟨sv,rfl,ho,hb9⟩;obtain⟨sa,sc,rfl,_⟩:=ho.rd (by show tm.size<=_;have:=HSZ.o;omega);have P9:=HP.o.later hb9;have r0:=P9.r0;have rf:=P9.rf;have hsz8:=HP.o.bel.size;have hr8:=World.block_lt_of_cell? w8 ⟨w.heap.size+1+1,0,none⟩ HP.o.r0;have HT9:=hid (aF.away (i:=0) (u:= .pointer a8) P9.r7 t8 (aF.keep hb9 t8 HT8.o));have HB9:=hid (P9.bel.setCell (p:=⟨w.heap.size+1+1,0,none⟩) (by simp only;omega) (.pointer a8));have HO9:=hid (aG.far ho ⟨w.heap.size+1+1,0,none⟩ (.pointer a8) fun h=>by have:=(ho.lt (w.heap.size+1+1) h).1;simp only at hr8;omega);clear P9 ho hb9 hr8;go_wp2_with fail;have r1:=World.cell?_setCell_same w9 ⟨w.heap.size+1+1,0,none⟩ (.pointer a8) r0
     (try simp only[Exit.inBlock,Exit.then])
     refine bodyPost_ret (v:= .tuple #[.agg #[.pointer a8],.slice sa tm.toL.length sc,.int .i64 0]) (by first|(rw[results_cell_tmp rfl];go_simp;done)|(rw[aB rfl];go_simp;done)|(rw[aA rfl];go_simp;done)) rfl ?_;exact⟨_,t8,_,rfl,HT9.o,by rw[HL8.o];(rw[HPUT.o,<-HC.o,<-HL.o,yS _ _ _ HNC.o (by rw[HL1.o];simp[hm'.o])]),by rw[<-HM.o];exact aG.mono HO9.o hsz8,HB9.o⟩
    ·obtain⟨m1,m2⟩:=(iD _ _).1 hm;have hm':=hid hm;clear hm;go_wp2_with fail;refine(kF x y true _ hm'.o (by first|omega|(dsimp only;omega)) (by first|omega|(dsimp only;omega))).mono ?_;rintro e w6 ⟨rfl,hb6⟩;have k1:w6.cell? ⟨w5.heap.size,1,none⟩=some (.int .i64 y.n):=hb6.keep (by simp);have HPP:=hid (HP.o.later hb6);have y0:=HPP.o.x0;have y1:=HPP.o.x1;have y2:=HPP.o.x2;have f1:=HPP.o.f1;have HTL:=hid (aF.away (i:=1) (u:= .int .i64 ((x).n+y.n)) HPP.o.h7 (Tr.node al ya ar) (aF.keep hb6 (Tr.node al ya ar) HTL.o));have HTM:=hid (aF.away (i:=1) (u:= .int .i64 ((x).n+y.n)) HPP.o.h7 tm (aF.keep hb6 tm HTM.o));have HTC:=hid (aF.away (i:=1) (u:= .int .i64 ((x).n+y.n)) HPP.o.h7 t5 (aF.keep hb6 t5 HT5.o));have HP:=hid (HPP.o.setn ((x).n+y.n));have HXX:Hid (okB ⟨(x).a,(x).n+y.n,(x).s⟩=true):=hid ((aD _).2 (by have:=(aD _).1 HXX.o;first|(simp only;omega)|(dsimp only at *;omega)));have HOC:Hid (∀z∈t5.toL,okB z=true):=hid (by rw[HL5.o];intro z hz;exact HOC.o z (by rw[HL1.o];simp[hz]));have h6:(Tr.node cl yc cr).toL.length<=65536:=HSZ.o.2.2;rw[HL1.o,List.length_cons]at h6;have HSZ:Hid (0<=65536/\tm.size<=65536/\t5.size<=65536):=hid ⟨by omega,HSZ.o.2.1,by show t5.toL.length<=_;rw[HL5.o];omega⟩;clear h6;clear hb6;go_wp2_with fail;refine(fG (Tr.node al ya ar) t5 ⟨(x).a,(x).n+y.n,(x).s⟩ (.pointer (some p0)) (.pointer a5) _ HTL.o HTC.o (kN rfl rfl HOA.o HXX.o HOC.o (by show((Tr.node al ya ar)).size+1+(t5).size<=_;have:=HSA.o;have:=HSZ.o;omega))).mono ?_;rintro e w8 ⟨v8,t8,rfl,ht8,hl8,hb8⟩;obtain⟨a8,rfl⟩:=ht8.form;have HTM:=hid (aF.keep hb8 tm HTM.o);have HP:=hid (HP.o.later hb8);have HT8:=hid ht8;have HL8:=hid hl8;clear ht8 hl8 hb8;go_wp2_with fail;refine(jV tm (.pointer am) w8 HTM.o (by have:=HSZ.o;omega)).mono ?_;rintro e w9 ⟨sv,rfl,ho,hb9⟩;obtain⟨sa,sc,rfl,_⟩:=ho.rd (by show tm.size<=_;have:=HSZ.o;omega);have P9:=HP.o.later hb9;have r0:=P9.r0;have rf:=P9.rf;have hsz8:=HP.o.bel.size;have hr8:=World.block_lt_of_cell? w8 ⟨w.heap.size+1+1,0,none⟩ HP.o.r0;have HT9:=hid (aF.away (i:=0) (u:= .pointer a8) P9.r7 t8 (aF.keep hb9 t8 HT8.o));have HB9:=hid (P9.bel.setCell (p:=⟨w.heap.size+1+1,0,none⟩) (by simp only;omega) (.pointer a8));have HO9:=hid (aG.far ho ⟨w.heap.size+1+1,0,none⟩ (.pointer a8) fun h=>by have:=(ho.lt (w.heap.size+1+1) h).1;simp only at hr8;omega);clear P9 ho hb9 hr8;go_wp2_with fail;have r1:=World.cell?_setCell_same w9 ⟨w.heap.size+1+1,0,none⟩ (.pointer a8) r0
     (try simp only[Exit.inBlock,Exit.then])
     refine bodyPost_ret (v:= .tuple #[.agg #[.pointer a8],.slice sa tm.toL.length sc,.int .i64 0]) (by first|(rw[results_cell_tmp rfl];go_simp;done)|(rw[aB rfl];go_simp;done)|(rw[aA rfl];go_simp;done)) rfl ?_;exact⟨_,t8,_,rfl,HT9.o,by rw[HL8.o];(rw[HPUT.o,<-HC.o,<-HL.o,HL1.o,vK _ _ _ _ (by rw[<-HL1.o];exact HNC.o) hm'.o,HL5.o];rfl),by rw[<-HM.o];exact aG.mono HO9.o hsz8,HB9.o⟩
  ·obtain ⟨m1,m2⟩:=(iD _ _).1 hm;have hm':=hid hm;clear hm;go_wp2_with fail;refine(kF ye x true _ hm'.o (by omega) (by omega)).mono ?_;rintro e w7 ⟨rfl,hb6⟩;have k0:w7.cell? ⟨w4.heap.size,0,none⟩=some (.int .i64 ye.a):=hb6.keep (by simp);have k1:w7.cell? ⟨w4.heap.size,1,none⟩=some (.int .i64 ye.n):=hb6.keep (by simp);have k2:w7.cell? ⟨w4.heap.size,2,none⟩=some (.int .i64 ye.s):=hb6.keep (by simp);have HPP:=hid (HP.o.later hb6);have y0:=HPP.o.x0;have y1:=HPP.o.x1;have y2:=HPP.o.x2;have f0:=HPP.o.f0;have f1:=HPP.o.f1;have f2:=HPP.o.f2;have HTL:=hid (aF.set3 (u0:= .int .i64 ye.a) (u1:= .int .i64 (ye.n+x.n)) (u2:= .int .i64 ye.s) HPP.o.h7 t4 (aF.keep hb6 t4 HT4.o));have HTM:=hid (aF.set3 (u0:= .int .i64 ye.a) (u1:= .int .i64 (ye.n+x.n)) (u2:= .int .i64 ye.s) HPP.o.h7 tm (aF.keep hb6 tm HTM.o));have HTC:=hid (aF.set3 (u0:= .int .i64 ye.a) (u1:= .int .i64 (ye.n+x.n)) (u2:= .int .i64 ye.s) HPP.o.h7 tc (aF.keep hb6 tc HTC.o));have HP:=hid (HPP.o.set ⟨ye.a,ye.n+x.n,ye.s⟩);have HL:Hid (t4.toL++[⟨ye.a,ye.n+x.n,ye.s⟩]=fD (aJ t.toL 0 x.a) x):=hid (by rw[<-HA.o,HL0.o,dG _ _ _ hm'.o,HL4.o];rfl);have HSA:Hid (t4.size<=65536):=hid (by show t4.toL.length<=_;rw[HL4.o];omega);have HXX:Hid (okB ⟨ye.a,ye.n+x.n,ye.s⟩=true):=hid ((aD _).2 (by simp only;omega));have b0:ye.a+(ye.n+x.n)<=65536/\ye.s+(ye.n+x.n)<=65536/\0<=ye.a+(ye.n+x.n)/\0<=ye.s+(ye.n+x.n)/\0<=ye.n+x.n/\ye.n+x.n<=65536:=by omega
   have HOA4:Hid (∀y∈t4.toL,okB y=true):=hid (by rw[HL4.o];intro z hz;exact HOA.o z (by rw[HL0.o];simp[hz]));clear HTA HRA HA HL0 HT4 HL4 hb6 HOA;have HOA:=HOA4;clear HOA4
   cases tc with
   | nil=>
    obtain h0:ac=none:=by have:=HTC.o;simpa [aF]using this
    subst h0;have y0:=HP.o.x0;have y1:=HP.o.x1;have y2:=HP.o.x2;go_wp2_with fail;refine(fG t4 Tr.nil (⟨ye.a,ye.n+x.n,ye.s⟩:E) (.pointer a4) (.pointer none) _ HTL.o HTC.o (kN rfl rfl HOA.o HXX.o HOC.o (by show(t4).size+1+(Tr.nil).size<=_;have:=HSA.o;have:=HSZ.o;omega))).mono ?_;rintro e w8 ⟨v8,t8,rfl,ht8,hl8,hb8⟩;obtain⟨a8,rfl⟩:=ht8.form;have HTM:=hid (aF.keep hb8 tm HTM.o);have HP:=hid (HP.o.later hb8);have HT8:=hid ht8;have HL8:=hid hl8;clear ht8 hl8 hb8;go_wp2_with fail;refine(jV tm (.pointer am) w8 HTM.o (by have:=HSZ.o;omega)).mono ?_;rintro e w9 ⟨sv,rfl,ho,hb9⟩;obtain⟨sa,sc,rfl,_⟩:=ho.rd (by show tm.size<=_;have:=HSZ.o;omega);have P9:=HP.o.later hb9;have r0:=P9.r0;have rf:=P9.rf;have hsz8:=HP.o.bel.size;have hr8:=World.block_lt_of_cell? w8 ⟨w.heap.size+1+1,0,none⟩ HP.o.r0;have HT9:=hid (aF.away (i:=0) (u:= .pointer a8) P9.r7 t8 (aF.keep hb9 t8 HT8.o));have HB9:=hid (P9.bel.setCell (p:=⟨w.heap.size+1+1,0,none⟩) (by simp only;omega) (.pointer a8));have HO9:=hid (aG.far ho ⟨w.heap.size+1+1,0,none⟩ (.pointer a8) fun h=>by have:=(ho.lt (w.heap.size+1+1) h).1;simp only at hr8;omega);clear P9 ho hb9 hr8;go_wp2_with fail;have r1:=World.cell?_setCell_same w9 ⟨w.heap.size+1+1,0,none⟩ (.pointer a8) r0
    (try simp only[Exit.inBlock,Exit.then])
    refine bodyPost_ret (v:= .tuple #[.agg #[.pointer a8],.slice sa tm.toL.length sc,.int .i64 0]) (by first|(rw[results_cell_tmp rfl];go_simp;done)|(rw[aB rfl];go_simp;done)|(rw[aA rfl];go_simp;done)) rfl ?_;exact⟨_,t8,_,rfl,HT9.o,by rw[HL8.o];(rw[HPUT.o,<-HC.o,<-HL.o];simp[Tr.toL,bM]),by rw[<-HM.o];exact aG.mono HO9.o hsz8,HB9.o⟩
   | node cl yc cr=>
    obtain ⟨p,rfl⟩:∃ p,ac=some p:=by
     obtain⟨b2,_,_,hal,_⟩:=HTC.o;cases hal;exact⟨_,rfl⟩
    obtain ⟨y,L1,hL1⟩:∃ y L1,(Tr.node cl yc cr).toL=y::L1:=by
     cases h:(Tr.node cl yc cr).toL with
     |nil=>simp[Tr.toL]at h
     |cons a b=>exact⟨a,b,rfl⟩
    have hyo:=(aD y).1 (HOC.o y (by rw[hL1];simp));have HL1:=hid hL1;clear hL1;have y0:=HP.o.x0;have y1:=HP.o.x1;have y2:=HP.o.x2;go_wp2_with fail;refine(uF (.node cl yc cr) (.pointer (some p)) _ y L1 HL1.o HTC.o ⟨HOC.o,by show(Tr.node cl yc cr).size<=_;have:=HSZ.o;omega⟩).mono ?_;rintro e w5 ⟨v5,t5,rfl,ht5,hl5,hb5⟩;obtain⟨a5,rfl⟩:=ht5.form;have hb6:=hb5.bMq (.cells #[.int .i64 y.a,.int .i64 y.n,.int .i64 y.s] 81);have P:=HP.o.later hb5;have y0:=P.x0;have y1:=P.x1;have y2:=P.x2;have HP:=hid (HP.o.later hb6);have HTL:=hid (aF.keep hb6 t4 HTL.o);have HTM:=hid (aF.keep hb6 tm HTM.o);have HTC:=hid (aF.keep hb6 _ HTC.o);have HT5:=hid (aF.keep ((Below.refl w5.heap.size w5).bMq (.cells #[.int .i64 y.a,.int .i64 y.n,.int .i64 y.s] 81)) t5 ht5);have HL5:=hid hl5;clear P ht5 hl5 hb5 hb6;cases hm:meets (⟨ye.a,ye.n+x.n,ye.s⟩:E) y
    ·have hm':=hid hm;clear hm;go_wp2_with fail;refine(kF (⟨ye.a,ye.n+x.n,ye.s⟩:E) y false _ hm'.o (by first|omega|(dsimp only;omega)) (by first|omega|(dsimp only;omega))).mono ?_;rintro e w6 ⟨rfl,hb6⟩;have y0:=hb6.keep HP.o.x0;have y1:=hb6.keep HP.o.x1;have y2:=hb6.keep HP.o.x2;have HP:=hid (HP.o.later hb6);have HTL:=hid (aF.keep hb6 t4 HTL.o);have HTM:=hid (aF.keep hb6 tm HTM.o);have HTC:=hid (aF.keep hb6 _ HTC.o);clear hb6;go_wp2_with fail;refine(fG t4 (Tr.node cl yc cr) (⟨ye.a,ye.n+x.n,ye.s⟩:E) (.pointer a4) (.pointer (some p)) _ HTL.o HTC.o (kN rfl rfl HOA.o HXX.o HOC.o (by show(t4).size+1+((Tr.node cl yc cr)).size<=_;have:=HSA.o;have:=HSZ.o;omega))).mono ?_;rintro e w8 ⟨v8,t8,rfl,ht8,hl8,hb8⟩;obtain⟨a8,rfl⟩:=ht8.form;have HTM:=hid (aF.keep hb8 tm HTM.o);have HP:=hid (HP.o.later hb8);have HT8:=hid ht8;have HL8:=hid hl8;clear ht8 hl8 hb8;go_wp2_with fail;refine(jV tm (.pointer am) w8 HTM.o (by have:=HSZ.o;omega)).mono ?_;rintro e w9 ⟨sv,rfl,ho,hb9⟩;obtain⟨sa,sc,rfl,_⟩:=ho.rd (by show tm.size<=_;have:=HSZ.o;omega);have P9:=HP.o.later hb9;have r0:=P9.r0;have rf:=P9.rf;have hsz8:=HP.o.bel.size;have hr8:=World.block_lt_of_cell? w8 ⟨w.heap.size+1+1,0,none⟩ HP.o.r0;have HT9:=hid (aF.away (i:=0) (u:= .pointer a8) P9.r7 t8 (aF.keep hb9 t8 HT8.o));have HB9:=hid (P9.bel.setCell (p:=⟨w.heap.size+1+1,0,none⟩) (by simp only;omega) (.pointer a8));have HO9:=hid (aG.far ho ⟨w.heap.size+1+1,0,none⟩ (.pointer a8) fun h=>by have:=(ho.lt (w.heap.size+1+1) h).1;simp only at hr8;omega);clear P9 ho hb9 hr8;go_wp2_with fail;have r1:=World.cell?_setCell_same w9 ⟨w.heap.size+1+1,0,none⟩ (.pointer a8) r0
     (try simp only[Exit.inBlock,Exit.then])
     refine bodyPost_ret (v:= .tuple #[.agg #[.pointer a8],.slice sa tm.toL.length sc,.int .i64 0]) (by first|(rw[results_cell_tmp rfl];go_simp;done)|(rw[aB rfl];go_simp;done)|(rw[aA rfl];go_simp;done)) rfl ?_;exact⟨_,t8,_,rfl,HT9.o,by rw[HL8.o];(rw[HPUT.o,<-HC.o,<-HL.o,yS _ _ _ HNC.o (by rw[HL1.o];simp[hm'.o])]),by rw[<-HM.o];exact aG.mono HO9.o hsz8,HB9.o⟩
    ·obtain⟨m1,m2⟩:=(iD _ _).1 hm;have hm':=hid hm;clear hm;go_wp2_with fail;refine(kF (⟨ye.a,ye.n+x.n,ye.s⟩:E) y true _ hm'.o (by first|omega|(dsimp only;omega)) (by first|omega|(dsimp only;omega))).mono ?_;rintro e w6 ⟨rfl,hb6⟩;have k1:w6.cell? ⟨w5.heap.size,1,none⟩=some (.int .i64 y.n):=hb6.keep (by simp);have HPP:=hid (HP.o.later hb6);have y0:=HPP.o.x0;have y1:=HPP.o.x1;have y2:=HPP.o.x2;have f1:=HPP.o.f1;have HTL:=hid (aF.away (i:=1) (u:= .int .i64 (((⟨ye.a,ye.n+x.n,ye.s⟩:E)).n+y.n)) HPP.o.h7 t4 (aF.keep hb6 t4 HTL.o));have HTM:=hid (aF.away (i:=1) (u:= .int .i64 (((⟨ye.a,ye.n+x.n,ye.s⟩:E)).n+y.n)) HPP.o.h7 tm (aF.keep hb6 tm HTM.o));have HTC:=hid (aF.away (i:=1) (u:= .int .i64 (((⟨ye.a,ye.n+x.n,ye.s⟩:E)).n+y.n)) HPP.o.h7 t5 (aF.keep hb6 t5 HT5.o));have HP:=hid (HPP.o.setn (((⟨ye.a,ye.n+x.n,ye.s⟩:E)).n+y.n));have HXX:Hid (okB ⟨((⟨ye.a,ye.n+x.n,ye.s⟩:E)).a,((⟨ye.a,ye.n+x.n,ye.s⟩:E)).n+y.n,((⟨ye.a,ye.n+x.n,ye.s⟩:E)).s⟩=true):=hid ((aD _).2 (by have:=(aD _).1 HXX.o;first|(simp only;omega)|(dsimp only at *;omega)));have HOC:Hid (∀z∈t5.toL,okB z=true):=hid (by rw[HL5.o];intro z hz;exact HOC.o z (by rw[HL1.o];simp[hz]));have h6:(Tr.node cl yc cr).toL.length<=65536:=HSZ.o.2.2;rw[HL1.o,List.length_cons]at h6;have HSZ:Hid (0<=65536/\tm.size<=65536/\t5.size<=65536):=hid ⟨by omega,HSZ.o.2.1,by show t5.toL.length<=_;rw[HL5.o];omega⟩;clear h6;clear hb6;go_wp2_with fail;refine(fG t4 t5 ⟨((⟨ye.a,ye.n+x.n,ye.s⟩:E)).a,((⟨ye.a,ye.n+x.n,ye.s⟩:E)).n+y.n,((⟨ye.a,ye.n+x.n,ye.s⟩:E)).s⟩ (.pointer a4) (.pointer a5) _ HTL.o HTC.o (kN rfl rfl HOA.o HXX.o HOC.o (by show(t4).size+1+(t5).size<=_;have:=HSA.o;have:=HSZ.o;omega))).mono ?_;rintro e w8 ⟨v8,t8,rfl,ht8,hl8,hb8⟩;obtain⟨a8,rfl⟩:=ht8.form;have HTM:=hid (aF.keep hb8 tm HTM.o);have HP:=hid (HP.o.later hb8);have HT8:=hid ht8;have HL8:=hid hl8;clear ht8 hl8 hb8;go_wp2_with fail;refine(jV tm (.pointer am) w8 HTM.o (by have:=HSZ.o;omega)).mono ?_;rintro e w9 ⟨sv,rfl,ho,hb9⟩;obtain⟨sa,sc,rfl,_⟩:=ho.rd (by show tm.size<=_;have:=HSZ.o;omega);have P9:=HP.o.later hb9;have r0:=P9.r0;have rf:=P9.rf;have hsz8:=HP.o.bel.size;have hr8:=World.block_lt_of_cell? w8 ⟨w.heap.size+1+1,0,none⟩ HP.o.r0;have HT9:=hid (aF.away (i:=0) (u:= .pointer a8) P9.r7 t8 (aF.keep hb9 t8 HT8.o));have HB9:=hid (P9.bel.setCell (p:=⟨w.heap.size+1+1,0,none⟩) (by simp only;omega) (.pointer a8));have HO9:=hid (aG.far ho ⟨w.heap.size+1+1,0,none⟩ (.pointer a8) fun h=>by have:=(ho.lt (w.heap.size+1+1) h).1;simp only at hr8;omega);clear P9 ho hb9 hr8;go_wp2_with fail;have r1:=World.cell?_setCell_same w9 ⟨w.heap.size+1+1,0,none⟩ (.pointer a8) r0
     (try simp only[Exit.inBlock,Exit.then])
     refine bodyPost_ret (v:= .tuple #[.agg #[.pointer a8],.slice sa tm.toL.length sc,.int .i64 0]) (by first|(rw[results_cell_tmp rfl];go_simp;done)|(rw[aB rfl];go_simp;done)|(rw[aA rfl];go_simp;done)) rfl ?_;exact⟨_,t8,_,rfl,HT9.o,by rw[HL8.o];(rw[HPUT.o,<-HC.o,<-HL.o,HL1.o,vK _ _ _ _ (by rw[<-HL1.o];exact HNC.o) hm'.o,HL5.o];rfl),by rw[<-HM.o];exact aG.mono HO9.o hsz8,HB9.o⟩
end Go.Proofs.YtaiklhbakldfhaaGreat
