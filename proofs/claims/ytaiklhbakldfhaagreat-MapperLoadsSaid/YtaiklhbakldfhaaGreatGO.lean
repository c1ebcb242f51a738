/-
  package extree: trees in memory; deep, size, mapped, build.
  package extree: balance.
  package extree: join.
  Conditions: as each theorem says.
-/
import Derived.Test.YtaiklhbakldfhaaGreatGA
import Derived.Test.YtaiklhbakldfhaaGreatGC
import Derived.Test.YtaiklhbakldfhaaGreatGD
import Derived.Deep.RegionHeld3
namespace Go.Proofs.YtaiklhbakldfhaaGreat
open Go.Lib (hid)
set_option linter.unusedSimpArgs false
set_option linter.unusedVariables false
set_option maxRecDepth 100000
set_option maxHeartbeats 16000000
open Go.RowKit
def Tr.blocks (t:Tr):Int:=aT t.toL
theorem Tr.blocks_node (l r:Tr) (x:E):(Tr.node l x r).blocks=l.blocks+x.n+r.blocks:=by
 show aT (l.toL++x::r.toL)=aT l.toL+x.n+aT r.toL;unfold aT;rw[List.map_append,List.map_cons,List.sum_append,List.sum_cons];omega
structure aNw (w:World) (b:Nat) (x:E) (vl vr:Value) (dp ct:Nat) (mp:Int):Prop where
 a:w.cell? ⟨b,0,none⟩=some (.int .i64 x.a)
 n:w.cell? ⟨b,1,none⟩=some (.int .i64 x.n)
 s:w.cell? ⟨b,2,none⟩=some (.int .i64 x.s)
 l:w.cell? ⟨b,3,none⟩=some vl
 r:w.cell? ⟨b,4,none⟩=some vr
 d:w.cell? ⟨b,5,none⟩=some (.int .i64 dp)
 c:w.cell? ⟨b,6,none⟩=some (.int .i64 ct)
 m:w.cell? ⟨b,7,none⟩=some (.int .i64 mp)
theorem aNw.keep {w w':World} (h:Below w.heap.size w w') {b:Nat} {x:E} {vl vr:Value} {d n:Nat} {m:Int} (ha:aNw w b x vl vr d n m):aNw w' b x vl vr d n m:=
 ⟨h.keep ha.a,h.keep ha.n,h.keep ha.s,h.keep ha.l,h.keep ha.r,h.keep ha.d,h.keep ha.c,h.keep ha.m⟩
def aF (w:World):Value->Tr->Prop
 |v,.nil=>v= .pointer none
 |v,.node l x r=>∃ b vl vr,v= .pointer (some ⟨b,0,none⟩)/\aNw w b x vl vr (Tr.node l x r).deep (Tr.node l x r).size (Tr.node l x r).blocks/\aF w vl l/\aF w vr r
theorem aF.keep {w w':World} (h:Below w.heap.size w w') (t:Tr):∀ {v:Value},aF w v t->aF w' v t:=by
 induction t with
 |nil=>exact fun hv=>hv
 | node l x r ihl ihr=>
  rintro v ⟨b,vl,vr,hv,hn,hl,hr⟩;exact⟨b,vl,vr,hv,hn.keep h,ihl hl,ihr hr⟩
theorem aF.form {w:World} {v:Value} {t:Tr} (h:aF w v t):∃ a,v= .pointer a:=by
 cases t with
 |nil=>exact⟨none,h⟩
 |node l x r=>obtain⟨b,_,_,hv,_⟩:=h;exact⟨_,hv⟩
def Tr.ok (t:Tr):Prop:=(∀x∈t.toL,okB x=true)/\t.size<=1000000
theorem Tr.ok_left {l r:Tr} {x:E} (h:(Tr.node l x r).ok):l.ok:=⟨fun y hy=>h.1 y (by simp[Tr.toL,hy]),by have:=h.2;rw[Tr.bMy]at this;omega⟩
theorem Tr.bNa {l r:Tr} {x:E} (h:(Tr.node l x r).ok):r.ok:=⟨fun y hy=>h.1 y (by simp[Tr.toL,hy]),by have:=h.2;rw[Tr.bMy]at this;omega⟩
theorem Tr.ok_mid {l r:Tr} {x:E} (h:(Tr.node l x r).ok):okB x=true:=h.1 x (by simp[Tr.toL])
theorem Tr.blocks_bd {t:Tr} (h:t.ok):0<=t.blocks/\t.blocks<=65536000000:=by
 obtain⟨h1,h2⟩:=yZ t.toL h.1;have:=h.2;unfold Tr.size at this;exact⟨h1,by unfold Tr.blocks;omega⟩
theorem bGq (t:Tr) (v:Value) (w:World) (h:aF w v t):Calls Tryz.prog 213 #[v] w fun e w'=>e= .returned (.int .i64 t.deep)/\Below w.heap.size w w':=by
 cases t with
 | nil=>
  obtain rfl:v= .pointer none:=h;go_enter Tryz.func213,Tryz.ntmps213;go_wp2;go_ret;exact⟨rfl,Below.refl _ _⟩
 | node l x r=>
  obtain⟨b,vl,vr,rfl,hn,_,_⟩:=h;have hd:=hn.d;generalize (Tr.node l x r).deep=d at *;go_enter Tryz.func213,Tryz.ntmps213;go_wp2;go_ret;exact⟨rfl,Below.refl _ _⟩
theorem aYu (t:Tr) (v:Value) (w:World) (h:aF w v t):Calls Tryz.prog 228 #[v] w fun e w'=>e= .returned (.int .i64 t.size)/\Below w.heap.size w w':=by
 cases t with
 | nil=>
  obtain rfl:v= .pointer none:=h;go_enter Tryz.func228,Tryz.ntmps228;go_wp2;go_ret;exact⟨rfl,Below.refl _ _⟩
 | node l x r=>
  obtain⟨b,vl,vr,rfl,hn,_,_⟩:=h;have hd:=hn.c;generalize (Tr.node l x r).size=d at *;go_enter Tryz.func228,Tryz.ntmps228;go_wp2;go_ret;exact⟨rfl,Below.refl _ _⟩
theorem aVd (t:Tr) (v:Value) (w:World) (h:aF w v t):Calls Tryz.prog 117 #[v] w fun e w'=>e= .returned (.int .i64 t.blocks)/\Below w.heap.size w w':=by
 cases t with
 | nil=>
  obtain rfl:v= .pointer none:=h;go_enter Tryz.func117,Tryz.ntmps117;go_wp2;go_ret;exact⟨rfl,Below.refl _ _⟩
 | node l x r=>
  obtain⟨b,vl,vr,rfl,hn,_,_⟩:=h;have hd:=hn.m;generalize (Tr.node l x r).blocks=d at *;go_enter Tryz.func117,Tryz.ntmps117;go_wp2;go_ret;exact⟨rfl,Below.refl _ _⟩
theorem kC (t:Tr) (d:Nat) (v:Value) (w:World) (hd:t.deep=d) (h:aF w v t):Calls Tryz.prog 213 #[v] w fun e w'=>e= .returned (.int .i64 d)/\Below w.heap.size w w':=by
 subst hd;exact bGq t v w h
theorem aOk (t:Tr) (d:Nat) (v:Value) (w:World) (hd:t.size=d) (h:aF w v t):Calls Tryz.prog 228 #[v] w fun e w'=>e= .returned (.int .i64 d)/\Below w.heap.size w w':=by
 subst hd;exact aYu t v w h
theorem aBy (t:Tr) (d:Int) (v:Value) (w:World) (hd:t.blocks=d) (h:aF w v t):Calls Tryz.prog 117 #[v] w fun e w'=>e= .returned (.int .i64 d)/\Below w.heap.size w w':=by
 subst hd;exact aVd t v w h
def Grown (w:World) (L:List E) (e:Ending) (w':World):Prop:= ∃v t,e= .returned v/\aF w' v t/\t.toL=L/\Below w.heap.size w w'
theorem dK (l r:Tr) (x:E) (vl vr:Value) (w:World) (hl:aF w vl l) (hr:aF w vr r) (hok:(Tr.node l x r).ok):
  Calls Tryz.prog 215 #[vl,.agg #[.int .i64 x.a,.int .i64 x.n,.int .i64 x.s],vr] w fun e w'=>∃ v,e= .returned v/\aF w' v (.node l x r)/\Below w.heap.size w w':=by
 obtain⟨al,rfl⟩:=hl.form;obtain⟨ar,rfl⟩:=hr.form;have hk:=(Below.refl w.heap.size w).bMq (.cells #[.int .i64 x.a,.int .i64 x.n,.int .i64 x.s] 81);have HL:=hid (aF.keep hk l hl);have HL0:=hid hl;have HR0:=hid hr;have HR:=hid (aF.keep hk r hr);have hd1:=l.deep_le;have hd2:=r.deep_le;have hs:=hok.2;rw[Tr.bMy]at hs;obtain⟨b1,b2⟩:=Tr.blocks_bd (Tr.ok_left hok);obtain⟨b3,b4⟩:=Tr.blocks_bd (Tr.bNa hok);obtain⟨c1,c2,c3,c4,c5⟩:=(aD x).1 (Tr.ok_mid hok);have HD:Hid ((Tr.node l x r).deep=1+max l.deep r.deep):=hid rfl;have HSZ:=hid (Tr.bMy l r x);have HBL:=hid (Tr.blocks_node l r x);obtain⟨d1,e1⟩:∃ d,l.deep=d:=⟨_,rfl⟩;obtain⟨d2,e2⟩:∃ d,r.deep=d:=⟨_,rfl⟩;obtain⟨n1,e3⟩:∃ d,l.size=d:=⟨_,rfl⟩;obtain⟨n2,e4⟩:∃ d,r.size=d:=⟨_,rfl⟩;obtain⟨m1,e5⟩:∃ d,l.blocks=d:=⟨_,rfl⟩;obtain⟨m2,e6⟩:∃ d,r.blocks=d:=⟨_,rfl⟩;rw[e1,e3]at hd1;rw[e2,e4]at hd2;rw[e3,e4]at hs;rw[e5]at b1 b2;rw[e6]at b3 b4;have E1:=hid e1;have E2:=hid e2;have E3:=hid e3;have E4:=hid e4;have E5:=hid e5;have E6:=hid e6;have HK:=hid hk;clear hl hr hk hok e1 e2 e3 e4 e5 e6;go_enter Tryz.func215,Tryz.ntmps215;go_wp2_with fail;refine iM 23 (by kernel_rfl) (by kernel_rfl) ?_;simp only[List.take_succ_cons,List.take_zero,List.drop_succ_cons,List.drop_zero]
 repeat(go_big_quiet_step (first|(go_at_call_of 213 (Value.pointer al);exact Calls.bMv (kC l d1 _ _ E1.o (aF.keep (World.bMr _ _) l HL.o)))|(go_at_call_of 213 (Value.pointer ar);exact Calls.bMv (kC r d2 _ _ E2.o (aF.keep (World.bMr _ _) r HR.o)))|(go_at_call_of 228 (Value.pointer al);exact Calls.bMv (aOk l n1 _ _ E3.o (aF.keep (World.bMr _ _) l HL.o)))|(go_at_call_of 228 (Value.pointer ar);exact Calls.bMv (aOk r n2 _ _ E4.o (aF.keep (World.bMr _ _) r HR.o)))|(go_at_call_of 117 (Value.pointer al);exact Calls.bMv (aBy l m1 _ _ E5.o (aF.keep (World.bMr _ _) l HL.o)))|(go_at_call_of 117 (Value.pointer ar);exact Calls.bMv (aBy r m2 _ _ E6.o (aF.keep (World.bMr _ _) r HR.o)))))
 refine wpQuiet_nil ?_;intro _ hw';obtain⟨nq,hw''⟩:=hw';subst hw'';go_wp2
 all_goals go_ret
 all_goals (
  have hb:=HK.o.bMt nq;have hd:=HD.o;have hz:=HSZ.o;have hm:=HBL.o;rw[E1.o,E2.o]at hd;rw[E3.o,E4.o]at hz;rw[E5.o,E6.o]at hm;generalize ((w.alloc _).next nq)=W at *;refine⟨_,rfl,⟨_,_,_,rfl,⟨by simp,by simp,by simp,by simp,by simp,?_,?_,?_⟩,aF.keep (hb.bMq _) l HL0.o,aF.keep (hb.bMq _) r HR0.o⟩,hb.bMq _⟩
  ·rw[hd,World.cell?_alloc_new];simp;omega
  ·rw[hz,World.cell?_alloc_new];simp;omega
  ·rw[hm,World.cell?_alloc_new];simp
   omega)
open Go.RowKit
theorem Tr.ok_sub {t u:Tr} (h:t.ok) (hs:u.toL.Sublist t.toL):u.ok:=⟨fun x hx=>h.1 x (hs.subset hx),Nat.le_trans hs.length_le h.2⟩
theorem Tr.ok_same {t u:Tr} (h:t.ok) (hs:u.toL=t.toL):u.ok:=Tr.ok_sub h (by rw[hs];exact List.Sublist.refl _)
theorem aBe (l r:Tr) (x:E) (vl vr:Value) (w:World) (hl:aF w vl l) (hr:aF w vr r) (hok:(Tr.node l x r).ok):
  Calls Tryz.prog 214 #[vl,.agg #[.int .i64 x.a,.int .i64 x.n,.int .i64 x.s],vr] w (Grown w (l.toL++x::r.toL)):=by
 obtain⟨al,rfl⟩:=hl.form;obtain⟨ar,rfl⟩:=hr.form;have hk:=(Below.refl w.heap.size w).bMq (.cells #[.int .i64 x.a,.int .i64 x.n,.int .i64 x.s] 81);have HL:=hid (aF.keep hk l hl);have HR:=hid (aF.keep hk r hr);have HL0:=hid hl;have HR0:=hid hr;have hd1:=l.deep_le;have hd2:=r.deep_le;have hs:=hok.2;rw[Tr.bMy]at hs;have HOK:=hid hok;obtain⟨d1,e1⟩:∃ d,l.deep=d:=⟨_,rfl⟩;obtain⟨d2,e2⟩:∃ d,r.deep=d:=⟨_,rfl⟩;rw[e1]at hd1;rw[e2]at hd2;have E1:=hid e1;have E2:=hid e2;have HK:=hid hk;clear hl hr hk hok e1 e2;go_enter Tryz.func214,Tryz.ntmps214;go_wp2_with fail;refine(kC l d1 _ _ E1.o HL.o).mono ?_;rintro e w1 ⟨rfl,hb1⟩;go_wp2_with fail;refine(kC r d2 _ _ E2.o (aF.keep hb1 r HR.o)).mono ?_;rintro e w2 ⟨rfl,hb2⟩;have hb3:=Below.trans hb1 (hb2.mono hb1.size);have y0:w2.cell? ⟨w.heap.size,0,none⟩=some (.int .i64 x.a):=hb3.keep (by simp);have y1:w2.cell? ⟨w.heap.size,1,none⟩=some (.int .i64 x.n):=hb3.keep (by simp);have y2:w2.cell? ⟨w.heap.size,2,none⟩=some (.int .i64 x.s):=hb3.keep (by simp);have HB:=hid (HK.o.on hb3);clear hb1 hb2 hb3;go_wp2_with fail
 ·cases l with
  | nil=>
   have:=E1.o;simp[Tr.deep]at this;omega
  | node ll lx lr=>
   obtain⟨b,vll,vlr,hv,hn,hll,hlr⟩:=aF.keep HB.o (Tr.node ll lx lr) HL0.o;cases hv;obtain⟨all,rfl⟩:=hll.form;obtain⟨alr,rfl⟩:=hlr.form;have z0:=hn.a;have z1:=hn.n;have z2:=hn.s;have z3:=hn.l;have z4:=hn.r;have HLL:=hid hll;have HLR:=hid hlr;obtain⟨g1,e1⟩:∃ d,ll.deep=d:=⟨_,rfl⟩;obtain⟨g2,e2⟩:∃ d,lr.deep=d:=⟨_,rfl⟩;have G1:=hid e1;have G2:=hid e2;clear hn hll hlr e1 e2;refine aC (by kernel_rfl) (by kernel_rfl) ?_
   repeat(go_big_quiet_step (first|(go_at_call_of 213 (Value.pointer all);exact Calls.bMv (kC ll g1 _ _ G1.o (aF.keep (World.bMr _ _) ll HLL.o)))|(go_at_call_of 213 (Value.pointer alr);exact Calls.bMv (kC lr g2 _ _ G2.o (aF.keep (World.bMr _ _) lr HLR.o)))))
   refine wpQuiet_nil ?_;intro _ hw';obtain⟨nq,hw''⟩:=hw';subst hw'';have hq:=World.bMr w2 nq;have HB3:=hid (HB.o.on hq);have HLL:=hid (aF.keep hq ll HLL.o);have HLR:=hid (aF.keep hq lr HLR.o);have z0:=hq.keep z0;have z1:=hq.keep z1;have z2:=hq.keep z2;have z3:=hq.keep z3;have z4:=hq.keep z4;have y0:=hq.keep y0;have y1:=hq.keep y1;have y2:=hq.keep y2;clear hq;generalize w2.next nq=w3 at *;go_wp2_with fail
   ·have hok1:(Tr.node ll lx (.node lr x r)).ok:=Tr.ok_same HOK.o (by simp[Tr.toL]);have hok2:(Tr.node lr x r).ok:=Tr.bNa hok1;have hT1:=aF.keep (Below.refl w3.heap.size w3).drew ll HLL.o;have hT2:=aF.keep (Below.refl w3.heap.size w3).drew lr HLR.o;have hT3:=aF.keep HB3.o.drew r HR0.o;have hB:=HB3.o.drew;have HI:=hid (dK lr r x (.pointer alr) (.pointer ar) w3.drew hT2 hT3 hok2);have HT1:=hid hT1;have HO1:=hid hok1;have HBd:=hid hB;clear hok1 hok2 hT1 hT2 hT3 hB
    go_region_held3 (fun w'=>w'.cell? ⟨b,0,none⟩=some (.int .i64 lx.a)/\w'.cell? ⟨b,1,none⟩=some (.int .i64 lx.n)/\w'.cell? ⟨b,2,none⟩=some (.int .i64 lx.s)/\w'.cell? ⟨b,3,none⟩=some (.pointer all)/\w'.cell? ⟨b,4,none⟩=some (.pointer alr)/\w'.cell? ⟨w.heap.size,0,none⟩=some (.int .i64 x.a)/\w'.cell? ⟨w.heap.size,1,none⟩=some (.int .i64 x.n)/\w'.cell? ⟨w.heap.size,2,none⟩=some (.int .i64 x.s))
     (first|exact⟨z0,z1,z2,z3,z4,y0,y1,y2⟩|exact⟨hb4.keep z0,hb4.keep z1,hb4.keep z2,hb4.keep z3,hb4.keep z4,hb4.keep y0,hb4.keep y1,hb4.keep y2⟩|exact⟨hb5.keep (hb4.keep z0),hb5.keep (hb4.keep z1),hb5.keep (hb4.keep z2),hb5.keep (hb4.keep z3),hb5.keep (hb4.keep z4),hb5.keep (hb4.keep y0),hb5.keep (hb4.keep y1),hb5.keep (hb4.keep y2)⟩)
     (first
      |(go_at_call_of 215 (Value.pointer alr);refine HI.o.mono ?_;rintro e w4 ⟨v4,rfl,ht4,hb4⟩)
      |(go_at_call_of 215 (Value.pointer all);refine(dK ll (.node lr x r) lx (.pointer all) v4 w4 (aF.keep hb4 ll HT1.o) ht4 HO1.o).mono ?_;rintro e w5 ⟨v5,rfl,ht5,hb5⟩))
    go_wp2_with fail;go_ret;exact⟨v5,_,rfl,ht5,by simp[Tr.toL],(HBd.o.on hb4).on hb5⟩
   ·cases lr with
    | nil=>
     have:=G2.o;simp[Tr.deep]at this;omega
    | node c y d=>
     obtain⟨b2,vc,vd,hv2,hn2,hc,hd⟩:=HLR.o;cases hv2;obtain⟨ac,rfl⟩:=hc.form;obtain⟨ad,rfl⟩:=hd.form;have x0:=hn2.a;have x1:=hn2.n;have x2:=hn2.s;have x3:=hn2.l;have x4:=hn2.r;have hok0:(Tr.node (.node ll lx c) y (.node d x r)).ok:=Tr.ok_same HOK.o (by simp[Tr.toL]);have hok1:(Tr.node ll lx c).ok:=Tr.ok_left hok0;have hok2:(Tr.node d x r).ok:=Tr.bNa hok0;have HT1:=hid (aF.keep (Below.refl w3.heap.size w3).drew ll HLL.o);have HT2:=hid (aF.keep (Below.refl w3.heap.size w3).drew c hc);have HT3:=hid (aF.keep (Below.refl w3.heap.size w3).drew d hd);have HT4:=hid (aF.keep HB3.o.drew r HR0.o);have HBd:=hid HB3.o.drew;have HO0:=hid hok0;have HO1:=hid hok1;have HO2:=hid hok2;clear hok0 hok1 hok2 hn2 hc hd
     go_region_held3 (fun w'=>w'.cell? ⟨b,0,none⟩=some (.int .i64 lx.a)/\w'.cell? ⟨b,1,none⟩=some (.int .i64 lx.n)/\w'.cell? ⟨b,2,none⟩=some (.int .i64 lx.s)/\w'.cell? ⟨b,3,none⟩=some (.pointer all)/\w'.cell? ⟨b2,0,none⟩=some (.int .i64 y.a)/\w'.cell? ⟨b2,1,none⟩=some (.int .i64 y.n)/\w'.cell? ⟨b2,2,none⟩=some (.int .i64 y.s)/\w'.cell? ⟨b2,3,none⟩=some (.pointer ac)/\w'.cell? ⟨b2,4,none⟩=some (.pointer ad)/\w'.cell? ⟨w.heap.size,0,none⟩=some (.int .i64 x.a)/\w'.cell? ⟨w.heap.size,1,none⟩=some (.int .i64 x.n)/\w'.cell? ⟨w.heap.size,2,none⟩=some (.int .i64 x.s))
      (first
       |exact⟨z0,z1,z2,z3,x0,x1,x2,x3,x4,y0,y1,y2⟩
       |exact⟨(hb4.keep z0),(hb4.keep z1),(hb4.keep z2),(hb4.keep z3),(hb4.keep x0),(hb4.keep x1),(hb4.keep x2),(hb4.keep x3),(hb4.keep x4),(hb4.keep y0),(hb4.keep y1),(hb4.keep y2)⟩
       |exact⟨(hb5.keep (hb4.keep z0)),(hb5.keep (hb4.keep z1)),(hb5.keep (hb4.keep z2)),(hb5.keep (hb4.keep z3)),(hb5.keep (hb4.keep x0)),(hb5.keep (hb4.keep x1)),(hb5.keep (hb4.keep x2)),(hb5.keep (hb4.keep x3)),(hb5.keep (hb4.keep x4)),(hb5.keep (hb4.keep y0)),(hb5.keep (hb4.keep y1)),(hb5.keep (hb4.keep y2))⟩
       |exact⟨(hb6.keep (hb5.keep (hb4.keep z0))),(hb6.keep (hb5.keep (hb4.keep z1))),(hb6.keep (hb5.keep (hb4.keep z2))),(hb6.keep (hb5.keep (hb4.keep z3))),(hb6.keep (hb5.keep (hb4.keep x0))),(hb6.keep (hb5.keep (hb4.keep x1))),(hb6.keep (hb5.keep (hb4.keep x2))),(hb6.keep (hb5.keep (hb4.keep x3))),(hb6.keep (hb5.keep (hb4.keep x4))),(hb6.keep (hb5.keep (hb4.keep y0))),(hb6.keep (hb5.keep (hb4.keep y1))),(hb6.keep (hb5.keep (hb4.keep y2)))⟩)
      (first
       |(go_at_call_of 215 (Value.pointer all);first|(refine(dK ll c lx (.pointer all) (.pointer ac) w3.drew HT1.o HT2.o HO1.o).mono ?_;rintro e w4 ⟨v4,rfl,ht4,hb4⟩)|(refine(dK ll c lx (.pointer all) (.pointer ac) w4 (aF.keep hb4 ll HT1.o) (aF.keep hb4 c HT2.o) HO1.o).mono ?_;rintro e w5 ⟨v5,rfl,ht5,hb5⟩))
       |(go_at_call_of 215 (Value.pointer ad);first|(refine(dK d r x (.pointer ad) (.pointer ar) w3.drew HT3.o HT4.o HO2.o).mono ?_;rintro e w4 ⟨v4,rfl,ht4,hb4⟩)|(refine(dK d r x (.pointer ad) (.pointer ar) w4 (aF.keep hb4 d HT3.o) (aF.keep hb4 r HT4.o) HO2.o).mono ?_;rintro e w5 ⟨v5,rfl,ht5,hb5⟩))
       |(go_at_call_of 215 v4;refine(dK (.node ll lx c) (.node d x r) y v4 v5 w5 (aF.keep hb5 _ ht4) ht5 HO0.o).mono ?_;rintro e w6 ⟨v6,rfl,ht6,hb6⟩)
       |(go_at_call_of 215 v5;refine(dK (.node ll lx c) (.node d x r) y v5 v4 w5 ht5 (aF.keep hb5 _ ht4) HO0.o).mono ?_;rintro e w6 ⟨v6,rfl,ht6,hb6⟩))
     all_goals
      go_wp2_with fail;go_ret;exact⟨v6,_,rfl,ht6,by simp[Tr.toL],((HBd.o.on hb4).on hb5).on hb6⟩
 ·refine (kC r d2 _ _ E2.o (aF.keep HB.o r HR0.o)).mono ?_;rintro e w1' ⟨rfl,hb1⟩;have HBa:=hid (HB.o.on hb1);have y0:=hb1.keep y0;have y1:=hb1.keep y1;have y2:=hb1.keep y2;clear hb1;go_wp2_with fail;refine(kC l d1 _ _ E1.o (aF.keep HBa.o l HL0.o)).mono ?_;rintro e w2' ⟨rfl,hb1⟩;have HB:=hid (HBa.o.on hb1);have y0:=hb1.keep y0;have y1:=hb1.keep y1;have y2:=hb1.keep y2;clear hb1;go_wp2_with fail
  ·cases r with
   | nil=>
    have:=E2.o;simp[Tr.deep]at this;omega
   | node rl rx rr=>
    obtain⟨b,vrl,vrr,hv,hn,hrl,hrr⟩:=aF.keep HB.o (Tr.node rl rx rr) HR0.o;cases hv;obtain⟨arl,rfl⟩:=hrl.form;obtain⟨arr,rfl⟩:=hrr.form;have z0:=hn.a;have z1:=hn.n;have z2:=hn.s;have z3:=hn.l;have z4:=hn.r;have HLL:=hid hrl;have HLR:=hid hrr;obtain⟨g1,e1⟩:∃ d,rl.deep=d:=⟨_,rfl⟩;obtain⟨g2,e2⟩:∃ d,rr.deep=d:=⟨_,rfl⟩;have G1:=hid e1;have G2:=hid e2;clear hn hrl hrr e1 e2;refine aC (by kernel_rfl) (by kernel_rfl) ?_
    repeat(go_big_quiet_step (first|(go_at_call_of 213 (Value.pointer arl);exact Calls.bMv (kC rl g1 _ _ G1.o (aF.keep (World.bMr _ _) rl HLL.o)))|(go_at_call_of 213 (Value.pointer arr);exact Calls.bMv (kC rr g2 _ _ G2.o (aF.keep (World.bMr _ _) rr HLR.o)))))
    refine wpQuiet_nil ?_;intro _ hw';obtain⟨nq,hw''⟩:=hw';subst hw'';have hq:=World.bMr w2' nq;have HB3:=hid (HB.o.on hq);have HLL:=hid (aF.keep hq rl HLL.o);have HLR:=hid (aF.keep hq rr HLR.o);have z0:=hq.keep z0;have z1:=hq.keep z1;have z2:=hq.keep z2;have z3:=hq.keep z3;have z4:=hq.keep z4;have y0:=hq.keep y0;have y1:=hq.keep y1;have y2:=hq.keep y2;clear hq;generalize w2'.next nq=w3 at *;go_wp2_with fail
    ·have hok1:(Tr.node (.node l x rl) rx rr).ok:=Tr.ok_same HOK.o (by simp[Tr.toL]);have hok2:(Tr.node l x rl).ok:=Tr.ok_left hok1;have hT1:=aF.keep (Below.refl w3.heap.size w3).drew rl HLL.o;have hT2:=aF.keep (Below.refl w3.heap.size w3).drew rr HLR.o;have hT3:=aF.keep HB3.o.drew l HL0.o;have hB:=HB3.o.drew;have HI:=hid (dK l rl x (.pointer al) (.pointer arl) w3.drew hT3 hT1 hok2);have HT2:=hid hT2;have HO1:=hid hok1;have HBd:=hid hB;clear hok1 hok2 hT1 hT2 hT3 hB
     go_region_held3 (fun w'=>w'.cell? ⟨b,0,none⟩=some (.int .i64 rx.a)/\w'.cell? ⟨b,1,none⟩=some (.int .i64 rx.n)/\w'.cell? ⟨b,2,none⟩=some (.int .i64 rx.s)/\w'.cell? ⟨b,3,none⟩=some (.pointer arl)/\w'.cell? ⟨b,4,none⟩=some (.pointer arr)/\w'.cell? ⟨w.heap.size,0,none⟩=some (.int .i64 x.a)/\w'.cell? ⟨w.heap.size,1,none⟩=some (.int .i64 x.n)/\w'.cell? ⟨w.heap.size,2,none⟩=some (.int .i64 x.s))
      (first
       |exact⟨z0,z1,z2,z3,z4,y0,y1,y2⟩
       |exact⟨(hb4.keep z0),(hb4.keep z1),(hb4.keep z2),(hb4.keep z3),(hb4.keep z4),(hb4.keep y0),(hb4.keep y1),(hb4.keep y2)⟩
       |exact⟨(hb5.keep (hb4.keep z0)),(hb5.keep (hb4.keep z1)),(hb5.keep (hb4.keep z2)),(hb5.keep (hb4.keep z3)),(hb5.keep (hb4.keep z4)),(hb5.keep (hb4.keep y0)),(hb5.keep (hb4.keep y1)),(hb5.keep (hb4.keep y2))⟩)
      (first
       |(go_at_call_of 215 (Value.pointer al);refine HI.o.mono ?_;rintro e w4 ⟨v4,rfl,ht4,hb4⟩)
       |(go_at_call_of 215 v4;refine(dK (.node l x rl) rr rx v4 (.pointer arr) w4 ht4 (aF.keep hb4 rr HT2.o) HO1.o).mono ?_;rintro e w5 ⟨v5,rfl,ht5,hb5⟩))
     go_wp2_with fail;go_ret;exact⟨v5,_,rfl,ht5,by simp[Tr.toL],(HBd.o.on hb4).on hb5⟩
    ·cases rl with
     | nil=>
      have:=G1.o;simp[Tr.deep]at this;omega
     | node c y d=>
      obtain⟨b2,vc,vd,hv2,hn2,hc,hd⟩:=HLL.o;cases hv2;obtain⟨ac,rfl⟩:=hc.form;obtain⟨ad,rfl⟩:=hd.form;have x0:=hn2.a;have x1:=hn2.n;have x2:=hn2.s;have x3:=hn2.l;have x4:=hn2.r;have hok0:(Tr.node (.node l x c) y (.node d rx rr)).ok:=Tr.ok_same HOK.o (by simp[Tr.toL]);have hok1:(Tr.node l x c).ok:=Tr.ok_left hok0;have hok2:(Tr.node d rx rr).ok:=Tr.bNa hok0;have HT1:=hid (aF.keep HB3.o.drew l HL0.o);have HT2:=hid (aF.keep (Below.refl w3.heap.size w3).drew c hc);have HT3:=hid (aF.keep (Below.refl w3.heap.size w3).drew d hd);have HT4:=hid (aF.keep (Below.refl w3.heap.size w3).drew rr HLR.o);have HBd:=hid HB3.o.drew;have HO0:=hid hok0;have HO1:=hid hok1;have HO2:=hid hok2;clear hok0 hok1 hok2 hn2 hc hd
      go_region_held3 (fun w'=>w'.cell? ⟨b,0,none⟩=some (.int .i64 rx.a)/\w'.cell? ⟨b,1,none⟩=some (.int .i64 rx.n)/\w'.cell? ⟨b,2,none⟩=some (.int .i64 rx.s)/\w'.cell? ⟨b,4,none⟩=some (.pointer arr)/\w'.cell? ⟨b2,0,none⟩=some (.int .i64 y.a)/\w'.cell? ⟨b2,1,none⟩=some (.int .i64 y.n)/\w'.cell? ⟨b2,2,none⟩=some (.int .i64 y.s)/\w'.cell? ⟨b2,3,none⟩=some (.pointer ac)/\w'.cell? ⟨b2,4,none⟩=some (.pointer ad)/\w'.cell? ⟨w.heap.size,0,none⟩=some (.int .i64 x.a)/\w'.cell? ⟨w.heap.size,1,none⟩=some (.int .i64 x.n)/\w'.cell? ⟨w.heap.size,2,none⟩=some (.int .i64 x.s))
       (first
        |exact⟨z0,z1,z2,z4,x0,x1,x2,x3,x4,y0,y1,y2⟩
        |exact⟨(hb4.keep z0),(hb4.keep z1),(hb4.keep z2),(hb4.keep z4),(hb4.keep x0),(hb4.keep x1),(hb4.keep x2),(hb4.keep x3),(hb4.keep x4),(hb4.keep y0),(hb4.keep y1),(hb4.keep y2)⟩
        |exact⟨(hb5.keep (hb4.keep z0)),(hb5.keep (hb4.keep z1)),(hb5.keep (hb4.keep z2)),(hb5.keep (hb4.keep z4)),(hb5.keep (hb4.keep x0)),(hb5.keep (hb4.keep x1)),(hb5.keep (hb4.keep x2)),(hb5.keep (hb4.keep x3)),(hb5.keep (hb4.keep x4)),(hb5.keep (hb4.keep y0)),(hb5.keep (hb4.keep y1)),(hb5.keep (hb4.keep y2))⟩
        |exact⟨(hb6.keep (hb5.keep (hb4.keep z0))),(hb6.keep (hb5.keep (hb4.keep z1))),(hb6.keep (hb5.keep (hb4.keep z2))),(hb6.keep (hb5.keep (hb4.keep z4))),(hb6.keep (hb5.keep (hb4.keep x0))),(hb6.keep (hb5.keep (hb4.keep x1))),(hb6.keep (hb5.keep (hb4.keep x2))),(hb6.keep (hb5.keep (hb4.keep x3))),(hb6.keep (hb5.keep (hb4.keep x4))),(hb6.keep (hb5.keep (hb4.keep y0))),(hb6.keep (hb5.keep (hb4.keep y1))),(hb6.keep (hb5.keep (hb4.keep y2)))⟩)
       (first
        |(go_at_call_of 215 (Value.pointer al);first|(refine(dK l c x (.pointer al) (.pointer ac) w3.drew HT1.o HT2.o HO1.o).mono ?_;rintro e w4 ⟨v4,rfl,ht4,hb4⟩)|(refine(dK l c x (.pointer al) (.pointer ac) w4 (aF.keep hb4 l HT1.o) (aF.keep hb4 c HT2.o) HO1.o).mono ?_;rintro e w5 ⟨v5,rfl,ht5,hb5⟩))
        |(go_at_call_of 215 (Value.pointer ad);first|(refine(dK d rr rx (.pointer ad) (.pointer arr) w3.drew HT3.o HT4.o HO2.o).mono ?_;rintro e w4 ⟨v4,rfl,ht4,hb4⟩)|(refine(dK d rr rx (.pointer ad) (.pointer arr) w4 (aF.keep hb4 d HT3.o) (aF.keep hb4 rr HT4.o) HO2.o).mono ?_;rintro e w5 ⟨v5,rfl,ht5,hb5⟩))
        |(go_at_call_of 215 v4;refine(dK (.node l x c) (.node d rx rr) y v4 v5 w5 (aF.keep hb5 _ ht4) ht5 HO0.o).mono ?_;rintro e w6 ⟨v6,rfl,ht6,hb6⟩)
        |(go_at_call_of 215 v5;refine(dK (.node l x c) (.node d rx rr) y v5 v4 w5 ht5 (aF.keep hb5 _ ht4) HO0.o).mono ?_;rintro e w6 ⟨v6,rfl,ht6,hb6⟩))
      all_goals
       go_wp2_with fail;go_ret;exact⟨v6,_,rfl,ht6,by simp[Tr.toL],((HBd.o.on hb4).on hb5).on hb6⟩
  ·refine(dK l r x (.pointer al) (.pointer ar) _ (aF.keep HB.o l HL0.o) (aF.keep HB.o r HR0.o) HOK.o).mono ?_;rintro e w4 ⟨v4,rfl,ht4,hb4⟩;go_wp2_with fail;go_ret;exact⟨v4,_,rfl,ht4,by simp[Tr.toL],HB.o.on hb4⟩
open Go.RowKit
def Joins (l r:Tr) (x:E):Prop:= ∀(vl vr:Value) (w:World),aF w vl l->aF w vr r->(Tr.node l x r).ok->
  Calls Tryz.prog 171 #[vl,.agg #[.int .i64 x.a,.int .i64 x.n,.int .i64 x.s],vr] w (Grown w (l.toL++x::r.toL))
theorem join_step (l r:Tr) (x:E) (ih:∀ l' r' x',l'.size+r'.size<l.size+r.size->Joins l' r' x'):Joins l r x:=by
 intro vl vr w hl hr hok;obtain⟨al,rfl⟩:=hl.form;obtain⟨ar,rfl⟩:=hr.form;have hk:=(Below.refl w.heap.size w).bMq (.cells #[.int .i64 x.a,.int .i64 x.n,.int .i64 x.s] 81);have HL:=hid (aF.keep hk l hl);have HR:=hid (aF.keep hk r hr);have HL0:=hid hl;have HR0:=hid hr;have hd1:=l.deep_le;have hd2:=r.deep_le;have hs:=hok.2;rw[Tr.bMy]at hs;have HOK:=hid hok;have IH:=hid ih;obtain⟨d1,e1⟩:∃ d,l.deep=d:=⟨_,rfl⟩;obtain⟨d2,e2⟩:∃ d,r.deep=d:=⟨_,rfl⟩;rw[e1]at hd1;rw[e2]at hd2;have E1:=hid e1;have E2:=hid e2;have HK:=hid hk;clear hl hr hk hok e1 e2 ih;go_enter Tryz.func171,Tryz.ntmps171;go_wp2_with fail;refine(kC l d1 _ _ E1.o HL.o).mono ?_;rintro e w1 ⟨rfl,hb1⟩;go_wp2_with fail;refine(kC r d2 _ _ E2.o (aF.keep hb1 r HR.o)).mono ?_;rintro e w2 ⟨rfl,hb2⟩;have hb3:=Below.trans hb1 (hb2.mono hb1.size);have y0:w2.cell? ⟨w.heap.size,0,none⟩=some (.int .i64 x.a):=hb3.keep (by simp);have y1:w2.cell? ⟨w.heap.size,1,none⟩=some (.int .i64 x.n):=hb3.keep (by simp);have y2:w2.cell? ⟨w.heap.size,2,none⟩=some (.int .i64 x.s):=hb3.keep (by simp);have HB:=hid (HK.o.on hb3);clear hb1 hb2 hb3;go_wp2_with fail
 ·cases l with
  | nil=>
   have:=E1.o;simp[Tr.deep]at this;omega
  | node ll lx lr=>
   obtain⟨b,vll,vlr,hv,hn,hll,hlr⟩:=aF.keep HB.o (Tr.node ll lx lr) HL0.o;cases hv;obtain⟨all,rfl⟩:=hll.form;obtain⟨alr,rfl⟩:=hlr.form;have z0:=hn.a;have z1:=hn.n;have z2:=hn.s;have z3:=hn.l;have z4:=hn.r;have hz:=Tr.bMy ll lr lx;have hok1:(Tr.node lr x r).ok:=Tr.bNa (l:=ll) (x:=lx) (Tr.ok_same HOK.o (by simp[Tr.toL]));have HI:=hid (IH.o lr r x (by omega) (.pointer alr) (.pointer ar) w2.drew (aF.keep (Below.refl w2.heap.size w2).drew lr hlr) (aF.keep HB.o.drew r HR0.o) hok1);have HT1:=hid (aF.keep (Below.refl w2.heap.size w2).drew ll hll);have HBd:=hid HB.o.drew;clear hz hok1 hn hll hlr
   go_region_held3 (fun w'=>w'.cell? ⟨b,0,none⟩=some (.int .i64 lx.a)/\w'.cell? ⟨b,1,none⟩=some (.int .i64 lx.n)/\w'.cell? ⟨b,2,none⟩=some (.int .i64 lx.s)/\w'.cell? ⟨b,3,none⟩=some (.pointer all)/\w'.cell? ⟨b,4,none⟩=some (.pointer alr)/\w'.cell? ⟨w.heap.size,0,none⟩=some (.int .i64 x.a)/\w'.cell? ⟨w.heap.size,1,none⟩=some (.int .i64 x.n)/\w'.cell? ⟨w.heap.size,2,none⟩=some (.int .i64 x.s))
    (first
     |exact⟨z0,z1,z2,z3,z4,y0,y1,y2⟩
     |exact⟨(hb4.keep z0),(hb4.keep z1),(hb4.keep z2),(hb4.keep z3),(hb4.keep z4),(hb4.keep y0),(hb4.keep y1),(hb4.keep y2)⟩
     |exact⟨(hb5.keep (hb4.keep z0)),(hb5.keep (hb4.keep z1)),(hb5.keep (hb4.keep z2)),(hb5.keep (hb4.keep z3)),(hb5.keep (hb4.keep z4)),(hb5.keep (hb4.keep y0)),(hb5.keep (hb4.keep y1)),(hb5.keep (hb4.keep y2))⟩)
    (first
     |(go_at_call_of 171 (Value.pointer alr);refine HI.o.mono ?_;rintro e w4 ⟨v4,t4,rfl,ht4,hl4,hb4⟩)
     |(go_at_call_of 214 (Value.pointer all);refine(aBe ll t4 lx (.pointer all) v4 w4 (aF.keep hb4 ll HT1.o) ht4 (Tr.ok_same HOK.o (by simp[Tr.toL,hl4]))).mono ?_;rintro e w5 ⟨v5,t5,rfl,ht5,hl5,hb5⟩))
   go_wp2_with fail;go_ret;exact⟨v5,t5,rfl,ht5,by rw[hl5,hl4];simp[Tr.toL],(HBd.o.on hb4).on hb5⟩
 ·refine (kC r d2 _ _ E2.o (aF.keep HB.o r HR0.o)).mono ?_;rintro e w1' ⟨rfl,hb1⟩;have HBa:=hid (HB.o.on hb1);have y0:=hb1.keep y0;have y1:=hb1.keep y1;have y2:=hb1.keep y2;clear hb1;go_wp2_with fail;refine(kC l d1 _ _ E1.o (aF.keep HBa.o l HL0.o)).mono ?_;rintro e w2' ⟨rfl,hb1⟩;have HB:=hid (HBa.o.on hb1);have y0:=hb1.keep y0;have y1:=hb1.keep y1;have y2:=hb1.keep y2;clear hb1;go_wp2_with fail
  ·cases r with
   | nil=>
    have:=E2.o;simp[Tr.deep]at this;omega
   | node rl rx rr=>
    obtain⟨b,vrl,vrr,hv,hn,hrl,hrr⟩:=aF.keep HB.o (Tr.node rl rx rr) HR0.o;cases hv;obtain⟨arl,rfl⟩:=hrl.form;obtain⟨arr,rfl⟩:=hrr.form;have z0:=hn.a;have z1:=hn.n;have z2:=hn.s;have z3:=hn.l;have z4:=hn.r;have hz:=Tr.bMy rl rr rx;have hok1:(Tr.node l x rl).ok:=Tr.ok_left (r:=rr) (x:=rx) (Tr.ok_same HOK.o (by simp[Tr.toL]));have HI:=hid (IH.o l rl x (by omega) (.pointer al) (.pointer arl) w2'.drew (aF.keep HB.o.drew l HL0.o) (aF.keep (Below.refl w2'.heap.size w2').drew rl hrl) hok1);have HT1:=hid (aF.keep (Below.refl w2'.heap.size w2').drew rr hrr);have HBd:=hid HB.o.drew;clear hz hok1 hn hrl hrr
    go_region_held3 (fun w'=>w'.cell? ⟨b,0,none⟩=some (.int .i64 rx.a)/\w'.cell? ⟨b,1,none⟩=some (.int .i64 rx.n)/\w'.cell? ⟨b,2,none⟩=some (.int .i64 rx.s)/\w'.cell? ⟨b,3,none⟩=some (.pointer arl)/\w'.cell? ⟨b,4,none⟩=some (.pointer arr)/\w'.cell? ⟨w.heap.size,0,none⟩=some (.int .i64 x.a)/\w'.cell? ⟨w.heap.size,1,none⟩=some (.int .i64 x.n)/\w'.cell? ⟨w.heap.size,2,none⟩=some (.int .i64 x.s))
     (first
      |exact⟨z0,z1,z2,z3,z4,y0,y1,y2⟩
      |exact⟨(hb4.keep z0),(hb4.keep z1),(hb4.keep z2),(hb4.keep z3),(hb4.keep z4),(hb4.keep y0),(hb4.keep y1),(hb4.keep y2)⟩
      |exact⟨(hb5.keep (hb4.keep z0)),(hb5.keep (hb4.keep z1)),(hb5.keep (hb4.keep z2)),(hb5.keep (hb4.keep z3)),(hb5.keep (hb4.keep z4)),(hb5.keep (hb4.keep y0)),(hb5.keep (hb4.keep y1)),(hb5.keep (hb4.keep y2))⟩)
     (first
      |(go_at_call_of 171 (Value.pointer al);refine HI.o.mono ?_;rintro e w4 ⟨v4,t4,rfl,ht4,hl4,hb4⟩)
      |(go_at_call_of 214 v4;refine(aBe t4 rr rx v4 (.pointer arr) w4 ht4 (aF.keep hb4 rr HT1.o) (Tr.ok_same HOK.o (by simp[Tr.toL,hl4]))).mono ?_;rintro e w5 ⟨v5,t5,rfl,ht5,hl5,hb5⟩))
    go_wp2_with fail;go_ret;exact⟨v5,t5,rfl,ht5,by rw[hl5,hl4];simp[Tr.toL],(HBd.o.on hb4).on hb5⟩
  ·refine(dK l r x (.pointer al) (.pointer ar) _ (aF.keep HB.o l HL0.o) (aF.keep HB.o r HR0.o) HOK.o).mono ?_;rintro e w4 ⟨v4,rfl,ht4,hb4⟩;go_wp2_with fail;go_ret;exact⟨v4,_,rfl,ht4,by simp[Tr.toL],HB.o.on hb4⟩
theorem fG (l r:Tr) (x:E):Joins l r x:=by
 have h:∀ m l r x,l.size+r.size=m->Joins l r x:=by
  intro m
  induction m using Nat.strongRecOn with
  |_ m ih=>exact fun l r x hm=>join_step l r x fun l' r' x' hlt=>ih _ (by omega) l' r' x' rfl
 exact h _ l r x rfl
end Go.Proofs.YtaiklhbakldfhaaGreat
