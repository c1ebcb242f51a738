/-
  package extree: first, last, concat.
  Conditions: as each theorem says.
-/
import Derived.Test.YtaiklhbakldfhaaGreatGO
import Derived.Laws.ResultCell
namespace Go.Proofs.YtaiklhbakldfhaaGreat
open Go.Lib (hid)
set_option linter.unusedSimpArgs false
set_option linter.unusedVariables false
set_option maxRecDepth 100000
set_option maxHeartbeats 16000000
open Go.RowKit
theorem aA {fn:Func} {p:Tmp} {ty:TypeId} (h:fn.results= #[.cell p ty]) (tmps:Array Value) (P:Program) (w:World):
  (results fn tmps).run P w=((asAddr (tmps.getD p undef)).run P w).andThen fun a w₁=>(loadVar ty a).run P w₁:=by
 simp only[results,h];simp[Sem.run_bind,Result.andThen]
theorem aB {fn:Func} {p u u':Tmp} {ty:TypeId} (h:fn.results= #[.cell p ty,.tmp u,.tmp u']) (tmps:Array Value) (P:Program) (w:World):
  (results fn tmps).run P w=
   ((asAddr (tmps.getD p undef)).run P w).andThen fun a w₁=>((loadVar ty a).run P w₁).andThen fun v w₂=> .ok (.tuple #[v,tmps.getD u undef,tmps.getD u' undef]) w₂:=by
 simp only[results,h];simp[Sem.run_bind,Result.andThen]
theorem fA {w:World} {a p q r:Addr} {u v x:Value} (h1:a.block≠p.block) (h2:a.block≠q.block) (h3:a.block≠r.block):(((w.setCell p u).setCell q v).setCell r x).cell? a=w.cell? a:=by
 have k:∀ (w:World) (p:Addr) (u:Value),a.block≠p.block->(w.setCell p u).cell? a=w.cell? a:=fun w p u h=>by
  simp only[World.cell?];rw[RowKit.Below.heap_setCell _ _ _ _ h]
 rw[k _ _ _ h3,k _ _ _ h2,k _ _ _ h1]
theorem aF.set3 {w:World} {B:Nat} {u0 u1 u2:Value} (h7:w.cell? ⟨B,7,none⟩=none) (t:Tr):∀ {v:Value},aF w v t->aF (((w.setCell ⟨B,0,none⟩ u0).setCell ⟨B,1,none⟩ u1).setCell ⟨B,2,none⟩ u2) v t:=by
 induction t with
 |nil=>exact fun hv=>hv
 | node l x r ihl ihr=>
  rintro v ⟨b,vl,vr,hv,hn,hl,hr⟩;have hne:b≠B:=fun e=>by
   subst e;have:=hn.m;rw[h7]at this;cases this
  have k:∀ i,(((w.setCell ⟨B,0,none⟩ u0).setCell ⟨B,1,none⟩ u1).setCell ⟨B,2,none⟩ u2).cell? ⟨b,i,none⟩=w.cell? ⟨b,i,none⟩:=fun i=>fA hne hne hne;exact⟨b,vl,vr,hv,⟨(k _).trans hn.a,(k _).trans hn.n,(k _).trans hn.s,(k _).trans hn.l,(k _).trans hn.r,(k _).trans hn.d,(k _).trans hn.c,(k _).trans hn.m⟩,ihl hl,ihr hr⟩
theorem vQ {w:World} {b:Nat} {u0 u1 u2 x0 x1 x2:Value} (h0:w.cell? ⟨b,0,none⟩=some x0) (h1:w.cell? ⟨b,1,none⟩=some x1) (h2:w.cell? ⟨b,2,none⟩=some x2):
  (((w.setCell ⟨b,0,none⟩ u0).setCell ⟨b,1,none⟩ u1).setCell ⟨b,2,none⟩ u2).cell? ⟨b,0,none⟩=some u0/\(((w.setCell ⟨b,0,none⟩ u0).setCell ⟨b,1,none⟩ u1).setCell ⟨b,2,none⟩ u2).cell? ⟨b,1,none⟩=some u1/\
   (((w.setCell ⟨b,0,none⟩ u0).setCell ⟨b,1,none⟩ u1).setCell ⟨b,2,none⟩ u2).cell? ⟨b,2,none⟩=some u2:=by
 have n01:(⟨b,0,none⟩:Addr)≠⟨b,1,none⟩:=by simp
 have n02:(⟨b,0,none⟩:Addr)≠⟨b,2,none⟩:=by simp
 have n12:(⟨b,1,none⟩:Addr)≠⟨b,2,none⟩:=by simp
 refine⟨?_,?_,?_⟩
 ·rw[World.cell?_setCell_other _ _ _ _ n02.symm,World.cell?_setCell_other _ _ _ _ n01.symm,World.cell?_setCell_same _ _ _ h0]
 ·rw[World.cell?_setCell_other _ _ _ _ n12.symm,World.cell?_setCell_same (u:=x1)];rw[World.cell?_setCell_other _ _ _ _ n01,h1]
 ·rw[World.cell?_setCell_same (u:=x2)];rw[World.cell?_setCell_other _ _ _ _ n12,World.cell?_setCell_other _ _ _ _ n02,h2]
def aYl (w:World) (x:E) (L:List E) (e:Ending) (w':World):Prop:=
 ∃v t,e= .returned (.tuple #[.agg #[.int .i64 x.a,.int .i64 x.n,.int .i64 x.s],v])/\aF w' v t/\t.toL=L/\Below w.heap.size w w'
theorem uF (t:Tr):∀ (v:Value) (w:World) (x:E) (L:List E),t.toL=x::L->aF w v t->t.ok->Calls Tryz.prog 170 #[v] w (aYl w x L):=by
 induction t with
 |nil=>intro v w x L h;simp[Tr.toL]at h
 | node l y r ihl _=>
  intro v w x L hL ht hok;obtain⟨b,vl,vr,rfl,hn,hl,hr⟩:=ht;have hk:=(Below.refl w.heap.size w).bMq (.cells #[.int .i64 0,.int .i64 0,.int .i64 0] 81);obtain⟨ar,rfl⟩:=hr.form;have z0:=hn.a;have z1:=hn.n;have z2:=hn.s;have z3:=hn.l;have z4:=hn.r;have HOK:=hid hok;have HK:=hid hk
  cases l with
  | nil=>
   obtain rfl:vl= .pointer none:=hl;simp only[Tr.toL,List.nil_append,List.cons.injEq]at hL;obtain⟨rfl,rfl⟩:=hL;have HR:=hid hr;clear hn hr hok hk;go_enter Tryz.func170,Tryz.ntmps170;go_wp2_with fail
   go_region
   go_wp2_with fail
   (try simp only[Exit.inBlock,Exit.then])
   refine bodyPost_ret (v:= .tuple #[.agg #[.int .i64 y.a,.int .i64 y.n,.int .i64 y.s],.pointer ar]) (by first|(rw[results_cell_tmp rfl];go_simp;done)|(rw[aB rfl];go_simp;done)|(rw[aA rfl];go_simp;done)) rfl ?_;have hB:Below w.heap.size w ((w.alloc (.cells #[.int .i64 y.a,.int .i64 y.n,.int .i64 y.s] 81)).drew):=by(repeat(first|exact Below.refl _ _|assumption|refine Below.bMt ?_ _|refine Below.bMq ?_ _|refine Below.setCell ?_ (by simp) _|refine Below.drew ?_))
   exact⟨_,r,rfl,aF.keep hB r HR.o,rfl,hB⟩
  | node ll lx lr=>
   obtain ⟨al,rfl⟩:=hl.form;have hal:al≠none:=by
    obtain⟨b2,_,_,hal,_⟩:=hl;cases hal;simp
   obtain ⟨p,rfl⟩:∃ p,al=some p:=by
    cases al with
    |none=>exact absurd rfl hal
    |some p=>exact⟨p,rfl⟩
   obtain ⟨x1,L1,hL1⟩:∃ x1 L1,(Tr.node ll lx lr).toL=x1::L1:=by
    cases h:(Tr.node ll lx lr).toL with
    |nil=>simp[Tr.toL]at h
    |cons a b=>exact⟨a,b,rfl⟩
   have hL2:x1::(L1++y::r.toL)=x::L:=by
    rw[<-hL];show _=(Tr.node ll lx lr).toL++_;rw[hL1];rfl
   simp only[List.cons.injEq]at hL2;obtain⟨rfl,hL3⟩:=hL2;have HI:=hid (ihl (.pointer (some p)) (w.alloc (.cells #[.int .i64 0,.int .i64 0,.int .i64 0] 81)) x1 L1 hL1 (aF.keep hk _ hl) (Tr.ok_left hok));have HR:=hid (aF.keep hk r hr);have HLL:=hid hL3;have HI1:=hid hL1;have hn0:=hid hn;clear ihl hn hr hl hok hk hal hL hL3 hL1;go_enter Tryz.func170,Tryz.ntmps170;go_wp2_with fail;refine HI.o.mono ?_;rintro e w1 ⟨v1,t1,rfl,ht1,hl1,hb1⟩;have hB1:=HK.o.on hb1;have c0:w1.cell? ⟨w.heap.size,0,none⟩=some (.int .i64 0):=hb1.keep (by simp);have c1:w1.cell? ⟨w.heap.size,1,none⟩=some (.int .i64 0):=hb1.keep (by simp);have c2:w1.cell? ⟨w.heap.size,2,none⟩=some (.int .i64 0):=hb1.keep (by simp);have f0:w1.frozen? ⟨w.heap.size,0,none⟩=false:=hb1.bMw (v:= .int .i64 0) (by simp) (by simp);have f1:w1.frozen? ⟨w.heap.size,1,none⟩=false:=hb1.bMw (v:= .int .i64 0) (by simp) (by simp);have f2:w1.frozen? ⟨w.heap.size,2,none⟩=false:=hb1.bMw (v:= .int .i64 0) (by simp) (by simp);have c7:w1.cell? ⟨w.heap.size,7,none⟩=none:=by
    rw[hb1.cell (by simp)];simp
   have z0:=hB1.keep z0;have z1:=hB1.keep z1;have z2:=hB1.keep z2;have z4:=hB1.keep z4;have hR1:=hid (aF.keep hb1 r HR.o);have hJ:=fG t1 r y v1 (.pointer ar) ((w1.alloc (.cells #[.int .i64 x1.a,.int .i64 x1.n,.int .i64 x1.s] 81)).drew) (aF.keep (by(repeat(first|exact Below.refl _ _|assumption|refine Below.bMt ?_ _|refine Below.bMq ?_ _|refine Below.setCell ?_ (by simp) _|refine Below.drew ?_))) t1 ht1) (aF.keep (by(repeat(first|exact Below.refl _ _|assumption|refine Below.bMt ?_ _|refine Below.bMq ?_ _|refine Below.setCell ?_ (by simp) _|refine Below.drew ?_))) r hR1.o) (by
    refine Tr.ok_sub HOK.o ?_;have:=HI1.o;simp only[Tr.toL]at this ⊢;rw[hl1];refine List.Sublist.append (List.Sublist.trans (List.sublist_cons_self x1 L1) ?_) (List.Sublist.refl _);rw[this]
    exact List.Sublist.refl _)
   have hbn:b≠w.heap.size:=Nat.ne_of_lt (World.block_lt_of_cell? w _ hn0.o.a);have hxn:w1.heap.size≠w.heap.size:=by
    have:=hb1.size;simp at this;omega
   have HBN:=hid hbn;have HXN:=hid hxn;have HJ:=hid hJ;have HB1:=hid hB1;have HT1:=hid ht1;have HL1:=hid hl1;clear hJ hb1 hB1 ht1 hl1 hbn hxn;go_wp2_with fail
   go_region_held3 (fun w'=>w'.cell? ⟨b,0,none⟩=some (.int .i64 y.a)/\w'.cell? ⟨b,1,none⟩=some (.int .i64 y.n)/\w'.cell? ⟨b,2,none⟩=some (.int .i64 y.s)/\w'.cell? ⟨b,4,none⟩=some (.pointer ar)/\w'.cell? ⟨w1.heap.size,0,none⟩=some (.int .i64 x1.a)/\w'.cell? ⟨w1.heap.size,1,none⟩=some (.int .i64 x1.n)/\w'.cell? ⟨w1.heap.size,2,none⟩=some (.int .i64 x1.s))
    (first
     |(simp[z0,z1,z2,z4];done)
     |exact⟨hb4.keep (by simp[z0]),hb4.keep (by simp[z1]),hb4.keep (by simp[z2]),hb4.keep (by simp[z4]),hb4.keep (by simp),hb4.keep (by simp),hb4.keep (by simp)⟩
     |exact⟨(fA HBN.o HBN.o HBN.o).trans (hb4.keep (by simp[z0])),(fA HBN.o HBN.o HBN.o).trans (hb4.keep (by simp[z1])),(fA HBN.o HBN.o HBN.o).trans (hb4.keep (by simp[z2])),(fA HBN.o HBN.o HBN.o).trans (hb4.keep (by simp[z4])),(fA HXN.o HXN.o HXN.o).trans (hb4.keep (by simp)),(fA HXN.o HXN.o HXN.o).trans (hb4.keep (by simp)),(fA HXN.o HXN.o HXN.o).trans (hb4.keep (by simp))⟩)
    ((go_at_call 171;refine HJ.o.mono ?_;rintro e w4 ⟨v4,t4,rfl,ht4,hl4,hb4⟩;have g0:w4.cell? ⟨w.heap.size,0,none⟩=some (.int .i64 0):=hb4.keep (by simp[c0]);have g1:w4.cell? ⟨w.heap.size,1,none⟩=some (.int .i64 0):=hb4.keep (by simp[c1]);have g2:w4.cell? ⟨w.heap.size,2,none⟩=some (.int .i64 0):=hb4.keep (by simp[c2]);have k0:w4.frozen? ⟨w.heap.size,0,none⟩=false:=hb4.bMw (v:= .int .i64 0) (by simp[c0]) (by simp[c0,f0]);have k1:w4.frozen? ⟨w.heap.size,1,none⟩=false:=hb4.bMw (v:= .int .i64 0) (by simp[c1]) (by simp[c1,f1]);have k2:w4.frozen? ⟨w.heap.size,2,none⟩=false:=hb4.bMw (v:= .int .i64 0) (by simp[c2]) (by simp[c2,f2])))
   have HB4:=hid (((HB1.o.bMq (.cells #[.int .i64 x1.a,.int .i64 x1.n,.int .i64 x1.s] 81)).drew).on hb4);have h7:w4.cell? ⟨w.heap.size,7,none⟩=none:=by
    rw[hb4.cell (by have:=HB1.o.size;have:=World.block_lt_of_cell? _ _ c0;simp;omega)];simp;exact(World.cell?_alloc_lt _ _ ⟨w.heap.size,7,none⟩ (World.block_lt_of_cell? _ ⟨w.heap.size,0,none⟩ c0)).trans c7
   have H7:=hid h7;have H4:=hid ht4;clear hb4 ht4 h7;go_wp2_with fail;obtain⟨j0,j1,j2⟩:=vQ (u0:= .int .i64 x1.a) (u1:= .int .i64 x1.n) (u2:= .int .i64 x1.s) g0 g1 g2
   (try simp only[Exit.inBlock,Exit.then])
   refine bodyPost_ret (v:= .tuple #[.agg #[.int .i64 x1.a,.int .i64 x1.n,.int .i64 x1.s],v4]) (by first|(rw[results_cell_tmp rfl];go_simp;done)|(rw[aB rfl];go_simp;done)|(rw[aA rfl];go_simp;done)) rfl ?_;exact⟨v4,t4,rfl,aF.set3 H7.o t4 H4.o,by rw[hl4,<-HLL.o,HL1.o],((HB4.o.setCell (Nat.le_refl _) _).setCell (Nat.le_refl _) _).setCell (Nat.le_refl _) _⟩
theorem bBd (t:Tr):∀ (v:Value) (w:World) (x:E) (L:List E),t.toL=L++[x]->aF w v t->t.ok->Calls Tryz.prog 168 #[v] w (aYl w x L):=by
 induction t with
 |nil=>intro v w x L h;simp[Tr.toL]at h
 | node l y r _ ihr=>
  intro v w x L hL ht hok;obtain⟨b,vl,vr,rfl,hn,hl,hr⟩:=ht;have hk:=(Below.refl w.heap.size w).bMq (.cells #[.int .i64 0,.int .i64 0,.int .i64 0] 81);obtain⟨al,rfl⟩:=hl.form;have z0:=hn.a;have z1:=hn.n;have z2:=hn.s;have z3:=hn.l;have z4:=hn.r;have HOK:=hid hok;have HK:=hid hk
  cases r with
  | nil=>
   obtain rfl:vr= .pointer none:=hr;obtain⟨rfl,hy⟩:=List.append_inj' (show l.toL++[y]=L++[x] from hL) rfl;simp only[List.cons.injEq,and_true]at hy;subst hy;have HR:=hid hl;clear hn hl hok hk;go_enter Tryz.func168,Tryz.ntmps168;go_wp2_with fail
   go_region
   go_wp2_with fail
   (try simp only[Exit.inBlock,Exit.then])
   refine bodyPost_ret (v:= .tuple #[.agg #[.int .i64 y.a,.int .i64 y.n,.int .i64 y.s],.pointer al]) (by first|(rw[results_cell_tmp rfl];go_simp;done)|(rw[aB rfl];go_simp;done)|(rw[aA rfl];go_simp;done)) rfl ?_;have hB:Below w.heap.size w ((w.alloc (.cells #[.int .i64 y.a,.int .i64 y.n,.int .i64 y.s] 81)).drew):=by(repeat(first|exact Below.refl _ _|assumption|refine Below.bMt ?_ _|refine Below.bMq ?_ _|refine Below.setCell ?_ (by simp) _|refine Below.drew ?_))
   exact⟨_,l,rfl,aF.keep hB l HR.o,rfl,hB⟩
  | node ll lx lr=>
   obtain ⟨ar,rfl⟩:=hr.form;have hal:ar≠none:=by
    obtain⟨b2,_,_,hal,_⟩:=hr;cases hal;simp
   obtain ⟨p,rfl⟩:∃ p,ar=some p:=by
    cases ar with
    |none=>exact absurd rfl hal
    |some p=>exact⟨p,rfl⟩
   obtain ⟨L1,x1,hL1⟩:=fC (Tr.node ll lx lr).toL (by simp[Tr.toL]);obtain⟨hL3,hx⟩:=List.append_inj' (show(l.toL++y::L1)++[x1]=L++[x] by rw[<-hL];show _=l.toL++y::(Tr.node ll lx lr).toL;rw[hL1];simp) rfl;simp only[List.cons.injEq,and_true]at hx;subst hx;have HI:=hid (ihr (.pointer (some p)) (w.alloc (.cells #[.int .i64 0,.int .i64 0,.int .i64 0] 81)) x1 L1 hL1 (aF.keep hk _ hr) (Tr.bNa hok));have HR:=hid (aF.keep hk l hl);have HLL:=hid hL3;have HI1:=hid hL1;have hn0:=hid hn;clear ihr hn hr hl hok hk hal hL hL3 hL1;go_enter Tryz.func168,Tryz.ntmps168;go_wp2_with fail;refine HI.o.mono ?_;rintro e w1 ⟨v1,t1,rfl,ht1,hl1,hb1⟩;have hB1:=HK.o.on hb1;have c0:w1.cell? ⟨w.heap.size,0,none⟩=some (.int .i64 0):=hb1.keep (by simp);have c1:w1.cell? ⟨w.heap.size,1,none⟩=some (.int .i64 0):=hb1.keep (by simp);have c2:w1.cell? ⟨w.heap.size,2,none⟩=some (.int .i64 0):=hb1.keep (by simp);have f0:w1.frozen? ⟨w.heap.size,0,none⟩=false:=hb1.bMw (v:= .int .i64 0) (by simp) (by simp);have f1:w1.frozen? ⟨w.heap.size,1,none⟩=false:=hb1.bMw (v:= .int .i64 0) (by simp) (by simp);have f2:w1.frozen? ⟨w.heap.size,2,none⟩=false:=hb1.bMw (v:= .int .i64 0) (by simp) (by simp);have c7:w1.cell? ⟨w.heap.size,7,none⟩=none:=by
    rw[hb1.cell (by simp)];simp
   have z0:=hB1.keep z0;have z1:=hB1.keep z1;have z2:=hB1.keep z2;have z3:=hB1.keep z3;have hR1:=hid (aF.keep hb1 l HR.o);have hJ:=fG l t1 y (.pointer al) v1 ((w1.alloc (.cells #[.int .i64 x1.a,.int .i64 x1.n,.int .i64 x1.s] 81)).drew) (aF.keep (by(repeat(first|exact Below.refl _ _|assumption|refine Below.bMt ?_ _|refine Below.bMq ?_ _|refine Below.setCell ?_ (by simp) _|refine Below.drew ?_))) l hR1.o) (aF.keep (by(repeat(first|exact Below.refl _ _|assumption|refine Below.bMt ?_ _|refine Below.bMq ?_ _|refine Below.setCell ?_ (by simp) _|refine Below.drew ?_))) t1 ht1) (by
    refine Tr.ok_sub HOK.o ?_;have:=HI1.o;simp only[Tr.toL]at this ⊢;rw[hl1,this]
    exact List.Sublist.append (List.Sublist.refl _) (List.Sublist.cons_cons _ (List.sublist_append_left _ _)))
   have hbn:b≠w.heap.size:=Nat.ne_of_lt (World.block_lt_of_cell? w _ hn0.o.a);have hxn:w1.heap.size≠w.heap.size:=by
    have:=hb1.size;simp at this;omega
   have HBN:=hid hbn;have HXN:=hid hxn;have HJ:=hid hJ;have HB1:=hid hB1;have HT1:=hid ht1;have HL1:=hid hl1;clear hJ hb1 hB1 ht1 hl1 hbn hxn;go_wp2_with fail
   go_region_held3 (fun w'=>w'.cell? ⟨b,0,none⟩=some (.int .i64 y.a)/\w'.cell? ⟨b,1,none⟩=some (.int .i64 y.n)/\w'.cell? ⟨b,2,none⟩=some (.int .i64 y.s)/\w'.cell? ⟨b,3,none⟩=some (.pointer al)/\w'.cell? ⟨w1.heap.size,0,none⟩=some (.int .i64 x1.a)/\w'.cell? ⟨w1.heap.size,1,none⟩=some (.int .i64 x1.n)/\w'.cell? ⟨w1.heap.size,2,none⟩=some (.int .i64 x1.s))
    (first
     |(simp[z0,z1,z2,z3];done)
     |exact⟨hb4.keep (by simp[z0]),hb4.keep (by simp[z1]),hb4.keep (by simp[z2]),hb4.keep (by simp[z3]),hb4.keep (by simp),hb4.keep (by simp),hb4.keep (by simp)⟩
     |exact⟨(fA HBN.o HBN.o HBN.o).trans (hb4.keep (by simp[z0])),(fA HBN.o HBN.o HBN.o).trans (hb4.keep (by simp[z1])),(fA HBN.o HBN.o HBN.o).trans (hb4.keep (by simp[z2])),(fA HBN.o HBN.o HBN.o).trans (hb4.keep (by simp[z3])),(fA HXN.o HXN.o HXN.o).trans (hb4.keep (by simp)),(fA HXN.o HXN.o HXN.o).trans (hb4.keep (by simp)),(fA HXN.o HXN.o HXN.o).trans (hb4.keep (by simp))⟩)
    ((go_at_call 171;refine HJ.o.mono ?_;rintro e w4 ⟨v4,t4,rfl,ht4,hl4,hb4⟩;have g0:w4.cell? ⟨w.heap.size,0,none⟩=some (.int .i64 0):=hb4.keep (by simp[c0]);have g1:w4.cell? ⟨w.heap.size,1,none⟩=some (.int .i64 0):=hb4.keep (by simp[c1]);have g2:w4.cell? ⟨w.heap.size,2,none⟩=some (.int .i64 0):=hb4.keep (by simp[c2]);have k0:w4.frozen? ⟨w.heap.size,0,none⟩=false:=hb4.bMw (v:= .int .i64 0) (by simp[c0]) (by simp[c0,f0]);have k1:w4.frozen? ⟨w.heap.size,1,none⟩=false:=hb4.bMw (v:= .int .i64 0) (by simp[c1]) (by simp[c1,f1]);have k2:w4.frozen? ⟨w.heap.size,2,none⟩=false:=hb4.bMw (v:= .int .i64 0) (by simp[c2]) (by simp[c2,f2])))
   have HB4:=hid (((HB1.o.bMq (.cells #[.int .i64 x1.a,.int .i64 x1.n,.int .i64 x1.s] 81)).drew).on hb4);have h7:w4.cell? ⟨w.heap.size,7,none⟩=none:=by
    rw[hb4.cell (by have:=HB1.o.size;have:=World.block_lt_of_cell? _ _ c0;simp;omega)];simp;exact(World.cell?_alloc_lt _ _ ⟨w.heap.size,7,none⟩ (World.block_lt_of_cell? _ ⟨w.heap.size,0,none⟩ c0)).trans c7
   have H7:=hid h7;have H4:=hid ht4;clear hb4 ht4 h7;go_wp2_with fail;obtain⟨j0,j1,j2⟩:=vQ (u0:= .int .i64 x1.a) (u1:= .int .i64 x1.n) (u2:= .int .i64 x1.s) g0 g1 g2
   (try simp only[Exit.inBlock,Exit.then])
   refine bodyPost_ret (v:= .tuple #[.agg #[.int .i64 x1.a,.int .i64 x1.n,.int .i64 x1.s],v4]) (by first|(rw[results_cell_tmp rfl];go_simp;done)|(rw[aB rfl];go_simp;done)|(rw[aA rfl];go_simp;done)) rfl ?_;exact⟨v4,t4,rfl,aF.set3 H7.o t4 H4.o,by rw[hl4,<-HLL.o,HL1.o],((HB4.o.setCell (Nat.le_refl _) _).setCell (Nat.le_refl _) _).setCell (Nat.le_refl _) _⟩
end Go.Proofs.YtaiklhbakldfhaaGreat
