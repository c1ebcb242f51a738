/- The walk of the law ExtentUnique. Conditions: as each theorem says. -/
import Derived.Test.YtphfgbbbejloaaaGreatDoorGB
import Derived.Deep.CutRange
import Derived.Laws.CopyOwn
import Derived.Deep.RegionHeld3
set_option linter.unusedSimpArgs false
set_option linter.unusedVariables false
set_option maxRecDepth 100000
set_option maxHeartbeats 16000000
namespace Go.Proofs.YtphfgbbbejloaaaGreatDoor
open Go.Proofs.Tryz
open Go.RowKit
end Go.Proofs.YtphfgbbbejloaaaGreatDoor
namespace Go
open Go.RowKit
section
variable{P:Program}(w:Wd)
end
end Go
namespace Go.Proofs.YtphfgbbbejloaaaGreatDoor
open Go.Proofs.Tryz
open Go.RowKit
theorem dD{w w':Wd}(h:Below w w w')(row:Option Nat):w.grownBy w' row:=⟨h.os,h.tape,h.output,h.size,λk hk _=>h.block k hk⟩
end Go.Proofs.YtphfgbbbejloaaaGreatDoor
namespace Go
open Go.RowKit
section
variable{P:Program}(w:Wd)
theorem eH{ops:Array Oper}{o:Oper}{a:Act}{K:Act->Wd->Prop}{Q:Exit->Act->Wd->Prop}{F:Prop}(hgd:o.guard=none)(s x:Operand)(t:TypeId)
  (ho:o.op= .call {callee:= .builtin .append,args:= #[s,x],argTypes:= #[t,t]})
  (base:Nat) (e:TypeId) (i:TypeInfo) (z:Value) (size bytes:Nat) (ht:P.underlying t=some (.slice e)) (hi:P.info? e=some i) (hz:i.zero=some z)
  (hsize:i.size=size) (hby:i.bytes=bytes) (hzs:z.cells.size=size) (hsz:0<size)
  (v:Value) (n:Nat) (xs:List Value) (hs:a.eval s=v) (hown:w.ownsRow base e size v n xs)
  (ad:Addr) (m c:Nat) (news:List Value) (hx:a.eval x= .slice (some ad) m c) (hl:news.length=m*size) (hnews:∀j u,news[j]? =some u->w.cell? (ad.add j)=some u) (h1:∀u∈news,u.oneCell'=true)
  (hbytes:(n+m)*bytes<=140737488355328) (h63:n+m<=maxLen) (hbase:base<=w.heap.size)
  (h:∀v' w',w'.ownsRow base e size v' (n+m) (xs++news)->w.grownBy w' v.ownBlock->(v'.ownBlock=v.ownBlock∨v'.ownBlock=some w.heap.size)->K (a.put o.dst v') w'):
  if Region.wanted o (yielded ops a.tmps)=true then Oper.wp P o a w K Q else F:=by
 have hw:Region.wanted o (yielded ops a.tmps)=true:=by simp[Region.wanted,hgd]
 rw[Qf hw];obtain⟨v',w',hr,h2,h3,h4⟩:=Ad (P:=P) w base t o.type e i z size bytes ht hi hz hsize hby hzs hsz v n xs hown ad m c news hl hnews h1 hbytes h63 hbase;unfold Oper.wp execOp;simp only[ho,resolve,invoke,builtin,Sem.run_bind,Sem.run_pure,Result.andThen_ok,List.map_toArray,List.map_cons,List.map_nil,hs,hx,hr];exact h v' w' h2 h3 h4
end
end Go
namespace Go.Proofs.YtphfgbbbejloaaaGreatDoor
open Go.Proofs.Tryz
open Go.RowKit
theorem Wu(l:List E)(x:E)(a:OA)(c:Nat)(w:Wd)(hr:Rd w a l)(hw:wfL l)(hl:l.length<=100000)(hv:aH l=true)(hx:okB x=true):
  ep 193 #[.slice a l c,.agg #[x.a,x.n,x.s]] w λe w'=>
   ∃v m,e= .returned (.tuple #[v,m,oo])/\aG w' w v (bM l x)/\aG w' w m (inL l x.a x.n)/\Below w w w':=by
 obtain⟨i0,hi,hz0,hz1,hz2⟩:=info_parts kK;have hx':=(aB x).1 hx;have HV:=hD hv;have HX:=hD hx;have HO:=hD (aL hv);have HV1:=hD (Bw l x hx hv);have HV2:=hD (gL l x.a (x.a+x.n) hv);have HP:Hid (bM l x=_):=hD (show bM l x=joinL (aI l 0 x.a++([x]++aI l (x.a+x.n) 65536)) from rfl);have HI:=hD (wG l x.a x.n);have q1:=bV l 0 x.a;have q2:=bV l (x.a+x.n) 65536;have q3:=bV l x.a (x.a+x.n);have OK1:=hD (dO l 0 x.a HO.o);have OK3:=hD (dO l x.a (x.a+x.n) HO.o);generalize hL1:aI l 0 x.a=L1 at *;generalize hL2:aI l (x.a+x.n) 65536=L2 at *;generalize hL3:aI l x.a (x.a+x.n)=L3 at *;have E1:=hD hL1;have E2:=hD hL2;have E3:=hD hL3;obtain⟨f1,f2,f3,f4,f5⟩:=hx';clear hv hx hL1 hL2 hL3;go_enter func193,ntmps193;go_wp2_with fail;refine(mM l _ _ _ _ HV.o (hr.keep (bR.aIw _)) hw).m ?_;rintro e w1 ⟨rfl,hb1⟩;have y1:w1 (cw w 0)=x.a:=hb1.keep sM;have y2:w1 (cw w 1)=x.n:=hb1.keep sM;have y3:w1 (cw w 2)=x.s:=hb1.keep sM;have hB1:=((bQ w).aIw _).on hb1;clear hb1;go_wp2_with fail;refine(rT _ _ _ _ _ HX.o).m ?_;rintro e w2 ⟨rfl,hb2⟩;have y1:=hb2.keep y1;have y2:=hb2.keep y2;have y3:=hb2.keep y3;have hB2:=hB1.on hb2;clear hb2;go_upto_region 3 with fail
 go_cut [7] from 7 to 24 (λv wx=>aG wx w v (L1++[x])/\some w.heap.size≠v.ownBlock/\wx (cw w 0)=x.a/\wx (cw w 1)=x.n/\Below w w wx)
 case first=>
  have hlt2:w.heap.size<w2.heap.size:=Qj w2 _ y1
  go_region_held3 (λw'=>w' (cw w 0)=x.a/\w' (cw w 1)=x.n/\w' (cw w 2)=x.s/\Below w w w')
   (first
    |exact⟨y1,y2,y3,hB2.drew⟩
    |exact⟨hgrow1.cell hH.1 hne,hgrow1.cell hH.2.1 hne,hgrow1.cell hH.2.2.1 hne,hH.2.2.2.aJa hgrow1 hrow⟩
    |exact⟨hb3.keep hH.1,hb3.keep hH.2.1,hb3.keep hH.2.2.1,hH.2.2.2.on hb3⟩
    |(have hH:= ‹_/\_/\_/\Below w w _›;exact⟨(bR.aIw _).keep hH.1,(bR.aIw _).keep hH.2.1,(bR.aIw _).keep hH.2.2.1,hH.2.2.2.aIw _⟩))
   (first
    |(go_at_call 142;have hH:= ‹_/\_/\_/\Below w w _›;have hge:=hH.2.2.2.size;have hlt3:=Qj _ _ hH.1;refine(mO l 0 x.a _ _ _ (hr.keep hH.2.2.2) oM HO.o oM oM oM oM).m ?_;rintro e w3 ⟨v3,rfl,ho3,hb3⟩;rw[E1.o]at ho3;have hrow:=λk hk=>Nat.le_trans hge (ho3.lt k hk).1;have hne:some w.heap.size≠v3.ownBlock:=λe=>Nat.lt_irrefl _ (Yu hlt3 (ho3.lt _ e.symm).1))
    |(refine eH _ (by rfl) _ _ 52 (by rfl) w.heap.size 128 i0 (.agg #[.int .i64 0,.int .i64 0,.int .i64 0]) 3 24 underlying52 hi hz0 hz1 hz2 rfl dE _ _ _ (by rfl) (Qu (ho3.mono hge) _) ⟨w3.heap.size,0,none⟩ 1 1 (E.cells x) (by rfl) rfl (sI _ _ sM _ _) (dF _) oM (by simp only[maxLen];omega) (by have:=hb3.size;simp only[World.size_alloc];omega) ?_;intro v1 w4 hown1 hgrow1 hwhere1;have hH:= ‹_/\_/\_/\Below w w _›)
    |(refine eH _ (by rfl) _ _ 52 (by rfl) w.heap.size 128 i0 (.agg #[.int .i64 0,.int .i64 0,.int .i64 0]) 3 24 underlying52 hi hz0 hz1 hz2 rfl dE _ _ _ (by rfl) (ho3.mono hge) ⟨w2.heap.size,0,none⟩ 1 1 (E.cells x) (by rfl) rfl (λj u hj=>hb3.keep (sI w2.drew _ sM x 128 j u hj)) (dF _) oM (by simp only[maxLen];omega) (by have:=hb3.size;omega) ?_;intro v1 w4 hown1 hgrow1 hwhere1;have hH:= ‹_/\_/\_/\Below w w _›))
  all_goals
   have hH2:=hgrow1.cell hH.1 hne;have hH3:=hgrow1.cell hH.2.1 hne;have hHB:=hH.2.2.2.aJa hgrow1 hrow;have HW:=hD (aG.snoc hown1 rfl);have HN:Hid (some w.heap.size≠v1.ownBlock):=hD (by
    rcases hwhere1 with e|e
    ·rw[e];exact hne
    ·rw[e];intro h;have h3:=hb3.size;simp only[Option.some.injEq,World.size_alloc,World.size_drew]at h h3
     omega)
   clear hgrow1 hown1 hwhere1 hb3 ho3 hne;go_wp2_with fail;go_meet;exact⟨HW.o,HN.o,hH2,hH3,hHB⟩
 case rest=>
  obtain⟨ho,hn,y1,y2,hB3⟩:=hcut;have HN:=hD hn;have HO2:=hD ho;clear ho hn hB1 hB2;go_wp2_with fail;refine(mO l (x.a+x.n) 65536 _ _ _ (hr.keep hB3) oM HO.o oM oM oM oM).m ?_;rintro e w3 ⟨v3,rfl,ho3,hb3⟩;rw[E2.o]at ho3;have y1:=hb3.keep y1;have y2:=hb3.keep y2;have hB4:=hB3.on hb3;have HO3:=hD (HO2.o.keep hb3);obtain⟨a3,c3,rfl,_,hs3⟩:=ho3.source oM;have HS3:=hD hs3;have hsz3:=hB4.size;have hx1:=Qj _ _ y1;have hB0:=hB3.size;clear ho3 hb3 HO2 hs3
  go_wp2_with (at_builtin;refine dB _ rfl _ _ 52 rfl w.heap.size 128 i0 (.agg #[oo,oo,oo]) 3 24 underlying52 hi hz0 hz1 hz2 rfl dE _ _ _ rfl HO3.o _ _ _ _ rfl HS3.o (by first|omega|(simp only[List.length_nil,Qg,List.length_cons];omega)) (by first|(simp only[maxLen];omega)|(simp only[maxLen,List.length_nil,Qg,List.length_cons];omega)) (by first|omega|(simp only[World.size_alloc];omega)) ?_;intro v1 w1 hown1 hgrow1 hwhere1)
  have hB5:=hB4.aJa hgrow1 λj hj=>(HO3.o.lt j hj).1;have y1:=hgrow1.cell y1 HN.o;have y2:=hgrow1.cell y2 HN.o;obtain⟨a4,c4,rfl,hr4,_⟩:=(aG.append hown1 rfl).source pO;clear hown1 hgrow1 hwhere1 HO3 HS3 hsz3;rw[Yc]at hr4 ⊢;refine(xA (L1++([x]++L2)) _ _ _ hr4 (iM (aL HV1.o)) pO HV1.o).m ?_;rintro e w5 ⟨v5,rfl,ho5,hb5⟩;rw[<-HP.o]at ho5;have y1:=hb5.keep y1;have y2:=hb5.keep y2;have hB6:=hB5.on hb5;have HO5:=hD (ho5.mono hB5.size);clear ho5 hb5 hr4;go_wp2_with fail;refine(mO l x.a (x.a+x.n) _ _ _ (hr.keep hB6) oM HO.o oM oM oM oM).m ?_;rintro e w6 ⟨v6,rfl,ho6,hb6⟩;rw[E3.o]at ho6;have hB7:=hB6.on hb6;have HO6:=hD (HO5.o.keep hb6);obtain⟨a6,c6,rfl,hr6,_⟩:=ho6.source oM;clear ho6 hb6 HO5;go_wp2_with fail;refine(xA L3 _ _ _ hr6 (iM OK3.o) oM HV2.o).m ?_;rintro e w7 ⟨v7,rfl,ho7,hb7⟩;rw[<-HI.o]at ho7;have hB8:=hB7.on hb7;have HO7:=hD (HO6.o.keep hb7);have HO8:=hD (ho7.mono hB7.size);clear ho7 hb7 HO6 hr6;go_wp2_with fail;go_ret3;exact⟨_,_,rfl,HO7.o,HO8.o,hB8⟩
end Go.Proofs.YtphfgbbbejloaaaGreatDoor
