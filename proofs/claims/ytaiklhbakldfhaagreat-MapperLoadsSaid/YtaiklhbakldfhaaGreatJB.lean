/-
  The argument of MapperForged and MapperLoads opened; what Apply makes of any bytes.
  The walk of MapperLoads.
  Conditions: as each theorem says.
-/
import Derived.Test.YtaiklhbakldfhaaGreatMqQ
import Derived.Test.YtaiklhbakldfhaaGreatGB
import Derived.Test.YtaiklhbakldfhaaGreatJA
namespace Go.Proofs.YtaiklhbakldfhaaGreat
open Go.Lib (hid)
set_option linter.unusedSimpArgs false
set_option linter.unusedVariables false
set_option maxRecDepth 100000
set_option maxHeartbeats 16000000
open Go.ChangeShapes Go.WideShapes Go.ChangeAt Go.RowKit Go.Deep
theorem bAx {α:Type} {P:Nat->α->Prop} (n:Nat) (h:∀ i,i<n-> ∃x,P i x):∃ l:List α,l.length=n/\ ∀i x,l[i]? =some x->P i x:=by
 induction n with
 |zero=>exact⟨[],rfl,fun i x hx=>by simp at hx⟩
 | succ n ih=>
  obtain⟨l,h1,h2⟩:=ih fun i hi=>h i (by omega);obtain⟨x,hx⟩:=h n (by omega);refine⟨l++[x],by simp[h1],fun i y hy=> ?_⟩;rcases Nat.lt_trichotomy i l.length with q|q|q
  ·rw[List.getElem?_append_left q]at hy;exact h2 i y hy
  ·rw[List.getElem?_append_right (by omega),q,Nat.sub_self]at hy;simp at hy;subst hy;rw[q,h1];exact hx
  ·have:=(List.getElem?_eq_some_iff.1 hy).1;simp at this;omega
section
variable {H:Type} {enc:TypeId × Value->H} {w:World}
theorem aUw {a:Option Addr} {len cap fuel:Nat} {x:DataW H × List MemPlace} (h:DataW.trod enc Tryz.prog w 0 (fun _=>true) true fuel 23 [.slice a len cap]=some x):
  ∃l:List UInt8,l.length=len/\(len<=9223372036854775807/\len<=cap/\cap<=9223372036854775807)/\(len<=1000000000->RdY w a l):=by
 have hce:Tryz.prog.cellsOf 5=1:=by kernel_rfl
 rcases open_slice Tryz.underlying23 h with ⟨hcs,_⟩|⟨ad,len',cap',m,n,D,Pl,hcs,hb,hl,hm,hmm,hx,hi⟩
 ·simp at hcs;obtain⟨rfl,rfl,rfl⟩:=hcs;exact⟨[],rfl,⟨by omega,by omega,by omega⟩,fun _=>RdY.nil w⟩
 ·simp at hcs;obtain⟨rfl,rfl,rfl⟩:=hcs;simp only[if_true]at hmm;subst hmm;obtain⟨L,hlen,hp⟩:=bAx (P:=fun i (x:UInt8)=>w.cell? (ad.add i)=some (byV x)) len (fun i hlt=>by
   obtain⟨cs',hc,ht'⟩:=hi i (by omega);rw[hce]at hc;obtain⟨_,hcl,hat⟩:=World.cells?_some hc;obtain⟨v,k0,_,w0⟩:=DataW.trod_int Tryz.underlying5 ht';have h0:=hat 0 (by omega);rw[k0]at h0;have hb:=bounds_u8 w0;refine⟨v.toNat.toUInt8,?_⟩;rw[Go.Deep.add_add]at h0;have h0:w.cell? (ad.add i)=some (.int .u8 v):=by simpa using h0
   rw[h0];show some (Value.int .u8 v)=some (Value.int .u8 _);rw[jD (by omega)];congr 2
   omega)
  refine⟨L,hlen,by unfold maxLen at hm;exact⟨by omega,hl,by omega⟩,fun h9=>⟨by omega,?_⟩⟩;by_cases h0:L=[]
  ·exact .inl h0
  ·refine .inr ?_;obtain⟨b,off,spot⟩:=ad;have h00:0<L.length:=List.length_pos_iff.2 h0;have z0:=hp 0 _ (List.getElem?_eq_getElem h00);have hspot:spot=none:=by simpa [Addr.add]using World.cell?_spot z0
   subst hspot;refine⟨b,off,rfl,fun k x hk=> ?_⟩;have c0:=hp k x hk;have hadd:∀ j,(⟨b,off,none⟩:Addr).add j=⟨b,off+j,none⟩:=fun j=>by unfold Addr.add;split <;> simp_all
   rw[hadd]at c0;exact c0
theorem aPy {r:Reach} {b0:Nat} {v:Value} {d:DataW H} {p:List MemPlace} (hv:Value.okWide Tryz.prog w r b0 26 v) (h:DataW.Trod enc Tryz.prog w 0 (fun _=>true) true 26 v d p):
  ∃(l:List UInt8) (al:Option Addr) (cl:Nat) (x y:Int),v= .agg #[.slice al l.length cl,.int .u16 x,.int .u8 y]/\l.length<=9223372036854775807/\(l.length<=1000000000->RdY w al l)/\(0<=x/\x<=65535)/\(0<=y/\y<=255):=by
 obtain ⟨v0,v1,v2,y0,y1,y2,n,rfl,_,_,t0,t1,t2⟩:=Joins.open_agg3 Tryz.underlying26 (by kernel_rfl) (by kernel_rfl) hv h;obtain⟨n1,e1,_,w1⟩:=DataW.trod_int Tryz.underlying24 t1;obtain⟨n2,e2,_,w2⟩:=DataW.trod_int Tryz.underlying5 t2;simp at e1 e2;subst e1 e2;obtain⟨al,ln,cl,rfl⟩:∃ al ln cl,v0= .slice al ln cl:=by
  rcases open_slice Tryz.underlying23 t0 with ⟨hcs,_⟩|⟨a1,l1,c1,_,_,_,_,hcs,_⟩
  ·simp at hcs;exact⟨_,_,_,hcs⟩
  ·simp at hcs;exact⟨_,_,_,hcs⟩
 obtain⟨l,rfl,hl1,hl2⟩:=aUw t0;exact⟨l,al,cl,n1,n2,rfl,hl1.1,hl2,bounds_u16 w1,bounds_u8 w2⟩
end
theorem bCs {F:Fam} (hF:F.sound) (l:List UInt8):∃ G y,fO F l=(G,y)/\G.ok/\(∀v∈G.vs,v.l.length<=8000)/\0<=cB G/\(y≠0->G=F):=by
 have same:∀ e:Int,∃G y,((F,e):Fam × Int)=(G,y)/\G.ok/\(∀v∈G.vs,v.l.length<=8000)/\0<=cB G/\(y≠0->G=F):=fun e=>⟨F,e,rfl,hF.ok,hF.short8,hF.room,fun _=>rfl⟩;unfold fO
 split
 ·exact same 5
 rename_i h256
 split
 ·exact same 5
 rename_i k r hu
 have hsh:=lL hu
 split
 ·split
  ·exact same 5
  rename_i G e q hc
  obtain ⟨g1,g2⟩:=aYc (B:=600) hF.ok (fun v hv=>by
   have h1:=(hF.ok.vol v hv).short.2;have h2:=hF.small v hv
   omega) hc
  unfold aEg
  split
  ·exact same e
  split
  ·exact same 5
  split
  ·exact same 11
  rename_i h1 h2 h3
  exact⟨G,0,rfl,g1,fun v hv=>Nat.le_trans (g2 v hv) (by omega),by omega,fun h=>absurd rfl h⟩
 ·exact same 5
structure Fg (W:World) (B:Nat) (u0 u1 u2:Value):Prop where
 c0:W.cell? ⟨B,0,none⟩=some u0
 c1:W.cell? ⟨B,1,none⟩=some u1
 c2:W.cell? ⟨B,2,none⟩=some u2
theorem Fg.later {W W':World} {B:Nat} {u0 u1 u2:Value} (h:Fg W B u0 u1 u2) (hb:Below W.heap.size W W'):Fg W' B u0 u1 u2:=⟨hb.keep h.c0,hb.keep h.c1,hb.keep h.c2⟩
theorem Fg.new (V:World) (u0 u1 u2:Value) (t:TypeId):Fg (V.alloc (.cells #[u0,u1,u2] t)) V.heap.size u0 u1 u2:=⟨by simp,by simp,by simp⟩
theorem bHz (x:Int):0<=IntKind.u8.wrap x/\IntKind.u8.wrap x<=255:=by
 have:IntKind.u8.wrap x=x%256:=rfl;omega
theorem aPf {w:World} {g j:Nat} {l:List UInt8} {z:Int} (hl:l.length<=1000000000) (hat:∀ k x,l[k]? =some x->w.cell? ⟨g,k,none⟩=some (byV x)) (hj:j<l.length) (hz:0<=z/\z<=255):RdY (w.setCell ⟨g,j,none⟩ (.int .u8 z)) (some ⟨g,0,none⟩) (l.set j z.toNat.toUInt8):=by
 refine⟨by rw[List.length_set];exact hl,.inr ⟨g,0,rfl,fun k x hk=> ?_⟩⟩;rw[Nat.zero_add];rw[List.getElem?_set]at hk;by_cases e:j=k
 ·subst e;rw[if_pos rfl,if_pos hj]at hk;injection hk with hk;subst hk;rw[World.cell?_setCell_same _ _ _ (hat j _ (List.getElem?_eq_getElem hj))];show some (Value.int .u8 z)=some (Value.int .u8 _);rw[jD (by omega)];congr 2;omega
 ·rw[if_neg e]at hk;rw[World.cell?_setCell_other _ _ _ _ (by simp[e])];exact hat k x hk
open Go.RowKit Go.Maps
theorem RdY.takeN {w:World} {a:Option Addr} {l:List UInt8} (h:RdY w a l) {j:Nat} (hj:j<=l.length):(l.take j).length=j/\RdY w a (l.take j):=⟨by rw[List.length_take];omega,h.take j⟩
theorem rdP_three {w:World} {B:Nat} {x y z:NS} (h0:w.cell? ⟨B,0,none⟩=some x.v) (h1:w.cell? ⟨B,1,none⟩=some y.v) (h2:w.cell? ⟨B,2,none⟩=some z.v) {k:Nat} {u:NS} (hk:[x,y,z][k]? =some u):w.cell? ⟨B,k,none⟩=some u.v:=by
 match k with
 |0=>simp at hk;subst hk;exact h0
 |1=>simp at hk;subst hk;exact h1
 |2=>simp at hk;subst hk;exact h2
 |k+3=>simp at hk
theorem law_loads38 (i:Int) (S:List aW) (fl:List UInt8) (fx fy:Int) (a fa:Option Addr) (c fc:Nat) (w:World) (hi:0<=i/\i<=255) (hr:mQ w a S) (hfl:fl.length<=9223372036854775807) (hfr:fl.length<=1000000000->RdY w fa fl) (hfx:0<=fx/\fx<=65535) (hfy:0<=fy/\fy<=255):
  Calls Tryz.prog 3 #[.int .u8 i,.slice a S.length c,.agg #[.slice fa fl.length fc,.int .u16 fx,.int .u8 fy]] w fun e w'=>e= .returned (.bool true)/\Below w.heap.size w w':=by
 have hk0:=(Below.refl w.heap.size w).bMq (.cells #[.slice fa fl.length fc,.int .u16 fx,.int .u8 fy] 26);have HK0:=hid hk0;replace hr:=hr.keep hk0;have HX:=hid (Fg.new w (.slice fa fl.length fc) (.int .u16 fx) (.int .u8 fy) 26);clear hk0;obtain⟨n,rfl⟩:=Int.eq_ofNat_of_zero_le hi.1;have hn:n<=255:=by omega
 have hlen:=hr.1;by_cases h25:20<S.length
 ·go_enter Tryz.func3,Tryz.ntmps3;go_wp2_with fail;refine(eU _).mono ?_;rintro e w1 ⟨rfl,hb1⟩;go_wp2_with fail;go_ret;exact⟨rfl,HK0.o.on hb1⟩
 by_cases h300:300<fl.length
 ·go_enter Tryz.func3,Tryz.ntmps3;go_wp2_with fail;refine(eU _).mono ?_;rintro e w1 ⟨rfl,hb1⟩;have x0:=(HX.o.later hb1).c0;go_wp2_with fail;go_ret;exact⟨rfl,HK0.o.on hb1⟩
 have hS20:S.length<=1000:=by omega
 have HFR:=hid ((hfr (by omega)).keep HK0.o);clear hfr;go_enter Tryz.func3,Tryz.ntmps3;go_wp2_with fail;refine(eU _).mono ?_;rintro e w1 ⟨rfl,hb1⟩;have x0:=(HX.o.later hb1).c0;go_wp2_with fail;clear x0;refine(qZ n S a c _ hn hS20 (hr.keep hb1)).mono ?_;rintro e w2 ⟨M,F,gv,ns,na,nc,rfl,hsd,hon,hsm,hFN,hmb,hfr,hnr,hns,hfw,hch,hMw,hb2⟩;obtain⟨ra,rn,rc,rfl⟩:=hfr.form;have hk2:=(Below.refl w2.heap.size w2).bMq (.cells #[.int .i64 F.N,.slice ra rn rc] 31);have hm50:F.N<50:=by rw[hFN];omega
 have hmod:((n:Int)%50)=(F.N:Int):=by rw[hFN];omega
 have HM:=hid hmod;have HSD:=hid hsd;obtain⟨P,hP⟩:∃ P,jG F=P:=⟨_,rfl⟩;have HP:=hid hP;have HPL:=hid (state_fits hsd hon hm50);have HLO:=hid (fun(a:Option Addr) (c:Nat) W h=>mload_state hsd hon hm50 hP a c W h);have HST:=hid (fun M W (h:dU W M F)=>mstate_cap M F W hsd.ok hsd.short h);rw[hP]at HST HPL;replace HFR:=hid (((HFR.o.keep hb1).keep hb2).keep hk2);replace HX:=hid (((HX.o.later hb1).later hb2).later hk2);have HMB:=hid (hmb.later hk2);have HT:=hid (Bx.new w2 _ rfl (.int .i64 F.N) (.slice ra rn rc) 31);have HRF:=hid (hfr.keep hk2);have HBW:=hid (((HK0.o.on hb1).on hb2).on hk2);clear hk2 hsd hon hsm hFN hmb hfr hnr hns hfw hch hMw hb1 hb2 HK0 hr hmod hP;go_wp2_with fail;generalize w2.alloc (.cells #[.int .i64 F.N,.slice ra rn rc] 31)=Wb at *;generalize w2.heap.size=T at *;refine(HST.o M _ HMB.o).mono ?_;rintro e wv ⟨sa,sc,rfl,hrd,hsc,hb⟩;have HRS:=hid hrd;have HBB:=hid hb;have HSC:=hid hsc;clear hrd hb hsc;have HO:=hid (jC.empty wv wv.heap.size (Nat.le_refl _));have hka:=(Below.refl wv.heap.size wv).bMq (.cells #[] 5);have HKA:=hid hka;have HSS:=hid ((HRS.o.keep hka)).source;have hPl:=HPL.o.2;obtain⟨i0,hi0,hz0,hz1,hz2⟩:=info_parts aQz;clear hka
 go_wp2_with (at_builtin;refine dB _ rfl _ _ 23 rfl wv.heap.size 5 i0 (.int .u8 0) 1 1 Tryz.underlying23 hi0 hz0 hz1 hz2 rfl (by decide) _ _ _ rfl HO.o _ _ _ _ rfl HSS.o (by simp;omega) (by simp[maxLen];omega) (by simp) ?_;intro v1 w3 hown1 hgrow1 hwhere1)
 have hb3:=HKA.o.bMu hgrow1 fun j hj=>(HO.o.lt j hj).1;have ho1:jC w3 wv.heap.size v1 P:=jC.append (l:=[]) hown1 (by simp);obtain⟨ba,bc,rfl,hbc,hbm,hrd1⟩:=ho1.rd (by omega);replace HBB:=hid (HBB.o.on hb3);replace HRS:=hid (HRS.o.keep hb3);have HRD:=hid hrd1;clear hb3 ho1 hown1 hgrow1 hwhere1 hrd1 HKA HO HSS hPl;go_wp2_with fail;rw[HM.o];refine(HLO.o _ _ _ HRD.o).mono ?_;rintro e w4 ⟨X,rfl,hmx,hX,hb⟩;replace HBB:=hid (HBB.o.on hb);replace HRS:=hid (HRS.o.keep hb);have HMX:=hid hmx;clear hmx hX hb HRD;go_upto_region 10 with fail;have HTd:=hid ((HT.o.later HBB.o).later (Below.refl _ _).drew);have HRd:=hid ((HRF.o.keep HBB.o).keep (Below.refl _ _).drew);have HMd:=hid (HMX.o.later (Below.refl _ _).drew);have HYd:=hid (HRS.o.keep (Below.refl _ _).drew);have HBd:=hid (HBB.o.drew);refine wp_region_held_drew (S:=(fun w'=>w'.cell? ⟨T,0,none⟩=some (.int .i64 F.N)/\w'.cell? ⟨T,1,none⟩=some (.slice ra rn rc)/\(convert 23 9 (.slice sa P.length sc)).run Tryz.prog w'= .ok (nmV P) w')) (by kernel_rfl) ⟨HTd.o.c0,HTd.o.c1,HYd.o.bMz⟩ (fun hHeld=> ?_);refine wpAnyH_take (i:=0) (v:= ?_) rfl (by kernel_rfl) (by kernel_rfl) (by kernel_rfl) (fun _ _ _ h=>h) (Or.inl ⟨by rfl,?_⟩) (by assumption) ?_
 rotate_left
 ·(intro w hSw;(try dsimp only at hSw);go_simp;try with_reducible rfl)
 try simp only[Act.put,List.setIfInBounds_toArray,List.set_cons_zero,List.set_cons_succ]
 refine wpAnyH_take (i:=1) (v:=(.bool false)) rfl (by kernel_rfl) (by kernel_rfl) (by kernel_rfl) (fun _ _ _ h=>h) (Or.inl ⟨by rfl,?_⟩) (by assumption) ?_
 ·(intro w hSw;(try dsimp only at hSw);go_simp)
 try simp only[Act.put,List.getElem_toArray,List.getElem_cons_succ,List.getElem_cons_zero,List.setIfInBounds_toArray,List.set_cons_zero,List.set_cons_succ]
 refine wpAnyH_take (i:=2) (v:= ?_) rfl (by kernel_rfl) (by kernel_rfl) (by kernel_rfl) (fun _ _ _ h=>h) (Or.inl ⟨by rfl,?_⟩) (by assumption) ?_
 rotate_left
 ·(intro w hSw;(try dsimp only at hSw);go_simp;try with_reducible rfl)
 try simp only[Act.put,List.setIfInBounds_toArray,List.set_cons_zero,List.set_cons_succ]
 refine wpAnyH_take (i:=3) (v:= ?_) rfl (by kernel_rfl) (by kernel_rfl) (by kernel_rfl) (fun _ _ _ h=>h) (Or.inl ⟨by rfl,?_⟩) (by assumption) ?_
 rotate_left
 ·(intro w hSw;(try dsimp only at hSw);go_simp;try with_reducible rfl)
 try simp only[Act.put,List.setIfInBounds_toArray,List.set_cons_zero,List.set_cons_succ]
 refine wpAnyH_take (i:=4) (v:=(.bool false)) rfl (by kernel_rfl) (by kernel_rfl) (by kernel_rfl) (fun _ _ _ h=>h) (Or.inl ⟨by rfl,?_⟩) (by assumption) ?_
 ·(intro w hSw;(try dsimp only at hSw);go_simp)
 try simp only[Act.put,List.getElem_toArray,List.getElem_cons_succ,List.getElem_cons_zero,List.setIfInBounds_toArray,List.set_cons_zero,List.set_cons_succ]
 refine wpAnyH_take (i:=5) (v:= ?_) rfl (by kernel_rfl) (by kernel_rfl) (by kernel_rfl) (fun _ _ _ h=>h) (Or.inl ⟨by rfl,?_⟩) (by assumption) ?_
 rotate_left
 ·(intro w hSw;(try dsimp only at hSw);go_simp;try with_reducible rfl)
 try simp only[Act.put,List.setIfInBounds_toArray,List.set_cons_zero,List.set_cons_succ]
 refine wpAnyH_take (i:=6) (v:= ?_) rfl (by kernel_rfl) (by kernel_rfl) (by kernel_rfl) (fun _ _ _ h=>h) (Or.inl ⟨by rfl,?_⟩) (by assumption) ?_
 rotate_left
 ·(intro w hSw;(try dsimp only at hSw);go_simp;try with_reducible rfl)
 try simp only[Act.put,List.setIfInBounds_toArray,List.set_cons_zero,List.set_cons_succ]
 refine wpAnyH_take (i:=7) (v:= ?_) rfl (by kernel_rfl) (by kernel_rfl) (by kernel_rfl) (fun _ _ _ h=>h) (Or.inl ⟨by rfl,?_⟩) (by assumption) ?_
 rotate_left
 ·(intro w hSw;(try dsimp only at hSw);go_simp;try with_reducible rfl)
 try simp only[Act.put,List.setIfInBounds_toArray,List.set_cons_zero,List.set_cons_succ]
 refine wpAnyH_take (i:=8) (v:= ?_) rfl (by kernel_rfl) (by kernel_rfl) (by kernel_rfl) (fun _ _ _ h=>h) (Or.inl ⟨by rfl,?_⟩) (by assumption) ?_
 rotate_left
 ·(intro w hSw;(try dsimp only at hSw);go_simp;try with_reducible rfl)
 try simp only[Act.put,List.setIfInBounds_toArray,List.set_cons_zero,List.set_cons_succ]
 refine wpAnyH_ready (rs:=[9]) (by kernel_rfl) (by simp) ?_;refine AllReadyH.cons rfl (fun K hK=> ?_) AllReadyH.nil;go_simp;refine(mX X F _ _ HSD.o.ok HSD.o.short HMd.o HRd.o).mono ?_;rintro e w5 ⟨rfl,hb⟩;replace HBd:=hid (HBd.o.on hb);have HTe:=hid (HTd.o.later hb);have HYe:=hid (HYd.o.keep hb);replace HMd:=hid (HMd.o.later hb);clear hb;refine hK.out _ _ ⟨HTe.o.c0,HTe.o.c1,HYe.o.bMz⟩ (fun hHeld=> ?_);clear hK K
 try simp only[Act.put,List.setIfInBounds_toArray,List.set_cons_zero,List.set_cons_succ]
 refine wpAnyH_take (i:=10) (v:=(.bool false)) rfl (by kernel_rfl) (by kernel_rfl) (by kernel_rfl) (fun _ _ _ h=>h) (Or.inl ⟨by rfl,?_⟩) (by assumption) ?_
 ·(intro w hSw;(try dsimp only at hSw);go_simp)
 try simp only[Act.put,List.getElem_toArray,List.getElem_cons_succ,List.getElem_cons_zero,List.setIfInBounds_toArray,List.set_cons_zero,List.set_cons_succ]
 refine wpAnyH_take (i:=11) (v:= ?_) rfl (by kernel_rfl) (by kernel_rfl) (by kernel_rfl) (fun _ _ _ h=>h) (Or.inl ⟨by rfl,?_⟩) (by assumption) ?_
 rotate_left
 ·(intro w hSw;(try dsimp only at hSw);go_simp;try with_reducible rfl)
 try simp only[Act.put,List.setIfInBounds_toArray,List.set_cons_zero,List.set_cons_succ]
 refine wpAnyH_take (i:=12) (v:= ?_) rfl (by kernel_rfl) (by kernel_rfl) (by kernel_rfl) (fun _ _ _ h=>h) (Or.inl ⟨by rfl,?_⟩) (by assumption) ?_
 rotate_left
 ·(intro w hSw;(try dsimp only at hSw);go_simp;try with_reducible rfl)
 try simp only[Act.put,List.setIfInBounds_toArray,List.set_cons_zero,List.set_cons_succ]
 refine wpAnyH_take (i:=13) (v:= ?_) rfl (by kernel_rfl) (by kernel_rfl) (by kernel_rfl) (fun _ _ _ h=>h) (Or.inl ⟨by rfl,?_⟩) (by assumption) ?_
 rotate_left
 ·(intro w hSw;(try dsimp only at hSw);go_simp;try with_reducible rfl)
 try simp only[Act.put,List.setIfInBounds_toArray,List.set_cons_zero,List.set_cons_succ]
 refine wpAnyH_take (i:=16) (v:= ?_) rfl (by kernel_rfl) (by kernel_rfl) (by kernel_rfl) (fun _ _ _ h=>h) (Or.inl ⟨by rfl,?_⟩) (by assumption) ?_
 rotate_left
 ·(intro w hSw;(try dsimp only at hSw);go_simp;try with_reducible rfl)
 try simp only[Act.put,List.setIfInBounds_toArray,List.set_cons_zero,List.set_cons_succ]
 refine wpAnyH_take (i:=17) (v:= ?_) rfl (by kernel_rfl) (by kernel_rfl) (by kernel_rfl) (fun _ _ _ h=>h) (Or.inl ⟨by rfl,?_⟩) (by assumption) ?_
 rotate_left
 ·(intro w hSw;(try dsimp only at hSw);go_simp;try with_reducible rfl)
 try simp only[Act.put,List.setIfInBounds_toArray,List.set_cons_zero,List.set_cons_succ]
 refine wpAnyH_ready (rs:=[14]) (by kernel_rfl) (by simp) ?_;refine AllReadyH.cons rfl (fun K hK=> ?_) AllReadyH.nil;go_simp;refine(HST.o X _ HMd.o).mono ?_;rintro e w6 ⟨xa,xc,rfl,hrd1,_,hb⟩;have HBB6:=hid (HBd.o.on hb);have HT6:=hid (HTe.o.later hb);have HRS6:=hid (HYe.o.keep hb);have hcv1:=hrd1.bMz (c:=xc);clear hrd1 hb HMd HBd HTe HYe HMX HRS HBB HRF HSD HYd HTd HRd HMB HLO HST;refine hK.out _ _ ⟨HT6.o.c0,HT6.o.c1,HRS6.o.bMz⟩ (fun hHeld=> ?_);clear hK K
 try simp only[Act.put,List.setIfInBounds_toArray,List.set_cons_zero,List.set_cons_succ]
 refine wpAnyH_ready (rs:=[15]) (by kernel_rfl) (by simp) ?_;refine AllReadyH.cons rfl (fun K hK=> ?_) AllReadyH.nil;go_simp;go_simp;refine hK.out _ _ ⟨HT6.o.c0,HT6.o.c1,HRS6.o.bMz⟩ (fun hHeld=> ?_);clear hK K
 try simp only[Act.put,List.setIfInBounds_toArray,List.set_cons_zero,List.set_cons_succ]
 clear hcv1;refine wpAnyH_take (i:=18) (v:=(.bool false)) rfl (by kernel_rfl) (by kernel_rfl) (by kernel_rfl) (fun _ _ _ h=>h) (Or.inl ⟨by rfl,?_⟩) (by assumption) ?_
 ·(intro w hSw;(try dsimp only at hSw);go_simp)
 try simp only[Act.put,List.getElem_toArray,List.getElem_cons_succ,List.getElem_cons_zero,List.setIfInBounds_toArray,List.set_cons_zero,List.set_cons_succ]
 refine wpAnyH_take (i:=19) (v:= ?_) rfl (by kernel_rfl) (by kernel_rfl) (by kernel_rfl) (fun _ _ _ h=>h) (Or.inl ⟨by rfl,?_⟩) (by assumption) ?_
 rotate_left
 ·(intro w hSw;(try dsimp only at hSw);go_simp;try with_reducible rfl)
 try simp only[Act.put,List.setIfInBounds_toArray,List.set_cons_zero,List.set_cons_succ]
 refine wpAnyH_done (by kernel_rfl) ?_ _;clear HT HT6;have HRS:=hid HRS6.o;have HO:=hid (jC.empty w6 w6.heap.size (Nat.le_refl _));have hka:=(Below.refl w6.heap.size w6).bMq (.cells #[] 5);have HKA:=hid hka;have HSS:=hid ((HRS.o.keep hka)).source;have hPl:=HPL.o.2;obtain⟨i0,hi0,hz0,hz1,hz2⟩:=info_parts aQz;clear hka
 go_upto_region 13 with (at_builtin;refine dB _ rfl _ _ 23 rfl w6.heap.size 5 i0 (.int .u8 0) 1 1 Tryz.underlying23 hi0 hz0 hz1 hz2 rfl (by decide) _ _ _ rfl HO.o _ _ _ _ rfl HSS.o (by simp;omega) (by simp[maxLen];omega) (by simp) ?_;intro v1 w3 hown1 hgrow1 hwhere1)
 have hb3:=HKA.o.bMu hgrow1 fun j hj=>(HO.o.lt j hj).1;have ho1:jC w3 w6.heap.size v1 P:=jC.append (l:=[]) hown1 (by simp);have hN1:0<P.length:=by have:=HPL.o.1;omega
 obtain ⟨g,gc,rfl,hg1,hg2,hgc,hgm,hgat,hgf⟩:∃ g c,v1= .slice (some ⟨g,0,none⟩) P.length c/\w6.heap.size<=g/\g<w3.heap.size/\P.length<=c/\c<=maxLen/\(∀k x,P[k]? =some x->w3.cell? ⟨g,k,none⟩=some (byV x))/\ ∀i,w3.frozen? ⟨g,i,none⟩=false:=
  ho1.form.resolve_left fun q=>by rw[q.2]at hN1;simp at hN1
 have HB3:=hid hb3;have HGA:=hid hgat;have HCL:=hid hgm;have hN2:(0:Int)<P.length:=by omega
 obtain⟨j,hj⟩:∃ j:Nat,fx%(P.length:Int)=j:=⟨(fx%(P.length:Int)).toNat,by have:=Int.emod_nonneg fx (show(P.length:Int)≠0 by omega);omega⟩;have hjl:j<P.length:=by have:=Int.emod_lt_of_pos fx hN2;omega
 obtain⟨u,hu⟩:∃ u:Nat,(P[j]).toNat=u:=⟨_,rfl⟩;have hu2:u<=255:=by have:=(P[j]).toNat_lt;omega
 have hga:=HGA.o j _ (List.getElem?_eq_getElem hjl);have hgf:=hgf j;simp only[byV]at hga;rw[hu]at hga;have x1:=(HX.o.later (HBB6.o.on hb3)).c1;have x2:=(HX.o.later (HBB6.o.on hb3)).c2;have hw1:IntKind.i64.wrap fx=fx:=IntWalk.i64_in _ (by omega);have hmod:fx.tmod (P.length:Int)=j:=by rw[Int.tmod_eq_emod_of_nonneg hfx.1];exact hj
 have hjj:(0:Int)<=j/\(j:Int)<P.length:=by omega
 have hPn:¬ P=[]:=by intro e;rw[e]at hN1;simp at hN1
 obtain⟨d,hd⟩:∃ d:Int,1+fy%255=d:=⟨_,rfl⟩;have hd0:0<=d/\d<=255:=by omega
 have hd2:d%256=d:=by omega
 obtain⟨z,hz⟩:∃ z:Int,((u:Int)+d)%256=z:=⟨_,rfl⟩;have hz0:0<=z/\z<=255:=by omega
 clear hb3 hgat hgm ho1 hown1 hgrow1 hwhere1 HKA HO HSS hu hPl;go_upto_region 14 with fail;obtain⟨zz,hzz⟩:∃ x,IntKind.u8.wrap ((u:Int)+IntKind.u8.wrap (1+fy.tmod 255))=x:=⟨_,rfl⟩;have HZZ:=hid hzz;have HZB:Hid (0<=zz/\zz<=255):=hid (by rw[<-hzz];exact bHz _);clear hzz
 go_cut [92] from 78 to 92 (fun v wx=>v= .pointer (some ⟨g,j,none⟩)/\wx=(w3.setCell ⟨g,j,none⟩ (.int .u8 zz)).drew)
 case first=>
  go_region_law (fail)
  all_goals
   rw[HZZ.o];go_wp2_with fail;go_meet;exact⟨rfl,rfl⟩
 case rest=>
  obtain⟨rfl,rfl⟩:=hcut;clear x1 x2 hmod hga hgf;have hz0:=HZB.o;have hdr:=(Below.refl (w3.setCell ⟨g,j,none⟩ (.int .u8 zz)).heap.size (w3.setCell ⟨g,j,none⟩ (.int .u8 zz))).drew;have HR5:=hid ((aPf (by have:=HPL.o.2;omega) HGA.o hjl hz0).keep hdr);have HB5:Hid (Below w6.heap.size w6 (w3.setCell ⟨g,j,none⟩ (.int .u8 zz)).drew):=hid ((HB3.o.bMu (bV w3 ⟨g,j,none⟩ (.int .u8 zz)) fun q e=>by injection e with e;simp only at e;omega).on hdr);generalize (w3.setCell ⟨g,j,none⟩ (.int .u8 zz)).drew=w5 at *;have HBB5:=hid (HBB6.o.on HB5.o);have HRS5:=hid (HRS.o.keep HB5.o);have HFR5:=hid (HFR.o.keep HBB5.o);have x0:=(HX.o.later HBB5.o).c0;have x1:=(HX.o.later HBB5.o).c1;obtain⟨sb,so,rfl,_⟩:=HRS5.o.at hN1;obtain⟨j2,hj2⟩:∃ j:Nat,fx%((P.length:Int)+1)=j:=⟨(fx%((P.length:Int)+1)).toNat,by have:=Int.emod_nonneg fx (show((P.length:Int)+1)≠0 by omega);omega⟩;have hj3:j2<=P.length:=by have:=Int.emod_lt_of_pos fx (show(0:Int)<(P.length:Int)+1 by omega);omega
  have hw2:IntKind.i64.wrap ((P.length:Int)+1)=(P.length:Int)+1:=IntWalk.i64_in _ (by have:=HPL.o.2;omega);have hmod:fx.tmod ((P.length:Int)+1)=j2:=by rw[Int.tmod_eq_emod_of_nonneg hfx.1];exact hj2
  have hj4:(0:Int)<=j2/\(j2:Int)<=sc:=by have:=HSC.o;omega
  clear hdr;go_upto_region 15 with fail;have hPl2:(P.length:Int)+1<=20000:=by have:=HPL.o.2;omega
  have hPl3:¬ ((P.length:Int)+1=0):=by omega
  refine iM 12 (by kernel_rfl) (by kernel_rfl) ?_;simp only[List.take_succ_cons,List.take_zero,List.drop_succ_cons,List.drop_zero]
  repeat(go_big_quiet_step (fail))
  refine wpQuiet_nil ?_;intro _ hw';obtain⟨nq,hw''⟩:=hw';subst hw'';have hbn:=World.bMr w5 nq;generalize w5.next nq=w6 at *;obtain⟨b',hb'⟩:∃ b',P.set j zz.toNat.toUInt8=b':=⟨_,rfl⟩;rw[hb']at HR5;have hbl:b'.length=P.length:=by rw[<-hb',List.length_set]
  have hPL:=HPL.o.2;have htk:(P.take j2).length=j2:=by rw[List.length_take];omega
  obtain⟨R0,hR0⟩:∃ x:NS,x=⟨some ⟨g,0,none⟩,gc,b'⟩:=⟨_,rfl⟩;obtain⟨R1,hR1⟩:∃ x:NS,x=⟨fa,fc,fl⟩:=⟨_,rfl⟩;obtain⟨R2,hR2⟩:∃ x:NS,x=⟨some ⟨sb,so,none⟩,sc,P.take j2⟩:=⟨_,rfl⟩;have v0:Value.slice (some ⟨g,0,none⟩) P.length gc=R0.v:=by rw[hR0];unfold NS.v;simp only;rw[hbl]
  have v1:Value.slice fa fl.length fc=R1.v:=by rw[hR1]
  have v2:Value.slice (some ⟨sb,so,none⟩) j2 sc=R2.v:=by rw[hR2];unfold NS.v;simp only;rw[htk]
  have hka:=(Below.refl w6.heap.size w6).bMq (.cells #[.slice (some ⟨g,0,none⟩) P.length gc,.slice fa fl.length fc,.slice (some ⟨sb,so,none⟩) j2 sc] 23);have hk6:=hbn.on hka;have HRW:Hid (∀(k:Nat) (u:NS),[R0,R1,R2][k]? =some u->RdY (w6.alloc (.cells #[.slice (some ⟨g,0,none⟩) P.length gc,.slice fa fl.length fc,.slice (some ⟨sb,so,none⟩) j2 sc] 23)) u.a u.N/\u.N.length<=13000):=hid fun k u hk=>by
   match k with
   |0=>simp at hk;subst hk;rw[hR0];exact⟨HR5.o.keep hk6,by simp only;omega⟩
   |1=>simp at hk;subst hk;rw[hR1];exact⟨HFR5.o.keep hk6,by simp only;omega⟩
   |2=>simp at hk;subst hk;rw[hR2];exact⟨(HRS5.o.keep hk6).take j2,by simp only;omega⟩
   |k+3=>simp at hk
  have HCW:Hid (∀(k:Nat) (u:NS),[R0,R1,R2][k]? =some u->(w6.alloc (.cells #[.slice (some ⟨g,0,none⟩) P.length gc,.slice fa fl.length fc,.slice (some ⟨sb,so,none⟩) j2 sc] 23)).cell? ⟨w6.heap.size,k,none⟩=some u.v):=hid fun k u hk=>
   rdP_three (x:=R0) (y:=R1) (z:=R2) (by rw[World.cell?_alloc_new,<-v0];rfl) (by rw[World.cell?_alloc_new,<-v1];rfl) (by rw[World.cell?_alloc_new,<-v2];rfl) hk
  have HB7:=hid (HBB5.o.on hk6);have HBW7:=hid (HBW.o.on HB7.o);clear hbn hka hk6 hb' hbl htk v0 v1 v2 hR0 hR1 hR2 HR5 HFR5 HRS5 HBB5 HB5 HB3 HBB6 HRS HFR HSC x0 x1 hPL;go_wp2_with fail;generalize w6.alloc (.cells #[.slice (some ⟨g,0,none⟩) P.length gc,.slice fa fl.length fc,.slice (some ⟨sb,so,none⟩) j2 sc] 23)=w7 at *;generalize w6.heap.size=LB at *;go_loopw [16] (fun x wr=>∃ k:Nat,k<=3/\x= .int .i64 k/\Below w7.heap.size w7 wr) (fun x _=>3-(intOf x).toNat)
  case atStart=>exact⟨0,by omega,rfl,Below.refl _ _⟩
  case round=>
   obtain⟨k,hk,rfl,hBk⟩:=hrel;by_cases hlt:k<3
   ·obtain ⟨u,hu⟩:∃ u,[R0,R1,R2][k]? =some u:=⟨_,List.getElem?_eq_getElem (by simpa using hlt)⟩;have h1:=hBk.keep (HCW.o k u hu);obtain⟨hru,hrl⟩:=HRW.o k u hu;have HRU:=hid hru;have HCU:=hid (HCW.o k u hu);have HLQ:=hid (mload_any F.N u.N u.a u.c wr (by omega) hrl (hru.keep hBk));have hk0:(0:Int)<=k/\(k:Int)<3:=by omega
    unfold NS.v at h1 HCU;have HBk:=hid hBk;clear hu hru hrl hBk;go_wp2_with fail;rw[HM.o];refine HLQ.o.mono ?_;rintro e w8 hq;clear HLQ h1;rcases hq with ⟨X2,G2,rfl,_,hgo,_,hgs,hgr,hgp,hmb,_,hb⟩|⟨rfl,hb,_⟩
    ·have HST2:=hid (fun W h=>qF X2 G2 W hgo hgs h);have HRM2:=hid (fun fv W h=>lX G2 (cB G2) fv W hgo hgs h rfl);rw[hgp]at HST2;have HB8:=hid (HBk.o.on hb);have HMB2:=hid hmb;have hrm:¬ cB G2<0:=by omega
     have hrm2:decide (cB G2<0)=false:=by simpa using hrm
     generalize cB G2=rm at *;clear hgo hgs hgr hgp hmb hb;go_upto_region 23 with fail;have HB9:=hid HB8.o.drew;have HM9:=hid (HMB2.o.later (Below.refl _ _).drew);have hcu:=HB9.o.keep HCU.o;have hcv:=(HRU.o.keep HB9.o).bMz (c:=u.c);refine wp_region_held_drew (S:=(fun w'=>w'.cell? ⟨LB,k,none⟩=some (.slice u.a u.N.length u.c)/\(convert 23 9 (.slice u.a u.N.length u.c)).run Tryz.prog w'= .ok (nmV u.N) w')) (by kernel_rfl) ⟨hcu,hcv⟩ (fun hHeld=> ?_);refine wpAnyH_take (i:=0) (v:= ?_) rfl (by kernel_rfl) (by kernel_rfl) (by kernel_rfl) (fun _ _ _ h=>h) (Or.inl ⟨by rfl,?_⟩) (by assumption) ?_
     rotate_left
     ·(intro w hSw;(try dsimp only at hSw);go_simp;try with_reducible rfl)
     try simp only[Act.put,List.setIfInBounds_toArray,List.set_cons_zero,List.set_cons_succ]
     refine wpAnyH_take (i:=1) (v:=(.bool false)) rfl (by kernel_rfl) (by kernel_rfl) (by kernel_rfl) (fun _ _ _ h=>h) (Or.inl ⟨by rfl,?_⟩) (by assumption) ?_
     ·(intro w hSw;(try dsimp only at hSw);go_simp)
     try simp only[Act.put,List.getElem_toArray,List.getElem_cons_succ,List.getElem_cons_zero,List.setIfInBounds_toArray,List.set_cons_zero,List.set_cons_succ]
     refine wpAnyH_take (i:=2) (v:= ?_) rfl (by kernel_rfl) (by kernel_rfl) (by kernel_rfl) (fun _ _ _ h=>h) (Or.inl ⟨by rfl,?_⟩) (by assumption) ?_
     rotate_left
     ·(intro w hSw;(try dsimp only at hSw);go_simp;try with_reducible rfl)
     try simp only[Act.put,List.setIfInBounds_toArray,List.set_cons_zero,List.set_cons_succ]
     refine wpAnyH_take (i:=3) (v:= ?_) rfl (by kernel_rfl) (by kernel_rfl) (by kernel_rfl) (fun _ _ _ h=>h) (Or.inl ⟨by rfl,?_⟩) (by assumption) ?_
     rotate_left
     ·(intro w hSw;(try dsimp only at hSw);go_simp;try with_reducible rfl)
     try simp only[Act.put,List.setIfInBounds_toArray,List.set_cons_zero,List.set_cons_succ]
     refine wpAnyH_take (i:=6) (v:= ?_) rfl (by kernel_rfl) (by kernel_rfl) (by kernel_rfl) (fun _ _ _ h=>h) (Or.inl ⟨by rfl,?_⟩) (by assumption) ?_
     rotate_left
     ·(intro w hSw;(try dsimp only at hSw);go_simp;try with_reducible rfl)
     try simp only[Act.put,List.setIfInBounds_toArray,List.set_cons_zero,List.set_cons_succ]
     refine wpAnyH_take (i:=7) (v:= ?_) rfl (by kernel_rfl) (by kernel_rfl) (by kernel_rfl) (fun _ _ _ h=>h) (Or.inl ⟨by rfl,?_⟩) (by assumption) ?_
     rotate_left
     ·(intro w hSw;(try dsimp only at hSw);go_simp;try with_reducible rfl)
     try simp only[Act.put,List.setIfInBounds_toArray,List.set_cons_zero,List.set_cons_succ]
     refine wpAnyH_take (i:=8) (v:= ?_) rfl (by kernel_rfl) (by kernel_rfl) (by kernel_rfl) (fun _ _ _ h=>h) (Or.inl ⟨by rfl,?_⟩) (by assumption) ?_
     rotate_left
     ·(intro w hSw;(try dsimp only at hSw);go_simp;try with_reducible rfl)
     try simp only[Act.put,List.setIfInBounds_toArray,List.set_cons_zero,List.set_cons_succ]
     refine wpAnyH_take (i:=9) (v:= ?_) rfl (by kernel_rfl) (by kernel_rfl) (by kernel_rfl) (fun _ _ _ h=>h) (Or.inl ⟨by rfl,?_⟩) (by assumption) ?_
     rotate_left
     ·(intro w hSw;(try dsimp only at hSw);go_simp;try with_reducible rfl)
     try simp only[Act.put,List.setIfInBounds_toArray,List.set_cons_zero,List.set_cons_succ]
     refine wpAnyH_take (i:=10) (v:= ?_) rfl (by kernel_rfl) (by kernel_rfl) (by kernel_rfl) (fun _ _ _ h=>h) (Or.inl ⟨by rfl,?_⟩) (by assumption) ?_
     rotate_left
     ·(intro w hSw;(try dsimp only at hSw);go_simp;try with_reducible rfl)
     try simp only[Act.put,List.setIfInBounds_toArray,List.set_cons_zero,List.set_cons_succ]
     refine wpAnyH_ready (rs:=[4]) (by kernel_rfl) (by simp) ?_;refine AllReadyH.cons rfl (fun K hK=> ?_) AllReadyH.nil;go_simp;refine(HST2.o _ HM9.o).mono ?_;rintro e w10 ⟨ya,yc,rfl,hrd,hb⟩;have HB10:=hid (HB9.o.on hb);have HM10:=hid (HM9.o.later hb);have hcv1:=hrd.bMz (c:=yc);have hcu1:=HB10.o.keep HCU.o;have hcv2:=(HRU.o.keep HB10.o).bMz (c:=u.c);clear hrd hb hcu hcv HB9 HM9 HST2;refine hK.out _ _ ⟨hcu1,hcv2⟩ (fun hHeld=> ?_);clear hK K
     try simp only[Act.put,List.setIfInBounds_toArray,List.set_cons_zero,List.set_cons_succ]
     refine wpAnyH_ready (rs:=[5]) (by kernel_rfl) (by simp) ?_;refine AllReadyH.cons rfl (fun K hK=> ?_) AllReadyH.nil;go_simp;go_simp;refine hK.out _ _ ⟨hcu1,hcv2⟩ (fun hHeld=> ?_);clear hK K
     try simp only[Act.put,List.setIfInBounds_toArray,List.set_cons_zero,List.set_cons_succ]
     clear hcv1;refine wpAnyH_take (i:=11) (v:=(.bool false)) rfl (by kernel_rfl) (by kernel_rfl) (by kernel_rfl) (fun _ _ _ h=>h) (Or.inl ⟨by rfl,?_⟩) (by assumption) ?_
     ·(intro w hSw;(try dsimp only at hSw);go_simp)
     try simp only[Act.put,List.getElem_toArray,List.getElem_cons_succ,List.getElem_cons_zero,List.setIfInBounds_toArray,List.set_cons_zero,List.set_cons_succ]
     refine wpAnyH_take (i:=12) (v:= ?_) rfl (by kernel_rfl) (by kernel_rfl) (by kernel_rfl) (fun _ _ _ h=>h) (Or.inl ⟨by rfl,?_⟩) (by assumption) ?_
     rotate_left
     ·(intro w hSw;(try dsimp only at hSw);go_simp;try with_reducible rfl)
     try simp only[Act.put,List.setIfInBounds_toArray,List.set_cons_zero,List.set_cons_succ]
     refine wpAnyH_take (i:=13) (v:= ?_) rfl (by kernel_rfl) (by kernel_rfl) (by kernel_rfl) (fun _ _ _ h=>h) (Or.inl ⟨by rfl,?_⟩) (by assumption) ?_
     rotate_left
     ·(intro w hSw;(try dsimp only at hSw);go_simp;try with_reducible rfl)
     try simp only[Act.put,List.setIfInBounds_toArray,List.set_cons_zero,List.set_cons_succ]
     refine wpAnyH_take (i:=14) (v:= ?_) rfl (by kernel_rfl) (by kernel_rfl) (by kernel_rfl) (fun _ _ _ h=>h) (Or.inl ⟨by rfl,?_⟩) (by assumption) ?_
     rotate_left
     ·(intro w hSw;(try dsimp only at hSw);go_simp;try with_reducible rfl)
     try simp only[Act.put,List.setIfInBounds_toArray,List.set_cons_zero,List.set_cons_succ]
     refine wpAnyH_ready (rs:=[15]) (by kernel_rfl) (by simp) ?_;refine AllReadyH.cons rfl (fun K hK=> ?_) AllReadyH.nil;go_simp;refine(nJ X2 G2 _ HM10.o).mono ?_;rintro e w11 ⟨fv,rfl,hfv,hb⟩;have HB11:=hid (HB10.o.on hb);have HFV:=hid hfv;have hcu3:=HB11.o.keep HCU.o;have hcv3:=(HRU.o.keep HB11.o).bMz (c:=u.c);clear hfv hb hcu1 hcv2 HB10 HM10;refine hK.out _ _ ⟨hcu3,hcv3⟩ (fun hHeld=> ?_);clear hK K
     try simp only[Act.put,List.setIfInBounds_toArray,List.set_cons_zero,List.set_cons_succ]
     refine wpAnyH_ready (rs:=[16]) (by kernel_rfl) (by simp) ?_;refine AllReadyH.cons rfl (fun K hK=> ?_) AllReadyH.nil;go_simp;refine(HRM2.o fv _ HFV.o).mono ?_;rintro e w12 ⟨rfl,hb⟩;have HB12:=hid (HB11.o.on hb);have hcu4:=HB12.o.keep HCU.o;have hcv4:=(HRU.o.keep HB12.o).bMz (c:=u.c);clear hb hcu3 hcv3 HB11 HFV HRM2;refine hK.out _ _ ⟨hcu4,hcv4⟩ (fun hHeld=> ?_);clear hK K
     try simp only[Act.put,List.setIfInBounds_toArray,List.set_cons_zero,List.set_cons_succ]
     refine wpAnyH_take (i:=17) (v:=(.bool false)) rfl (by kernel_rfl) (by kernel_rfl) (by kernel_rfl) (fun _ _ _ h=>h) (Or.inl ⟨by rfl,?_⟩) (by assumption) ?_
     ·(intro w hSw;(try dsimp only at hSw);go_simp)
     try simp only[Act.put,List.getElem_toArray,List.getElem_cons_succ,List.getElem_cons_zero,List.setIfInBounds_toArray,List.set_cons_zero,List.set_cons_succ]
     refine wpAnyH_take (i:=18) (v:= ?_) rfl (by kernel_rfl) (by kernel_rfl) (by kernel_rfl) (fun _ _ _ h=>h) (Or.inl ⟨by rfl,?_⟩) (by assumption) ?_
     rotate_left
     ·(intro w hSw;(try dsimp only at hSw);go_simp;try with_reducible rfl)
     try simp only[Act.put,List.setIfInBounds_toArray,List.set_cons_zero,List.set_cons_succ]
     simp only[Act.put,List.getElem_toArray,List.getElem_cons_succ,List.getElem_cons_zero,List.setIfInBounds_toArray,List.set_cons_zero,List.set_cons_succ];refine wpAnyH_done (by kernel_rfl) ?_ _;clear hcu4 hcv4;go_wp2_with fail;go_roundw
     case rel=>exact⟨k+1,by omega,by go_num,HB12.o⟩
     case measure=>simp[intOf];omega
    ·go_wp2_with fail;go_roundw
     case rel=>exact⟨k+1,by omega,by go_num,HBk.o.on hb⟩
     case measure=>simp[intOf];omega
   ·obtain rfl:k=3:=by omega
    go_wp2_with fail;go_ret;exact⟨rfl,HBW7.o.on hBk⟩
end Go.Proofs.YtaiklhbakldfhaaGreat
