/- tegularef48: states in memory; Read, Mapped. Conditions: as each theorem says. -/
import Derived.Test.YtphfgbbbejloaaaGreatDoorMeN
set_option linter.unusedSimpArgs false
set_option linter.unusedVariables false
set_option maxRecDepth 100000
set_option maxHeartbeats 16000000
namespace Go.Proofs.YtphfgbbbejloaaaGreatDoor
open Go.RowKit Go.Maps
open Go.Proofs.Tryz
theorem aDq{P:Prop}(h:P:=by first|trivial|rfl):P:=h
theorem aDp{P:Prop}(h:P:=by rw[Qe (by simp)];exact HNX.o (by first|trivial|rfl)):P:=h
theorem aDt{P:Prop}(h:P:=by
  have HA2:=hD (HA1.o.put2 (λj d e=>by cases e) (.int .i64 (G).N) (.slice ra rn rc));have HG2:=hD (HA1.o.famput (λj d e=>by cases e) (.int .i64 (G).N) (.slice ra rn rc) HG.o);clear HG;clear b0 b1 b2 c0 c1 c2 c3 c4 c5 c6 c7 c8 r0 r1 r2 h0 h1 h2 o0 o1 o2 f0 f1 f2;unfold fP at HA2 HG2;generalize (w1.setCell (cw (ci w) 0) (.int .i64 (G).N)).setCell (cw (ci w) 1) (.slice ra rn rc)=w2 at HA2 HG2 ⊢;obtain⟨⟨b0,b1,b2,-,-,-,-,-⟩,⟨c0,c1,c2,c3,c4,c5,c6,c7,c8⟩,⟨r0,r1,r2,h0,h1,h2,-,-⟩,⟨o0,o1,o2,f0,f1,f2,-,-⟩,-,-,-⟩:=HA2.o;simp only at c0 c1 c2 c3 c4 c5 c6 c7 c8;by_cases q11:x1=0
  ·subst q11;have HXY:Hid (y0=x0):=hD (HXX.o aDq);go_wp2_with fail;refine(HCC.o _ _ HA2.o.fam).m ?_;rintro e w3 ⟨rfl,hb⟩;have HA3:=hD (HA2.o.aIx hb);have HG3:=hD (HG2.o.keep hb);clear hb HA2 HG2;rw[HXY.o];clear b0 b1 b2 c0 c1 c2 c3 c4 c5 c6 c7 c8 r0 r1 r2 h0 h1 h2 o0 o1 o2 f0 f1 f2;obtain⟨⟨b0,b1,b2,-,-,-,-,-⟩,⟨c0,c1,c2,c3,c4,c5,c6,c7,c8⟩,⟨r0,r1,r2,h0,h1,h2,-,-⟩,⟨o0,o1,o2,f0,f1,f2,-,-⟩,-,-,-⟩:=HA3.o;simp only at c0 c1 c2 c3 c4 c5 c6 c7 c8;go_upto_region 21 with fail;by_cases h00:x0=0
   ·subst h00;go_wp2_with fail;clear b0 b1 b2 c0 c1 c2 c3 c4 c5 c6 c7 c8 r0 r1 r2 h0 h1 h2 o0 o1 o2 f0 f1 f2;have j0:=(HA3.o.rb.rep (.int .i64 (G).N) (.slice ra rn rc) (.slice da s.F.N dc)).c0;have j1:=(HA3.o.rb.rep (.int .i64 (G).N) (.slice ra rn rc) (.slice da s.F.N dc)).c1;have j2:=(HA3.o.rb.rep (.int .i64 (G).N) (.slice ra rn rc) (.slice da s.F.N dc)).c2;refine br (.tuple #[.agg #[.int .i64 (G).N,.slice ra rn rc,.slice da s.F.N dc],sn,oo]) ?_;exact NX.done (R:=[]) (t:=⟨G,s.D⟩) HA3.o (RSt.fam HA3.o.st HG3.o (HGN.o aDq)) ⟨sM,.inl rfl⟩ aDp (HGN.o aDq).symm
   ·have h00b:(x0 != 0)=true:=by simpa using h00
    go_wp2_with fail;clear b0 b1 b2 c0 c1 c2 c3 c4 c5 c6 c7 c8 r0 r1 r2 h0 h1 h2 o0 o1 o2 f0 f1 f2;have j0:=(HA3.o.rb.rep s.F.N (.slice va vn vc) (.slice da s.F.N dc)).c0;have j1:=(HA3.o.rb.rep s.F.N (.slice va vn vc) (.slice da s.F.N dc)).c1;have j2:=(HA3.o.rb.rep s.F.N (.slice va vn vc) (.slice da s.F.N dc)).c2;refine br (.tuple #[.agg #[s.F.N,.slice va vn vc,.slice da s.F.N dc],sn,x0]) ?_;exact NX.done (R:=[]) HA3.o HA3.o.st ⟨sM,.inl rfl⟩ (by rw[Qe sM];exact HNN.o h00) rfl
  ·have h1b:(x1==0)=false:=by simpa using q11
   obtain rfl:x1=x0:=HXN.o q11;go_upto_region 21 with fail;have h00b:(x1 != 0)=true:=by simpa using q11
   go_wp2_with fail;clear b0 b1 b2 c0 c1 c2 c3 c4 c5 c6 c7 c8 r0 r1 r2 h0 h1 h2 o0 o1 o2 f0 f1 f2;have j0:=(HA2.o.rb.rep s.F.N (.slice va vn vc) (.slice da s.F.N dc)).c0;have j1:=(HA2.o.rb.rep s.F.N (.slice va vn vc) (.slice da s.F.N dc)).c1;have j2:=(HA2.o.rb.rep s.F.N (.slice va vn vc) (.slice da s.F.N dc)).c2;refine br (.tuple #[.agg #[s.F.N,.slice va vn vc,.slice da s.F.N dc],sn,x1]) ?_;exact NX.done (R:=[]) HA2.o HA2.o.st ⟨sM,.inl rfl⟩ (by rw[Qe sM];exact HNN.o q11) rfl
  ):P:=h
theorem aDs{P:Prop}(h:P:=by
  obtain⟨⟨b0,b1,b2,-,-,-,-,-⟩,⟨c0,c1,c2,c3,c4,c5,c6,c7,c8⟩,⟨r0,r1,r2,h0,h1,h2,-,-⟩,⟨o0,o1,o2,f0,f1,f2,-,-⟩,-,-,-⟩:=HA.o;simp only at c0 c1 c2 c3 c4 c5 c6 c7 c8;go_wp2_with fail;refine(HUN.o _ _ HA.o.fam).m ?_;rintro e w1 ⟨gv,sv,rfl,hg,_,hb⟩;obtain⟨ra,rn,rc,rfl⟩:=hg.form;have HA1:=hD (HA.o.aIx hb);have HG:=hD hg;clear hb hg;clear b0 b1 b2 c0 c1 c2 c3 c4 c5 c6 c7 c8 r0 r1 r2 h0 h1 h2 o0 o1 o2 f0 f1 f2;obtain⟨⟨b0,b1,b2,-,-,-,-,-⟩,⟨c0,c1,c2,c3,c4,c5,c6,c7,c8⟩,⟨r0,r1,r2,h0,h1,h2,-,-⟩,⟨o0,o1,o2,f0,f1,f2,-,-⟩,-,-,-⟩:=HA1.o;simp only at c0 c1 c2 c3 c4 c5 c6 c7 c8;go_upto_region 21 with fail;have HA2:=hD (HA1.o.put2 (λj d e=>by cases e) (.int .i64 (G).N) (.slice ra rn rc));have HG2:=hD (HA1.o.famput (λj d e=>by cases e) (.int .i64 (G).N) (.slice ra rn rc) HG.o);clear HG;clear b0 b1 b2 c0 c1 c2 c3 c4 c5 c6 c7 c8 r0 r1 r2 h0 h1 h2 o0 o1 o2 f0 f1 f2;unfold fP at HA2 HG2;generalize (w1.setCell (cw (ci w) 0) (.int .i64 (G).N)).setCell (cw (ci w) 1) (.slice ra rn rc)=w2 at HA2 HG2 ⊢;obtain⟨⟨b0,b1,b2,-,-,-,-,-⟩,⟨c0,c1,c2,c3,c4,c5,c6,c7,c8⟩,⟨r0,r1,r2,h0,h1,h2,-,-⟩,⟨o0,o1,o2,f0,f1,f2,-,-⟩,-,-,-⟩:=HA2.o;simp only at c0 c1 c2 c3 c4 c5 c6 c7 c8;by_cases h00:x0=0
  ·subst h00;go_wp2_with fail;clear b0 b1 b2 c0 c1 c2 c3 c4 c5 c6 c7 c8 r0 r1 r2 h0 h1 h2 o0 o1 o2 f0 f1 f2;have j0:=(HA2.o.rb.rep (.int .i64 (G).N) (.slice ra rn rc) (.slice da s.F.N dc)).c0;have j1:=(HA2.o.rb.rep (.int .i64 (G).N) (.slice ra rn rc) (.slice da s.F.N dc)).c1;have j2:=(HA2.o.rb.rep (.int .i64 (G).N) (.slice ra rn rc) (.slice da s.F.N dc)).c2;refine br (.tuple #[.agg #[.int .i64 (G).N,.slice ra rn rc,.slice da s.F.N dc],sn,oo]) ?_;exact NX.done (R:=[]) (t:=⟨G,s.D⟩) HA2.o (RSt.fam HA2.o.st HG2.o (HGN.o aDq)) ⟨sM,.inl rfl⟩ aDp (HGN.o aDq).symm
  ·have h00b:(x0 != 0)=true:=by simpa using h00
   go_wp2_with fail;clear b0 b1 b2 c0 c1 c2 c3 c4 c5 c6 c7 c8 r0 r1 r2 h0 h1 h2 o0 o1 o2 f0 f1 f2;have j0:=(HA2.o.rb.rep s.F.N (.slice va vn vc) (.slice da s.F.N dc)).c0;have j1:=(HA2.o.rb.rep s.F.N (.slice va vn vc) (.slice da s.F.N dc)).c1;have j2:=(HA2.o.rb.rep s.F.N (.slice va vn vc) (.slice da s.F.N dc)).c2;refine br (.tuple #[.agg #[s.F.N,.slice va vn vc,.slice da s.F.N dc],sn,x0]) ?_;exact NX.done (R:=[]) HA2.o HA2.o.st ⟨sM,.inl rfl⟩ (by rw[Qe sM];exact HNN.o h00) rfl
  ):P:=h
theorem aDr{P:Prop}(h:P:=by
  subst hn;intro j u hj;have:(((cw W 0):Addr).add j)=(cw W j):=by cases j <;> simp[Addr.add]
  rw[this,World.cell?_alloc_new]
  simpa using hj
  ):P:=h
theorem Ky{P:Prop}(h:P:=by
  cases aN F.vs nm with
  |none=>intro h;simp at h
  | some v=>
   simp only
   repeat' (first|(intro h;first|(rfl;done)|(simp at h;done))|split)
  ):P:=h
abbrev rsV(N:Nat)(va:OA)(vn vc:Nat)(da:OA)(dc:Nat):Value:= .agg #[N,.slice va vn vc,.slice da N dc]
def RSt(w:Wd)(va:OA)(vn vc:Nat)(da:OA)(s:MSt Bk):Prop:=
 ∃L:List Bk,L.length=s.F.N/\cB w (.agg #[s.F.N,.slice va vn vc]) s.F/\RdB w da L/\ ∀i,s.D i=L.getD i Bk.zero
def RStM(w:Wd)(v:Value)(s:MSt Bk):Prop:= ∃va vn vc da dc,v=rsV s.F.N va vn vc da dc/\RSt w va vn vc da s
section
variable{w w':Wd}{va da:OA}{vn vc X:Nat}{v:Value}{s:MSt Bk}
theorem RSt.keep(h:RSt w va vn vc da s)(hb:Below w w w'):RSt w' va vn vc da s:=by
 obtain⟨L,h1,h2,h3,h4⟩:=h;exact⟨L,h1,h2.keep hb,h3.keep hb,h4⟩
theorem RSt.grown(h:RSt w va vn vc da s)(hX:MX w X)(hg:w.grownBy w' (some X)):RSt w' va vn vc da s:=by
 obtain⟨L,h1,h2,h3,h4⟩:=h;exact⟨L,h1,h2.aJh hX hg,h3.aJh hX hg,h4⟩
end
theorem GL(F:Fam)(i0:Int)(b0:Bool)(e0:Int)(gv:Value)(nm:LU)(p:Int)(w:Wd)(hF:F.ok)(h:cB w gv F)(hn:nm.length<=maxLen)(he:aX F nm p=(i0,b0,e0)):
  ep 45 #[gv,nmV nm,p] w (RB w (.tuple #[i0,.bool b0,e0])):=by
 have:=Oj F gv nm p w hF h hn
 rwa [he]at this
theorem GJ(v:Value)(s:MSt Bk)(nm:LU)(p:Int)(w:Wd)(hF:s.F.ok)(h:RStM w v s)(hn:nm.length<=maxLen)(x:Bk)(hx:vF Bk.zero s nm p=x)(e0:Int)(he:(aX s.F nm p).2.2=e0):
  ep 21 #[v,nmV nm,p] w (Rh x e0 w):=by
 obtain⟨va,vn,vc,da,dc,rfl,L,hL,hfam,hd,hDd⟩:=h;obtain⟨i0,b0,e1,hl⟩:∃i0 b0 e0,aX s.F nm p=(i0,b0,e0):=⟨_,_,_,rfl⟩;obtain rfl:e1=e0:=by rw[hl]at he;exact he
 have hk0:=(bQ w).aIw (cq #[s.F.N,.slice va vn vc,.slice da s.F.N dc] 31);have hB:=Bx3.new w _ rfl s.F.N (.slice va vn vc) (.slice da s.F.N dc) 31;have hk1:=(Below.refl (w.alloc (cq #[s.F.N,.slice va vn vc,.slice da s.F.N dc] 31)).heap.size (w.alloc (cq #[s.F.N,.slice va vn vc,.slice da s.F.N dc] 31))).aIw (.cells (iW Bk.zero) 56);have HX:=hD (hB.aIx hk1);have HFM:=hD ((hfam.keep hk0).keep hk1);have HD:=hD ((hd.keep hk0).keep hk1);have hsz:(w.alloc (cq #[s.F.N,.slice va vn vc,.slice da s.F.N dc] 31)).heap.size=w.heap.size+1:=by simp
 have HR:=hD (RB8.new w _ Bk.zero 56 hk0);rw[hsz]at HR;have hxx:x=if b0=true then L.getD i0.toNat Bk.zero else Bk.zero:=by
  rw[<-hx];unfold vF;rw[hl];simp only[hDd]
 have HXX:=hD hxx;have HLL:=hD hL;have HFIT:Hid (b0=true->0<=i0/\i0<s.F.N):=hD λq=>by
  have:=uJ hF nm p (by rw[hl];exact q);rw[hl]at this;exact this
 have hN6:=hF.hN;have HLK:=hD (λgv W hf=>GL s.F i0 b0 e1 gv nm p W hF hf hn hl);have HER:Hid (b0=true->e1=0):=hD λq=>by
  unfold aX at hl
  cases hv:aN s.F.vs nm with
  |none=>rw[hv]at hl;simp only[Prod.mk.injEq]at hl;rw[<-hl.2.1]at q;cases q
  | some v=>
   rw[hv]at hl;simp only at hl
   split at hl
   ·simp only[Prod.mk.injEq]at hl;rw[<-hl.2.1]at q;cases q
   ·simp only[Prod.mk.injEq]at hl;exact hl.2.2.symm
 unfold Rh;clear hB hk0 hk1 hfam hd hDd hx hl hxx hF hsz he hL;go_enter func21,ntmps21;have x0:=HX.o.c0;have x1:=HX.o.c1;have x2:=HX.o.c2;go_upto_region 1 with fail;obtain⟨W0,hW0⟩:∃W0,(w.alloc (cq #[s.F.N,.slice va vn vc,.slice da s.F.N dc] 31)).alloc (.cells (iW Bk.zero) 56)=W0:=⟨_,rfl⟩;rw[hW0]at HX HFM HD HR x0 x1 x2;have hW1:(w.alloc (cq #[s.F.N,.slice va vn vc,.slice da s.F.N dc] 31)).alloc (cq #[.int .u8 0,.int .u8 0,.int .u8 0,.int .u8 0,.int .u8 0,.int .u8 0,.int .u8 0,.int .u8 0] 56)=W0:=hW0
 try rw[hW1]
 clear hW0 hW1;go_wp2_with fail;refine(HLK.o _ _ HFM.o).m ?_;rintro e w2 ⟨rfl,hb⟩;have HR2:=hD (HR.o.aIx hb);have HX2:=hD (HX.o.aIx hb);have HD2:=hD (HD.o.keep hb);clear hb HR HX HD HFM HLK x0 x1 x2;cases b0
 ·obtain rfl:x=Bk.zero:=HXX.o;by_cases he:e1=0
  ·subst he;obtain⟨g0,g1,g2,g3,g4,g5,g6,g7⟩:=HR2.o.at';simp only[Nat.zero_mul,Nat.zero_add]at g0 g1 g2 g3 g4 g5 g6 g7;have gf:=HR2.o.f;go_wp2_with fail;have HP:=hD (HR2.o.put Bk.zero);show bodyPost _ _ _ _ _ (yQ w2 (cf w) Bk.zero);clear g0 g1 g2 g3 g4 g5 g6 g7 gf;generalize yQ w2 (cf w) Bk.zero=w3 at *;obtain⟨g0,g1,g2,g3,g4,g5,g6,g7⟩:=HP.o.at';simp only[Nat.zero_mul,Nat.zero_add]at g0 g1 g2 g3 g4 g5 g6 g7;have gf:=HP.o.f;refine br (.tuple #[Bk.zero.v,oo]) ?_;exact⟨rfl,HP.o.g⟩
  ·have he2:(e1 != 0)=true:=by simpa using he
   obtain⟨g0,g1,g2,g3,g4,g5,g6,g7⟩:=HR2.o.at';simp only[Nat.zero_mul,Nat.zero_add]at g0 g1 g2 g3 g4 g5 g6 g7;have gf:=HR2.o.f;go_wp2_with fail;have HP:=hD (HR2.o.put Bk.zero);show bodyPost _ _ _ _ _ (yQ w2 (cf w) Bk.zero);clear g0 g1 g2 g3 g4 g5 g6 g7 gf;generalize yQ w2 (cf w) Bk.zero=w3 at *;obtain⟨g0,g1,g2,g3,g4,g5,g6,g7⟩:=HP.o.at';simp only[Nat.zero_mul,Nat.zero_add]at g0 g1 g2 g3 g4 g5 g6 g7;have gf:=HP.o.f;refine br (.tuple #[Bk.zero.v,e1]) ?_;exact⟨rfl,HP.o.g⟩
 ·have he0:=HER.o rfl;subst he0;obtain⟨q1,q2⟩:=HFIT.o rfl;obtain⟨i,rfl⟩:=Qr q1;have hiN:i<s.F.N:=oM
  obtain ⟨z,hz⟩:∃z,L[i]? =some z:=⟨L[i]'(by rw[HLL.o];exact hiN),Qa _⟩;obtain rfl:x=z:=by
   have h1:x=L.getD i Bk.zero:=HXX.o;rw[h1,Ql,hz];rfl
  obtain⟨g,o,rfl,hat⟩:=HD2.o.at (by rw[HLL.o];omega);obtain⟨y0,y1,y2,y3,y4,y5,y6,y7⟩:=x;obtain⟨k0,k1,k2,k3,k4,k5,k6,k7⟩:=hat i _ hz;simp only at k0 k1 k2 k3 k4 k5 k6 k7;have x2:=HX2.o.c2;clear hat hz HXX HFIT HER;obtain⟨g0,g1,g2,g3,g4,g5,g6,g7⟩:=HR2.o.at';simp only[Nat.zero_mul,Nat.zero_add]at g0 g1 g2 g3 g4 g5 g6 g7;have gf:=HR2.o.f;go_wp2_with fail;have HP:=hD (HR2.o.put ⟨y0,y1,y2,y3,y4,y5,y6,y7⟩);show bodyPost _ _ _ _ _ (yQ w2 (cf w) ⟨y0,y1,y2,y3,y4,y5,y6,y7⟩);clear g0 g1 g2 g3 g4 g5 g6 g7 gf;clear x2 k0 k1 k2 k3 k4 k5 k6 k7;generalize yQ w2 (cf w) ⟨y0,y1,y2,y3,y4,y5,y6,y7⟩=w3 at *;obtain⟨g0,g1,g2,g3,g4,g5,g6,g7⟩:=HP.o.at';simp only[Nat.zero_mul,Nat.zero_add]at g0 g1 g2 g3 g4 g5 g6 g7;have gf:=HP.o.f;refine br (.tuple #[.agg #[.int .u8 y0,.int .u8 y1,.int .u8 y2,.int .u8 y3,.int .u8 y4,.int .u8 y5,.int .u8 y6,.int .u8 y7],oo]) ?_;exact⟨rfl,HP.o.g⟩
theorem Wt(F:Fam)(x0:Int)(gv:Value)(nm:LU)(p n:Int)(w:Wd)(hF:F.ok)(h:cB w gv F)(hn:nm.length<=maxLen)(he:(dP F nm p n).2=x0):
  ep 96 #[gv,nmV nm,p,n] w λe w'=>∃sv,e= .returned (.tuple #[sv,x0])/\Below w w w':=by
 subst he;exact(GK F gv nm p n w hF h hn).mono λe w' ⟨sv,q1,_,q3⟩=>⟨sv,q1,q3⟩
theorem aIb(W:Wd)(n:Nat)(hn:n=W.heap.size)(x:Bk)(t:TypeId):∀j u,x.cells[j]? =some u->(W.alloc (.cells x.cells.toArray t)).cell? (((cw n 0):Addr).add j)=some u:=by
 exact aDr
theorem Bk.one(x:Bk):∀u∈x.cells,u.oneCell'=true:=by
 intro u hu;simp only[Bk.cells,Yl,List.not_mem_nil,or_false]at hu;rcases hu with rfl|rfl|rfl|rfl|rfl|rfl|rfl|rfl <;> rfl
theorem eZ.nil(w:Wd)(B:Nat):eZ w B sn []:=World.ownsRow_nil _ _ _ _
theorem eZ.snoc{w:Wd}{B n:Nat}{v:Value}{l:List Bk}{x:Bk}(h:w.ownsRow B 56 8 v n (l.flatMap Bk.cells++x.cells))(hn:n=l.length+1):eZ w B v (l++[x]):=by
 subst hn;unfold eZ;rw[List.flatMap_append,Qg]
 simpa using h
theorem eZ.lt{w:Wd}{B:Nat}{v:Value}{l:List Bk}(h:eZ w B v l):∀k,v.ownBlock=some k->B<=k/\k<w.heap.size:=World.ownsRow.lt h
theorem Oh(va:OA)(vn vc:Nat)(da:OA)(dc:Nat)(s:MSt Bk)(vol:LU)(p:Int)(m:Nat)(w:Wd)(hF:s.F.ok)(h:RSt w va vn vc da s)(hv:vol.length<=maxLen)(hp:0<=p/\p<=65536)(hm:m<=16)(x0:Int)(he:(dP s.F vol p m).2=x0):
  ep 62 #[rsV s.F.N va vn vc da dc,nmV vol,p,m] w (aFm (if x0=0 then vD Bk.zero s vol p m else []) x0 w):=by
 have hk0:=(bQ w).aIw (cq #[s.F.N,.slice va vn vc,.slice da s.F.N dc] 31);have HX:=hD (Bx3.new w _ rfl s.F.N (.slice va vn vc) (.slice da s.F.N dc) 31);have HB:=hD hk0;have HS:=hD (h.keep hk0);have HFM:Hid (cB _ (.agg #[s.F.N,.slice va vn vc]) s.F):=hD (by obtain⟨_,_,h2,_⟩:=h.keep hk0;exact h2);have HRG:=hD (λgv W hf=>Wt s.F x0 gv vol p m W hF hf hv he);have HBK:=hD (λW (j:Nat) (hj:j<16) (hst:RSt W va vn vc da s)=>GJ (rsV s.F.N va vn vc da dc) s vol (p+j) W hF ⟨va,vn,vc,da,dc,rfl,hst⟩ hv (rdX s vol p j) rfl (aX s.F vol (p+j)).2.2 rfl);unfold Rh at HBK;have HRS:Hid (vD Bk.zero s vol p m=(List.range m).map (rdX s vol p)):=hD (by rw[KS,Int.toNat_natCast]);rw[HRS.o];obtain⟨R,hR⟩:∃R,(if x0=0 then (List.range m).map (rdX s vol p)else [])=R:=⟨_,rfl⟩;rw[hR];have HRR:=hD hR;have hwpm:IntKind.i64.wrap (p+(m:Int))=p+m:=IntWalk.i64_in _ oM;obtain⟨i0,hi,hz0,hz1,hz2⟩:=info_parts RU;clear hR;generalize rdX s vol p=fx at *;clear hF h he HRS hk0;go_enter func62,ntmps62;have x0':=HX.o.c0;have x1:=HX.o.c1;go_wp2_with fail;refine(HRG.o _ _ HFM.o).m ?_;rintro e w1 ⟨sv,rfl,hb⟩;have HX1:=hD (HX.o.aIx hb);have HS1:=hD (HS.o.keep hb);have HB1:=hD (HB.o.on hb);clear hb HX HS HB HFM HRG x0' x1;by_cases h0:x0=0
 ·subst h0;have HRE:Hid (R=(List.range m).map fx):=hD (by rw[<-HRR.o,Qf rfl]);clear HRR;go_wp2_with fail;go_loopw [12,13] (λv i wr=>∃j:Nat,j<=m/\i= .int .i64 (p+j)/\eZ wr w1 v ((List.range j).map fx)/\Below w1 w1 wr) (λ_ i _=>(p+m).toNat-(intOf i).toNat)
  case atStart=>exact⟨0,Yf _,sM,eZ.nil _ _,bR⟩
  case round=>
   obtain⟨j,hj,rfl,ho,hb⟩:=hrel;have HO:=hD ho;have HBR:=hD hb;clear ho hb;by_cases hlt:j<m
   ·have hlt1:p+(j:Int)<p+m:=oM
    have hwj:IntKind.i64.wrap (p+(j:Int)+1)=p+j+1:=IntWalk.i64_in _ oM;have HXr:=hD (HX1.o.aIx HBR.o);have k0:=HXr.o.c0;have k1:=HXr.o.c1;have k2:=HXr.o.c2;have HC:=hD (HBK.o wr j oM (HS1.o.keep HBR.o));obtain⟨y,hy⟩:∃y,fx j=y:=⟨_,rfl⟩;rw[hy]at HC;have HY:=hD hy;clear hy HXr;obtain⟨y0,y1,y2,y3,y4,y5,y6,y7⟩:=y;go_wp2_with fail;refine HC.o.m ?_;rintro e w2 ⟨rfl,hb2⟩;unfold Bk.v;simp only;have hk2:=hb2.aIw (.cells (iW ⟨y0,y1,y2,y3,y4,y5,y6,y7⟩) 56);have HB2:=hD (HBR.o.on hk2);have HO2:=hD (HO.o.keep hk2);have HY2:=hD (RB8.new w2 w2 ⟨y0,y1,y2,y3,y4,y5,y6,y7⟩ 56 bR);clear hb2 hk2 HC HBR HO k0 k1 k2;go_upto_region 9 with fail;generalize w2.alloc (cq #[.int .u8 y0,.int .u8 y1,.int .u8 y2,.int .u8 y3,.int .u8 y4,.int .u8 y5,.int .u8 y6,.int .u8 y7] 56)=W2 at HB2 HO2 HY2 ⊢;generalize w2.heap.size=T2 at HY2 ⊢;obtain⟨h0,h1,h2,h3,h4,h5,h6,h7⟩:=HY2.o.at';simp only[Nat.zero_mul,Nat.zero_add]at h0 h1 h2 h3 h4 h5 h6 h7;have hfl:(((List.range j).map fx).flatMap Bk.cells).length=j*8:=by rw[kM Bk.cells 8 (λ_=>rfl)];simp
    have hsz2:=HB2.o.size
    go_wp2_with (at_builtin;go_loud (refine aO _ rfl _ _ 29 rfl w1.heap.size 56 i0 Bk.zero.v 8 8 underlying29 hi hz0 hz1 hz2 rfl dE _ _ _ rfl (Qu HO2.o _) (cw W2 0) 1 1 (Bk.cells ⟨y0,y1,y2,y3,y4,y5,y6,y7⟩) rfl rfl (aIb W2 _ rfl ⟨y0,y1,y2,y3,y4,y5,y6,y7⟩ 56) (Bk.one _) (by simp only[Yy,List.length_range];omega) (by simp only[Yy,List.length_range,maxLen];omega) (by simp only[World.size_alloc];omega) ?_;intro v1 w4 hown1 hgrow1 hwhere1))
    have HO4:=hD (eZ.snoc hown1 sM);have HB4:=hD ((HB2.o.aIw (cq #[.int .u8 y0,.int .u8 y1,.int .u8 y2,.int .u8 y3,.int .u8 y4,.int .u8 y5,.int .u8 y6,.int .u8 y7] 56)).aJa hgrow1 λq hq=>(HO2.o.lt q hq).1);go_roundw
    case rel=>exact⟨j+1,oM,by go_num,by rw[List.range_succ,Yz,List.map_cons,List.map_nil,HY.o];exact HO4.o,HB4.o⟩
    case measure=>simp[intOf];omega
   ·obtain rfl:j=m:=oM
    obtain⟨a,c,rfl,hrd⟩:=HO.o.rd pO;have HRD:=hD hrd;clear hrd;rw[<-HRE.o]at HRD HO ⊢;go_wp2_with fail;go_ret2;exact⟨a,c,rfl,HRD.o,HB1.o.on HBR.o⟩
 ·have h0b:(x0 != 0)=true:=by simpa using h0
  have HRE:Hid (R=[]):=hD (by rw[<-HRR.o,Qe h0]);clear HRR;go_wp2_with fail;go_ret2;exact⟨none,0,by rw[HRE.o];rfl,⟨by rw[HRE.o];simp,.inl HRE.o⟩,HB1.o⟩
structure RS where
 va:OA
 vn:Nat
 vc:Nat
 da:OA
 dc:Nat
 s:MSt Bk
def RS.cells(p:RS):List Value:=[.int .i64 p.s.F.N,.slice p.va p.vn p.vc,.slice p.da p.s.F.N p.dc]
def RS.ok(w:Wd)(p:RS):Prop:=RSt w p.va p.vn p.vc p.da p.s
structure Nt(w:Wd)(g o k:Nat)(p:RS):Prop where
 n:w (cw g (o+k*3))=p.s.F.N
 v:w (cw g (o+k*3+1))=some (.slice p.va p.vn p.vc)
 d:w (cw g (o+k*3+2))=some (.slice p.da p.s.F.N p.dc)
theorem Nt.keep{w w':Wd}{g o k:Nat}{p:RS}(h:Nt w g o k p)(hb:Below w w w'):Nt w' g o k p:=⟨hb.keep h.n,hb.keep h.v,hb.keep h.d⟩
theorem Nt.grown{w w':Wd}{g o k X:Nat}{p:RS}(h:Nt w g o k p)(hg:w.grownBy w' (some X))(hne:g≠X):Nt w' g o k p:=⟨aA hg h.n hne,aA hg h.v hne,aA hg h.d hne⟩
def mI(w:Wd)(a:OA)(ps:List RS):Prop:=
 ps.length<=1000000/\(ps=[]∨ ∃g o,a=cw g o/\jH w g 31/\ ∀k p,ps[k]? =some p->Nt w g o k p)
def LRs(w:Wd)(ps:List RS):Prop:= ∀p∈ps,p.ok w
theorem aHy:31≠90:=dE
section
variable{w w':Wd}{X:Nat}{a:OA}{ps:List RS}
theorem RS.ok.keep{p:RS}(h:p.ok w)(hb:Below w w w'):p.ok w':=RSt.keep h hb
theorem mI.keep(h:mI w a ps)(hb:Below w w w'):mI w' a ps:=
 ⟨h.1,h.2.imp id λ⟨g,o,h1,ht,h2⟩=>⟨g,o,h1,ht.keep hb,λk p hk=>(h2 k p hk).keep hb⟩⟩
theorem mI.nil(w:Wd)(a:OA):mI w a []:=⟨sM,.inl rfl⟩
theorem mI.at(h:mI w a ps)(h0:0<ps.length):∃g o,a=cw g o/\ ∀k p,ps[k]? =some p->Nt w g o k p:=by
 obtain⟨g,o,h1,_,h2⟩:=h.2.resolve_left (by intro e;rw[e]at h0;simp at h0);exact⟨g,o,h1,h2⟩
theorem LRs.keep(h:LRs w ps)(hb:Below w w w'):LRs w' ps:=λp hp=>(h p hp).keep hb
theorem mI.grown(h:mI w a ps)(hX:MX w X)(hg:w.grownBy w' (some X)):mI w' a ps:=by
 refine⟨h.1,h.2.imp id λ⟨g,o,h1,ht,h2⟩=> ?_⟩;have hne:g≠X:=ht.ne hX.ty aHy;exact⟨g,o,h1,ht.grown hg hne,λk p hk=>(h2 k p hk).grown hg hne⟩
theorem LRs.grown(h:LRs w ps)(hX:MX w X)(hg:w.grownBy w' (some X)):LRs w' ps:=λp hp=>RSt.grown (h p hp) hX hg
end
def jG(w:Wd)(B:Nat)(v:Value)(ps:List RS):Prop:=w.ownsRow B 31 3 v ps.length (ps.flatMap RS.cells)
section
variable{w w':Wd}{B:Nat}{v:Value}{ps:List RS}
theorem jG.lt(h:jG w B v ps):∀k,v.ownBlock=some k->B<=k/\k<w.heap.size:=World.ownsRow.lt h
theorem jG.keep(h:jG w B v ps)(hb:Below w w w'):jG w' B v ps:=
 World.ownsRow.kept h (row:=none) ⟨hb.os,hb.tape,hb.output,hb.size,λk hk _=>hb.block k hk⟩ (by cases hv:v.ownBlock <;> simp)
theorem jG.mono{B':Nat}(h:jG w B v ps)(hB:B'<=B):jG w B' v ps:=
 ⟨h.1,h.2.imp id λ⟨g,cap,cur,hv,hg,r⟩=>⟨g,cap,cur,hv,Nat.le_trans hB hg,r⟩⟩
theorem jG.rd(h:jG w B v ps)(hl:ps.length<=1000000):∃a c,v= .slice a ps c/\mI w a ps:=by
 rcases h.2 with ⟨rfl,hn⟩|⟨g,cap,cur,rfl,hb,hg,hn,hc,hs,ht⟩
 ·obtain rfl:=Qz hn;exact⟨_,_,rfl,mI.nil _ _⟩
 ·refine⟨_,_,rfl,hl,.inr ⟨g,0,rfl,⟨_,_,hg⟩,λk p hk=> ?_⟩⟩;have hk':k<ps.length:=(Qx.1 hk).1;have c:=λj hj=>Ys (cap:=cap) h j hj;have f:=λj hj=>flat_get RS.cells 3 (λ_=>rfl) ps k p hk j hj;refine⟨?_,?_,?_⟩
  ·rw[Nat.zero_add,c _ oM];exact f 0 oM
  ·rw[Nat.zero_add,c _ oM];exact f 1 oM
  ·rw[Nat.zero_add,c _ oM];exact f 2 oM
theorem jG.append{n:Nat}{l r:List RS}(h:w.ownsRow B 31 3 v n (l.flatMap RS.cells++r.flatMap RS.cells))(hn:n=l.length+r.length):jG w B v (l++r):=by
 subst hn;unfold jG;rw[List.flatMap_append,Qg];exact h
theorem jG.snoc{n:Nat}{l:List RS}{p:RS}(h:w.ownsRow B 31 3 v n (l.flatMap RS.cells++p.cells))(hn:n=l.length+1):jG w B v (l++[p]):=
 jG.append (r:=[p]) (by simpa using h) (by simpa using hn)
end
theorem RS.one(p:RS):∀u∈p.cells,u.oneCell'=true:=by
 intro u hu;simp only[RS.cells,Yl,List.not_mem_nil,or_false]at hu;rcases hu with rfl|rfl|rfl <;> rfl
theorem Xx(W:Wd)(n:Nat)(hn:n=W.heap.size)(p:RS)(t:TypeId):∀j u,p.cells[j]? =some u->(W.alloc (.cells p.cells.toArray t)).cell? (((cw n 0):Addr).add j)=some u:=by
 exact aDr
theorem aGy:(prog.info? 31).map (λi=>(i.zero,i.size,i.bytes))=some (some (.agg #[oo,sn,sn]),3,56):=kR
theorem mI.source{w:Wd}{a:OA}{ps:List RS}(hr:mI w a ps):w.source 3 a ps.length (ps.flatMap RS.cells):=by
 have hl:(ps.flatMap RS.cells).length=ps.length*3:=kM RS.cells 3 (λ_=>rfl) ps;refine⟨hl,λu hu=> ?_,?_⟩
 ·obtain⟨p,_,hp⟩:=List.mem_flatMap.1 hu;exact RS.one p u hp
 ·rcases hr.2 with rfl|⟨g,o,rfl,_,hat⟩
  ·cases a with
   |none=>exact .inl ⟨rfl,rfl⟩
   |some ad=>exact .inr ⟨ad,rfl,λj u hj=>by simp at hj⟩
  ·refine .inr ⟨_,rfl,λj u hj=> ?_⟩;have hjl:=(Qx.1 hj).1;have hk:j/3<ps.length:=oM
   have hp:=hat (j/3) _ (Qa hk);have hf:=flat_get RS.cells 3 (λ_=>rfl) ps (j/3) _ (Qa hk) (j%3) oM;rw[show j/3*3+j%3=j by omega,hj]at hf;have hadd:(((cw g o):Addr).add j)=(cw g (o+j)):=by unfold Addr.add;split <;> simp_all
   rw[hadd,show o+j=o+j/3*3+j%3 by omega];obtain⟨c0,c1,c2⟩:=hp;generalize hq:j%3=q at hf ⊢;have hq3:q<3:=oM
   match q,hq3 with
   |0,_=>rw[hf];exact c0
   |1,_=>rw[hf];exact c1
   |2,_=>rw[hf];exact c2
abbrev rmV(p:RS)(pa:OA)(pn pc:Nat):Value:= .agg #[p.s.F.N,.slice p.va p.vn p.vc,.slice p.da p.s.F.N p.dc,.slice pa pn pc]
structure RMd(w:Wd)(p:RS)(pa:OA)(ps:List RS)(m:Mo Bk):Prop where
 cur:p.s=m.cur
 past:ps.map RS.s=m.past
 st:p.ok w
 row:mI w pa ps
 all:LRs w ps
section
variable{w w':Wd}{X:Nat}{p:RS}{pa:OA}{ps:List RS}{m:Mo Bk}
theorem RMd.keep(h:RMd w p pa ps m)(hb:Below w w w'):RMd w' p pa ps m:=⟨h.cur,h.past,h.st.keep hb,h.row.keep hb,h.all.keep hb⟩
theorem RMd.grown(h:RMd w p pa ps m)(hX:MX w X)(hg:w.grownBy w' (some X)):RMd w' p pa ps m:=⟨h.cur,h.past,RSt.grown h.st hX hg,h.row.grown hX hg,h.all.grown hX hg⟩
end
def RMo(w:Wd)(v:Value)(m:Mo Bk):Prop:= ∃p pa pc ps,v=rmV p pa ps.length pc/\RMd w p pa ps m
structure Bx4(W:Wd)(T:Nat)(t:TypeId)(u v x y:Value):Prop where
 c0:W (cw T 0)=some u
 c1:W (cw T 1)=some v
 c2:W (cw T 2)=some x
 c3:W (cw T 3)=some y
 f0:W.frozen? (cw T 0)=false
 f1:W.frozen? (cw T 1)=false
 f2:W.frozen? (cw T 2)=false
 f3:W.frozen? (cw T 3)=false
 c4:∀i,4<=i->W (cw T i)=none
 ty:jH W T t
abbrev vT(W:Wd)(R:Nat)(u v x y:Value):Wd:=(((W.setCell (cw R 0) u).setCell (cw R 1) v).setCell (cw R 2) x).setCell (cw R 3) y
theorem fK(W:Wd)(R:Nat)(u v x y:Value):W.grownBy (vT W R u v x y) (some R):=
 World.grownBy.next (World.grownBy.next (World.grownBy.next (aJ W (cw R 0) u) (aJ _ (cw R 1) v)) (aJ _ (cw R 2) x)) (aJ _ (cw R 3) y)
section
variable{W W':Wd}{T R:Nat}{t:TypeId}{u v x y:Value}
theorem Bx4.lt(h:Bx4 W T t u v x y):T<W.heap.size:=Qj W (cw T 0) h.c0
theorem Bx4.aIx(h:Bx4 W T t u v x y)(hb:Below W W W'):Bx4 W' T t u v x y:=
 ⟨hb.keep h.c0,hb.keep h.c1,hb.keep h.c2,hb.keep h.c3,hb.aJc h.c0 h.f0,hb.aJc h.c1 h.f1,hb.aJc h.c2 h.f2,hb.aJc h.c3 h.f3,λi hi=>(hb.cell (p:=(cw T i)) h.lt).trans (h.c4 i hi),h.ty.keep hb⟩
theorem Bx4.new(V:Wd)(B:Nat)(hB:V.heap.size=B)(u v x y:Value)(t:TypeId):Bx4 (V.alloc (cq #[u,v,x,y] t)) B t u v x y:=by
 subst hB;refine⟨sM,sM,sM,sM,sM,sM,sM,sM,λi hi=> ?_,_,_,Yn⟩;rw[World.cell?_alloc_new];simp;omega
theorem Bx4.grown{row:Option Nat}(h:Bx4 W T t u v x y)(hg:W.grownBy W' row)(hne:row≠some T):Bx4 W' T t u v x y:=by
 have hb:=hg.block T h.lt (λe=>hne e.symm);have hc:∀i,W' (cw T i)=W (cw T i):=λi=>World.cell?_of_block hb;have hf:∀i,W'.frozen? (cw T i)=W.frozen? (cw T i):=λi=>World.frozen?_of_block hb;obtain⟨cs,s,hs⟩:=h.ty;exact⟨(hc 0).trans h.c0,(hc 1).trans h.c1,(hc 2).trans h.c2,(hc 3).trans h.c3,(hf 0).trans h.f0,(hf 1).trans h.f1,(hf 2).trans h.f2,(hf 3).trans h.f3,λi hi=>(hc i).trans (h.c4 i hi),cs,s,hb.trans hs⟩
theorem Bx4.rep(h:Bx4 W T t u v x y)(u' v' x' y':Value):Bx4 (vT W T u' v' x' y') T t u' v' x' y':=by
 have o:∀{V:Wd} {i j:Nat} {z:Value} {r:Option Value},V (cw T i)=r->i≠j->(V.setCell (cw T j) z).cell? (cw T i)=r:=λh hne=>(Qk _ _ _ _ (λe=>hne (by injection e with _ e;exact e.symm))).trans h;have f:∀i,(vT W T u' v' x' y').frozen? (cw T i)=W.frozen? (cw T i):=λi=>by unfold vT;rw[Qb,Qb,Qb,Qb]
 refine⟨?_,?_,?_,?_,(f 0).trans h.f0,(f 1).trans h.f1,(f 2).trans h.f2,(f 3).trans h.f3,λi hi=> ?_,(((h.ty.set _ _).set _ _).set _ _).set _ _⟩
 ·exact o (o (o (Qi _ _ _ h.c0) oM) oM) oM
 ·exact o (o (Qi _ _ _ (o h.c1 oM)) oM) oM
 ·exact o (Qi _ _ _ (o (o h.c2 oM) oM)) oM
 ·exact Qi _ _ _ (o (o (o h.c3 oM) oM) oM)
 ·exact dL oM (dL oM (dL oM (dL oM (h.c4 i hi))))
end
structure OdN(W:Wd)(X:Nat):Prop where
 noi:∀i k c,2<=i->W (cw X i)≠some (.int k c)
 ty:∃t,3≠t/\jH W X t
theorem Bx3.odN{W:Wd}{X:Nat}{t:TypeId}{u v x:Value}(h:Bx3 W X t u v x)(ht:3≠t)(hx:∀k c,x≠ .int k c):OdN W X:=by
 refine⟨λi k c hi=> ?_,t,ht,h.ty⟩
 match i,hi with
 |2,_=>rw[h.c2];intro e;exact hx k c (Qv e)
 |i+3,_=>rw[h.c3 _ oM];intro e;cases e
theorem Bx4.odN{W:Wd}{X:Nat}{t:TypeId}{u v x y:Value}(h:Bx4 W X t u v x y)(ht:3≠t)(hx:∀k c,x≠ .int k c)(hy:∀k c,y≠ .int k c):OdN W X:=by
 refine⟨λi k c hi=> ?_,t,ht,h.ty⟩
 match i,hi with
 |2,_=>rw[h.c2];intro e;exact hx k c (Qv e)
 |3,_=>rw[h.c3];intro e;exact hy k c (Qv e)
 |i+4,_=>rw[h.c4 _ oM];intro e;cases e
section
variable{W W':Wd}{X:Nat}(hX:OdN W X)(hg:W.grownBy W' (some X))
include hX hg
theorem Rd.aJe{a:OA}{l:List E}(h:Rd W a l):Rd W' a l:=by
 refine ⟨h.1,h.2.imp id λ⟨b,o,ha,hat⟩=>⟨b,o,ha,λk z hk=> ?_⟩⟩;have q:=hat k z hk;have hne:b≠X:=λe=>by
  subst e;exact hX.noi _ _ _ oM q.s
 exact⟨aA hg q.a hne,aA hg q.n hne,aA hg q.s hne⟩
theorem RdR.aJe{a:OA}{ts:List RT}(h:RdR W a ts):RdR W' a ts:=by
 refine ⟨h.1,h.2.imp id λ⟨b,o,ha,hat⟩=>⟨b,o,ha,λk z hk=> ?_⟩⟩;have q:=hat k z hk;have hne:b≠X:=λe=>by
  subst e;exact hX.noi _ _ _ oM q.c2
 exact⟨aA hg q.c0 hne,aA hg q.c1 hne,aA hg q.c2 hne,aA hg q.c3 hne⟩
theorem cB.aJe{gv:Value}{F:Fam}(hf:cB W gv F):cB W' gv F:=by
 obtain⟨a,c,ts,h1,h2,h3,h4⟩:=hf;exact⟨a,c,ts,h1,h2.aJe hX hg,λz hz=>(h3 z hz).aJe hX hg,h4⟩
theorem RdB.aJe{a:OA}{D:List Bk}(h:RdB W a D):RdB W' a D:=by
 refine ⟨h.1,h.2.imp id λ⟨b,o,ha,hat⟩=>⟨b,o,ha,λk z hk=> ?_⟩⟩;have q:=hat k z hk;have hne:b≠X:=λe=>by
  subst e;exact hX.noi _ _ _ oM q.c7
 exact⟨aA hg q.c0 hne,aA hg q.c1 hne,aA hg q.c2 hne,aA hg q.c3 hne,aA hg q.c4 hne,aA hg q.c5 hne,aA hg q.c6 hne,aA hg q.c7 hne⟩
theorem RSt.aJe{va:OA}{vn vc:Nat}{da:OA}{s:MSt Bk}(h:RSt W va vn vc da s):RSt W' va vn vc da s:=by
 obtain⟨L,h1,h2,h3,h4⟩:=h;exact⟨L,h1,h2.aJe hX hg,h3.aJe hX hg,h4⟩
theorem LRs.aJe{ps:List RS}(h:LRs W ps):LRs W' ps:=λp hp=>RSt.aJe hX hg (h p hp)
end
theorem mI.grownT{W W':Wd}{X:Nat}{t:TypeId}{a:OA}{ps:List RS}(h:mI W a ps)(ht:jH W X t)(hne:31≠t)(hg:W.grownBy W' (some X)):mI W' a ps:=by
 refine⟨h.1,h.2.imp id λ⟨g,o,h1,hty,h2⟩=> ?_⟩;have hn:g≠X:=hty.ne ht hne;exact⟨g,o,h1,hty.grown hg hn,λk p hk=>(h2 k p hk).grown hg hn⟩
theorem RMd.grownT{W W':Wd}{X:Nat}{t:TypeId}{p:RS}{pa:OA}{ps:List RS}{m:Mo Bk}(h:RMd W p pa ps m)(hX:OdN W X)(ht:jH W X t)(hne:31≠t)(hg:W.grownBy W' (some X)):RMd W' p pa ps m:=
 ⟨h.cur,h.past,RSt.aJe hX hg h.st,h.row.grownT ht hne hg,h.all.aJe hX hg⟩
structure NX(w W:Wd)(va:OA)(vn vc:Nat)(da:OA)(dc:Nat)(s:MSt Bk)(c:Cmd Bk)(a:OA)(k:Nat)(u v x:Value):Prop where
 bx:Bx3 W w 31 s.F.N (.slice va vn vc) (.slice da s.F.N dc)
 cb:CB W (cf w) c a k
 rb:Bx3 W (ch w) 31 oo sn sn
 ob:Bx3 W (ci w) 31 u v x
 st:RSt W va vn vc da s
 dat:RdB W a c.data
 g:Below w w W
theorem Ko:3≠31:=dE
section
variable{w W W':Wd}{va:OA}{vn vc:Nat}{da:OA}{dc:Nat}{s:MSt Bk}{c:Cmd Bk}{a:OA}{k:Nat}{u v x:Value}
theorem NX.aIx(h:NX w W va vn vc da dc s c a k u v x)(hb:Below W W W'):NX w W' va vn vc da dc s c a k u v x:=
 ⟨h.bx.aIx hb,h.cb.aIx hb,h.rb.aIx hb,h.ob.aIx hb,h.st.keep hb,h.dat.keep hb,h.g.on hb⟩
theorem NX.fam(h:NX w W va vn vc da dc s c a k u v x):cB W (.agg #[s.F.N,.slice va vn vc]) s.F:=by
 obtain⟨_,_,h2,_⟩:=h.st;exact h2
theorem NX.init(w:Wd)(va:OA)(vn vc:Nat)(da:OA)(dc:Nat)(s:MSt Bk)(c:Cmd Bk)(a:OA)(k:Nat)(h:RSt w va vn vc da s)(hd:RdB w a c.data)(W:Wd)(hW:W=(((w.alloc (cq #[s.F.N,.slice va vn vc,.slice da s.F.N dc] 31)).alloc (.cells (bB c a k) 48)).alloc (cq #[oo,sn,sn] 31)).alloc (cq #[s.F.N,.slice va vn vc,.slice da s.F.N dc] 31)):
  NX w W va vn vc da dc s c a k s.F.N (.slice va vn vc) (.slice da s.F.N dc):=by
 subst hW;have h1:=(bQ w).aIw (cq #[s.F.N,.slice va vn vc,.slice da s.F.N dc] 31);have o1:=Bx3.new w _ rfl s.F.N (.slice va vn vc) (.slice da s.F.N dc) 31;have z1:(w.alloc (cq #[s.F.N,.slice va vn vc,.slice da s.F.N dc] 31)).heap.size=w.heap.size+1:=by simp
 generalize w.alloc (cq #[s.F.N,.slice va vn vc,.slice da s.F.N dc] 31)=W1 at *;have h2:=(bQ W1).aIw (.cells (bB c a k) 48);have o2:=CB.new W1 _ z1 c a k 48;have z2:(W1.alloc (.cells (bB c a k) 48)).heap.size=w.heap.size+1+1:=by simp[z1]
 generalize W1.alloc (.cells (bB c a k) 48)=W2 at *;have h3:=(bQ W2).aIw (cq #[oo,sn,sn] 31);have o3:=Bx3.new W2 _ z2 oo sn sn 31;have z3:(W2.alloc (cq #[oo,sn,sn] 31)).heap.size=w.heap.size+1+1+1:=by simp[z2]
 generalize W2.alloc (cq #[oo,sn,sn] 31)=W3 at *;have h4:=(bQ W3).aIw (cq #[s.F.N,.slice va vn vc,.slice da s.F.N dc] 31);have hk:=((h1.on h2).on h3).on h4;exact⟨((o1.aIx h2).aIx h3).aIx h4,(o2.aIx h3).aIx h4,o3.aIx h4,Bx3.new W3 _ z3 _ _ _ _,h.keep hk,hd.keep hk,hk⟩
theorem NX.put2(h:NX w W va vn vc da dc s c a k u v x)(hx:∀j d,x≠ .int j d)(u' v':Value):NX w (fP W (ci w) u' v') va vn vc da dc s c a k u' v' x:=by
 have hg:=iE W (ci w) u' v';have ho:=h.ob.odN Ko hx;exact⟨h.bx.grown hg (λe=>by injection e with e;omega),h.cb.grown hg oM,h.rb.grown hg (λe=>by injection e with e;omega),(h.ob.put0 u').put1 v',h.st.aJe ho hg,h.dat.aJe ho hg,((h.g.setCell sO _).setCell sO _)⟩
theorem NX.famput(h:NX w W va vn vc da dc s c a k u v x)(hx:∀j d,x≠ .int j d)(u' v':Value){gv:Value}{G:Fam}(hf:cB W gv G):cB (fP W (ci w) u' v') gv G:=
 hf.aJe (h.ob.odN Ko hx) (iE W (ci w) u' v')
theorem NX.put3(h:NX w W va vn vc da dc s c a k u v x)(hx:∀j d,x≠ .int j d)(u' v' x':Value):NX w (xX W (ci w) u' v' x') va vn vc da dc s c a k u' v' x':=by
 have hg:=dY W (ci w) u' v' x';have ho:=h.ob.odN Ko hx;exact⟨h.bx.grown hg (λe=>by injection e with e;omega),h.cb.grown hg oM,h.rb.grown hg (λe=>by injection e with e;omega),h.ob.rep u' v' x',h.st.aJe ho hg,h.dat.aJe ho hg,(((h.g.setCell sO _).setCell sO _).setCell sO _)⟩
theorem NX.stput(h:NX w W va vn vc da dc s c a k u v x)(hx:∀j d,x≠ .int j d)(u' v' x':Value){va':OA}{vn' vc':Nat}{da':OA}{t:MSt Bk}(hs:RSt W va' vn' vc' da' t):RSt (xX W (ci w) u' v' x') va' vn' vc' da' t:=
 hs.aJe (h.ob.odN Ko hx) (dY W (ci w) u' v' x')
end
def Bl(s:MSt Bk)(c:Cmd Bk)(x0:Int)(R:List Bk)(w:Wd)(e:Ending)(w':Wd):Prop:=
 ∃va vn vc da dc s' a k,e= .returned (.tuple #[rsV s'.F.N va vn vc da dc,.slice a R k,x0])/\RSt w' va vn vc da s'/\(if c.kd=1∨c.kd=4 then s'=s else Nx Bk.zero s c s')/\RdB w' a R/\Below w w w'
theorem NX.done{w W:Wd}{va:OA}{vn vc:Nat}{da:OA}{dc:Nat}{s:MSt Bk}{c:Cmd Bk}{a:OA}{k:Nat}{u v x:Value}(h:NX w W va vn vc da dc s c a k u v x){va':OA}{vn' vc':Nat}{da':OA}{dc':Nat}{t:MSt Bk}(hs:RSt W va' vn' vc' da' t){ar:OA}{kr:Nat}{R:List Bk}(hr:RdB W ar R){x0:Int}(hq:if c.kd=1∨c.kd=4 then t=s else Nx Bk.zero s c t){m:Nat}(hm:m=t.F.N):
  Bl s c x0 R w (.returned (.tuple #[.agg #[t.F.N,.slice va' vn' vc',.slice da' m dc'],.slice ar R kr,x0])) (xX W (ch w) t.F.N (.slice va' vn' vc') (.slice da' m dc')):=by
 subst hm;have hg:=dY W (ch w) t.F.N (.slice va' vn' vc') (.slice da' t.F.N dc');have ho:=h.rb.odN Ko (λj d e=>by cases e);exact⟨va',vn',vc',da',dc',t,ar,kr,rfl,hs.aJe ho hg,hq,hr.aJe ho hg,((h.g.setCell sO _).setCell sO _).setCell sO _⟩
section
variable(va:OA)(vn vc:Nat)(da:OA)(dc:Nat)(s:MSt Bk)(tag ao:Int)(af:Bool)(vol oth:LU)(p n:Int)(data:List Bk)(a:OA)(k:Nat)(w:Wd)
theorem Wo(h:RSt w va vn vc da s)(hd:RdB w a data):
  ep 38 #[rsV s.F.N va vn vc da dc,cmV ⟨tag,4,ao,af,vol,oth,p,n,data⟩ a k] w (Bl s ⟨tag,4,ao,af,vol,oth,p,n,data⟩ 0 [] w):=by
 have HA:=hD (NX.init w va vn vc da dc s ⟨tag,4,ao,af,vol,oth,p,n,data⟩ a k h hd _ rfl);clear h hd;unfold cmV;unfold bB at HA;simp only at HA ⊢;go_enter func38,ntmps38;go_upto_region 3 with fail;generalize (((w.alloc (cq #[s.F.N,.slice va vn vc,.slice da s.F.N dc] 31)).alloc (cq #[tag,.int .i64 4,ao,.bool af,nmV vol,nmV oth,p,n,.slice a data k] 48)).alloc (cq #[oo,sn,sn] 31)).alloc (cq #[s.F.N,.slice va vn vc,.slice da s.F.N dc] 31)=W at HA ⊢;obtain⟨⟨b0,b1,b2,-,-,-,-,-⟩,⟨c0,c1,c2,c3,c4,c5,c6,c7,c8⟩,⟨r0,r1,r2,h0,h1,h2,-,-⟩,⟨o0,o1,o2,f0,f1,f2,-,-⟩,-,-,-⟩:=HA.o;simp only at c0 c1 c2 c3 c4 c5 c6 c7 c8;go_wp2_with fail;have j0:=(HA.o.rb.rep s.F.N (.slice va vn vc) (.slice da s.F.N dc)).c0;have j1:=(HA.o.rb.rep s.F.N (.slice va vn vc) (.slice da s.F.N dc)).c1;have j2:=(HA.o.rb.rep s.F.N (.slice va vn vc) (.slice da s.F.N dc)).c2;refine br (.tuple #[.agg #[s.F.N,.slice va vn vc,.slice da s.F.N dc],sn,oo]) ?_;exact NX.done (R:=[]) HA.o HA.o.st ⟨sM,.inl rfl⟩ (by rw[Qf (.inr rfl)]) rfl
theorem Ws(hF:s.F.ok)(h:RSt w va vn vc da s)(hd:RdB w a data)(hv:vol.length<=maxLen)(hp:0<=p/\p<=65536)(hm:0<=n/\n<=16)(x0:Int)(he:(dP s.F vol p n).2=x0)(R:List Bk)(hR:(if x0=0 then vD Bk.zero s vol p n else [])=R):
  ep 38 #[rsV s.F.N va vn vc da dc,cmV ⟨tag,1,ao,af,vol,oth,p,n,data⟩ a k] w (Bl s ⟨tag,1,ao,af,vol,oth,p,n,data⟩ x0 R w):=by
 obtain⟨nn,hnn⟩:=Qr hm.1;have HRR:=hD (λW (h:RSt W va vn vc da s)=>Oh va vn vc da dc s vol p nn W hF h hv hp oM x0 (by rw[<-hnn];exact he));rw[<-hnn,hR]at HRR;clear hF hv hp hm he hR hnn;have HA:=hD (NX.init w va vn vc da dc s ⟨tag,1,ao,af,vol,oth,p,n,data⟩ a k h hd _ rfl);clear h hd;unfold cmV;unfold bB at HA;simp only at HA ⊢;go_enter func38,ntmps38;go_upto_region 3 with fail;generalize (((w.alloc (cq #[s.F.N,.slice va vn vc,.slice da s.F.N dc] 31)).alloc (cq #[tag,ol,ao,.bool af,nmV vol,nmV oth,p,n,.slice a data k] 48)).alloc (cq #[oo,sn,sn] 31)).alloc (cq #[s.F.N,.slice va vn vc,.slice da s.F.N dc] 31)=W at HA ⊢;obtain⟨⟨b0,b1,b2,-,-,-,-,-⟩,⟨c0,c1,c2,c3,c4,c5,c6,c7,c8⟩,⟨r0,r1,r2,h0,h1,h2,-,-⟩,⟨o0,o1,o2,f0,f1,f2,-,-⟩,-,-,-⟩:=HA.o;simp only at c0 c1 c2 c3 c4 c5 c6 c7 c8;go_wp2_with fail;refine(HRR.o _ HA.o.st).m ?_;rintro e w1 ⟨ar,kr,rfl,hrd,hb⟩;have HA1:=hD (HA.o.aIx hb);have HR:=hD hrd;clear hb hrd;clear b0 b1 b2 c0 c1 c2 c3 c4 c5 c6 c7 c8 r0 r1 r2 h0 h1 h2 o0 o1 o2 f0 f1 f2;obtain⟨⟨b0,b1,b2,-,-,-,-,-⟩,⟨c0,c1,c2,c3,c4,c5,c6,c7,c8⟩,⟨r0,r1,r2,h0,h1,h2,-,-⟩,⟨o0,o1,o2,f0,f1,f2,-,-⟩,-,-,-⟩:=HA1.o;simp only at c0 c1 c2 c3 c4 c5 c6 c7 c8;go_wp2_with fail;clear b0 b1 b2 c0 c1 c2 c3 c4 c5 c6 c7 c8 r0 r1 r2 h0 h1 h2 o0 o1 o2 f0 f1 f2;have j0:=(HA1.o.rb.rep s.F.N (.slice va vn vc) (.slice da s.F.N dc)).c0;have j1:=(HA1.o.rb.rep s.F.N (.slice va vn vc) (.slice da s.F.N dc)).c1;have j2:=(HA1.o.rb.rep s.F.N (.slice va vn vc) (.slice da s.F.N dc)).c2;refine br (.tuple #[.agg #[s.F.N,.slice va vn vc,.slice da s.F.N dc],.slice ar R kr,x0]) ?_;exact NX.done (R:=R) HA1.o HA1.o.st HR.o (by rw[Qf (.inl rfl)]) rfl
end
theorem RSt.fam{w:Wd}{va:OA}{vn vc:Nat}{da:OA}{s:MSt Bk}(h:RSt w va vn vc da s){ra:OA}{rn rc:Nat}{G:Fam}(hg:cB w (.agg #[G.N,.slice ra rn rc]) G)(hN:G.N=s.F.N):RSt w ra rn rc da ⟨G,s.D⟩:=by
 obtain⟨L,h1,_,h3,h4⟩:=h;exact⟨L,h1.trans hN.symm,hg,h3,h4⟩
theorem Vb{F:Fam}{nm:LU}{n r:Int}:(aW F nm n r).2=0->(aW F nm n r).1.N=F.N:=by
 unfold aW
 repeat' (first|(intro h;first|(rfl;done)|(simp at h;done))|split)
theorem Zw{F:Fam}{nm ot:LU}:(bJ F nm ot).2=0->(bJ F nm ot).1.N=F.N:=by
 unfold bJ;exact Ky
theorem UX{F:Fam}{nm:LU}:(aZ F nm).2.2=0->(aZ F nm).1.N=F.N:=by
 unfold aZ
 cases aN F.vs nm with
 |none=>intro h;simp at h
 |some v=>intro _;rfl
theorem Vz{F:Fam}{nm:LU}{p n:Int}:(bS F nm p n).2.2=0->(bS F nm p n).1.N=F.N:=by
 unfold bS;exact Ky
theorem Nx.no{α:Type}{z:α}{s:MSt α}{c:Cmd α}(h:fE s.F c≠0):Nx z s c s:=⟨λ_=>rfl,λq=>absurd q h⟩
section
variable(va:OA)(vn vc:Nat)(da:OA)(dc:Nat)(s:MSt Bk)(tag ao:Int)(af:Bool)(vol oth:LU)(p n:Int)(data:List Bk)(a:OA)(k:Nat)(w:Wd)
theorem Wp(hF:s.F.ok)(h:RSt w va vn vc da s)(hd:RdB w a data)(hv:vol.length<=maxLen)(x0:Int)(he:fE s.F (⟨tag,3,ao,af,vol,oth,p,n,data⟩:Cmd Bk)=x0):
  ep 38 #[rsV s.F.N va vn vc da dc,cmV ⟨tag,3,ao,af,vol,oth,p,n,data⟩ a k] w (Bl s ⟨tag,3,ao,af,vol,oth,p,n,data⟩ x0 [] w):=by
 obtain⟨G,hG⟩:∃G,(bS s.F vol p n).1=G:=⟨_,rfl⟩;have hx:(bS s.F vol p n).2.2=x0:=he;have HUN:=hD (λgv W (h:cB W gv s.F)=>Ty s.F gv vol p n W hF h hv);rw[hG,hx]at HUN;have HGN:Hid (x0=0->G.N=s.F.N):=hD λq=>by rw[<-hG];exact Vz (hx.trans q)
 have HNX:Hid (x0=0->Nx Bk.zero s ⟨tag,3,ao,af,vol,oth,p,n,data⟩ ⟨G,s.D⟩):=hD λq=>⟨λq2=>absurd (he.trans q) q2,λ_=>by
  rw[Qe sM,<-hG]
  rfl⟩
 have HNN:Hid (x0≠0->Nx Bk.zero s ⟨tag,3,ao,af,vol,oth,p,n,data⟩ s):=hD λq=>Nx.no (λq2=>q (he.symm.trans q2));clear hF he hG hx hv;have HA:=hD (NX.init w va vn vc da dc s ⟨tag,3,ao,af,vol,oth,p,n,data⟩ a k h hd _ rfl);clear h hd;unfold cmV;unfold bB at HA;simp only at HA ⊢;go_enter func38,ntmps38;go_upto_region 3 with fail;generalize (((w.alloc (cq #[s.F.N,.slice va vn vc,.slice da s.F.N dc] 31)).alloc (cq #[tag,.int .i64 3,ao,.bool af,nmV vol,nmV oth,p,n,.slice a data k] 48)).alloc (cq #[oo,sn,sn] 31)).alloc (cq #[s.F.N,.slice va vn vc,.slice da s.F.N dc] 31)=W at HA ⊢;exact aDs
theorem Wl(hF:s.F.ok)(h:RSt w va vn vc da s)(hd:RdB w a data)(hv:vol.length<=maxLen)(x0:Int)(he:fE s.F (⟨tag,7,ao,af,vol,oth,p,n,data⟩:Cmd Bk)=x0):
  ep 38 #[rsV s.F.N va vn vc da dc,cmV ⟨tag,7,ao,af,vol,oth,p,n,data⟩ a k] w (Bl s ⟨tag,7,ao,af,vol,oth,p,n,data⟩ x0 [] w):=by
 obtain⟨G,hG⟩:∃G,(aZ s.F vol).1=G:=⟨_,rfl⟩;have hx:(aZ s.F vol).2.2=x0:=he;have HUN:=hD (λgv W (h:cB W gv s.F)=>Om s.F gv vol W hF h hv);rw[hG,hx]at HUN;have HGN:Hid (x0=0->G.N=s.F.N):=hD λq=>by rw[<-hG];exact UX (hx.trans q)
 have HNX:Hid (x0=0->Nx Bk.zero s ⟨tag,7,ao,af,vol,oth,p,n,data⟩ ⟨G,s.D⟩):=hD λq=>⟨λq2=>absurd (he.trans q) q2,λ_=>by
  rw[Qe sM,<-hG]
  rfl⟩
 have HNN:Hid (x0≠0->Nx Bk.zero s ⟨tag,7,ao,af,vol,oth,p,n,data⟩ s):=hD λq=>Nx.no (λq2=>q (he.symm.trans q2));clear hF he hG hx hv;have HA:=hD (NX.init w va vn vc da dc s ⟨tag,7,ao,af,vol,oth,p,n,data⟩ a k h hd _ rfl);clear h hd;unfold cmV;unfold bB at HA;simp only at HA ⊢;go_enter func38,ntmps38;go_upto_region 3 with fail;generalize (((w.alloc (cq #[s.F.N,.slice va vn vc,.slice da s.F.N dc] 31)).alloc (cq #[tag,.int .i64 7,ao,.bool af,nmV vol,nmV oth,p,n,.slice a data k] 48)).alloc (cq #[oo,sn,sn] 31)).alloc (cq #[s.F.N,.slice va vn vc,.slice da s.F.N dc] 31)=W at HA ⊢;exact aDs
theorem Wn(hF:s.F.ok)(h:RSt w va vn vc da s)(hd:RdB w a data)(hv:vol.length<=maxLen)(x0:Int)(he:fE s.F (⟨tag,5,ao,af,vol,oth,p,n,data⟩:Cmd Bk)=x0):
  ep 38 #[rsV s.F.N va vn vc da dc,cmV ⟨tag,5,ao,af,vol,oth,p,n,data⟩ a k] w (Bl s ⟨tag,5,ao,af,vol,oth,p,n,data⟩ x0 [] w):=by
 obtain⟨G,hG⟩:∃G,(aW s.F vol n p).1=G:=⟨_,rfl⟩;obtain⟨x1,hx1⟩:∃x,(aW s.F vol n p).2=x:=⟨_,rfl⟩;obtain⟨y0,hy0⟩:∃x,fG s.F n p=x:=⟨_,rfl⟩;have hx:crE s.F vol n p=x0:=he;have HUN:=hD (λgv W (h:cB W gv s.F)=>Oo s.F gv vol n p W hF h hv);rw[hG,hx1]at HUN;have HCC:=hD (λgv W (h:cB W gv s.F)=>Ox s.F y0 gv n p W hF h hy0);have HXX:Hid (x1=0->y0=x0):=hD λq=>by rw[<-hx,<-hy0];unfold crE;rw[hx1,Qf q]
 have HXN:Hid (x1≠0->x1=x0):=hD λq=>by rw[<-hx];unfold crE;rw[hx1,Qe q]
 have HGN:Hid (x0=0->G.N=s.F.N):=hD λq=>by rw[<-hG];exact Vb (xN (hx.trans q)).1
 have HNX:Hid (x0=0->Nx Bk.zero s ⟨tag,5,ao,af,vol,oth,p,n,data⟩ ⟨G,s.D⟩):=hD λq=>⟨λq2=>absurd (he.trans q) q2,λ_=>by
  rw[Qe sM,<-hG]
  rfl⟩
 have HNN:Hid (x0≠0->Nx Bk.zero s ⟨tag,5,ao,af,vol,oth,p,n,data⟩ s):=hD λq=>Nx.no (λq2=>q (he.symm.trans q2));clear hF he hG hx hv hx1 hy0;have HA:=hD (NX.init w va vn vc da dc s ⟨tag,5,ao,af,vol,oth,p,n,data⟩ a k h hd _ rfl);clear h hd;unfold cmV;unfold bB at HA;simp only at HA ⊢;go_enter func38,ntmps38;go_upto_region 3 with fail;generalize (((w.alloc (cq #[s.F.N,.slice va vn vc,.slice da s.F.N dc] 31)).alloc (cq #[tag,.int .i64 5,ao,.bool af,nmV vol,nmV oth,p,n,.slice a data k] 48)).alloc (cq #[oo,sn,sn] 31)).alloc (cq #[s.F.N,.slice va vn vc,.slice da s.F.N dc] 31)=W at HA ⊢;obtain⟨⟨b0,b1,b2,-,-,-,-,-⟩,⟨c0,c1,c2,c3,c4,c5,c6,c7,c8⟩,⟨r0,r1,r2,h0,h1,h2,-,-⟩,⟨o0,o1,o2,f0,f1,f2,-,-⟩,-,-,-⟩:=HA.o;simp only at c0 c1 c2 c3 c4 c5 c6 c7 c8;go_wp2_with fail;refine(HUN.o _ _ HA.o.fam).m ?_;rintro e w1 ⟨gv,rfl,hg,hb⟩;obtain⟨ra,rn,rc,rfl⟩:=hg.form;have HA1:=hD (HA.o.aIx hb);have HG:=hD hg;clear hb hg;clear b0 b1 b2 c0 c1 c2 c3 c4 c5 c6 c7 c8 r0 r1 r2 h0 h1 h2 o0 o1 o2 f0 f1 f2;obtain⟨⟨b0,b1,b2,-,-,-,-,-⟩,⟨c0,c1,c2,c3,c4,c5,c6,c7,c8⟩,⟨r0,r1,r2,h0,h1,h2,-,-⟩,⟨o0,o1,o2,f0,f1,f2,-,-⟩,-,-,-⟩:=HA1.o;simp only at c0 c1 c2 c3 c4 c5 c6 c7 c8;go_upto_region 13 with fail;exact aDt
theorem Wm(hF:s.F.ok)(h:RSt w va vn vc da s)(hd:RdB w a data)(hv:vol.length<=maxLen)(ho:oth.length<=maxLen)(x0:Int)(he:fE s.F (⟨tag,6,ao,af,vol,oth,p,n,data⟩:Cmd Bk)=x0):
  ep 38 #[rsV s.F.N va vn vc da dc,cmV ⟨tag,6,ao,af,vol,oth,p,n,data⟩ a k] w (Bl s ⟨tag,6,ao,af,vol,oth,p,n,data⟩ x0 [] w):=by
 obtain⟨G,hG⟩:∃G,(bJ s.F vol oth).1=G:=⟨_,rfl⟩;obtain⟨x1,hx1⟩:∃x,(bJ s.F vol oth).2=x:=⟨_,rfl⟩;obtain⟨y0,hy0⟩:∃x,eD s.F vol=x:=⟨_,rfl⟩;have hx:clE s.F vol oth=x0:=he;have HUN:=hD (λgv W (h:cB W gv s.F)=>TK s.F gv vol oth W hF h hv ho);rw[hG,hx1]at HUN;have HCC:=hD (λgv W (h:cB W gv s.F)=>TQ s.F y0 gv vol W hF h hv hy0);have HXX:Hid (x1=0->y0=x0):=hD λq=>by rw[<-hx,<-hy0];unfold clE;rw[hx1,Qf q]
 have HXN:Hid (x1≠0->x1=x0):=hD λq=>by rw[<-hx];unfold clE;rw[hx1,Qe q]
 have HGN:Hid (x0=0->G.N=s.F.N):=hD λq=>by rw[<-hG];exact Zw (xQ (hx.trans q)).1
 have HNX:Hid (x0=0->Nx Bk.zero s ⟨tag,6,ao,af,vol,oth,p,n,data⟩ ⟨G,s.D⟩):=hD λq=>⟨λq2=>absurd (he.trans q) q2,λ_=>by
  rw[Qe sM,<-hG]
  rfl⟩
 have HNN:Hid (x0≠0->Nx Bk.zero s ⟨tag,6,ao,af,vol,oth,p,n,data⟩ s):=hD λq=>Nx.no (λq2=>q (he.symm.trans q2));clear hF he hG hx hv ho hx1 hy0;have HA:=hD (NX.init w va vn vc da dc s ⟨tag,6,ao,af,vol,oth,p,n,data⟩ a k h hd _ rfl);clear h hd;unfold cmV;unfold bB at HA;simp only at HA ⊢;go_enter func38,ntmps38;go_upto_region 3 with fail;generalize (((w.alloc (cq #[s.F.N,.slice va vn vc,.slice da s.F.N dc] 31)).alloc (cq #[tag,.int .i64 6,ao,.bool af,nmV vol,nmV oth,p,n,.slice a data k] 48)).alloc (cq #[oo,sn,sn] 31)).alloc (cq #[s.F.N,.slice va vn vc,.slice da s.F.N dc] 31)=W at HA ⊢;obtain⟨⟨b0,b1,b2,-,-,-,-,-⟩,⟨c0,c1,c2,c3,c4,c5,c6,c7,c8⟩,⟨r0,r1,r2,h0,h1,h2,-,-⟩,⟨o0,o1,o2,f0,f1,f2,-,-⟩,-,-,-⟩:=HA.o;simp only at c0 c1 c2 c3 c4 c5 c6 c7 c8;go_wp2_with fail;refine(HUN.o _ _ HA.o.fam).m ?_;rintro e w1 ⟨gv,rfl,hg,hb⟩;obtain⟨ra,rn,rc,rfl⟩:=hg.form;have HA1:=hD (HA.o.aIx hb);have HG:=hD hg;clear hb hg;clear b0 b1 b2 c0 c1 c2 c3 c4 c5 c6 c7 c8 r0 r1 r2 h0 h1 h2 o0 o1 o2 f0 f1 f2;obtain⟨⟨b0,b1,b2,-,-,-,-,-⟩,⟨c0,c1,c2,c3,c4,c5,c6,c7,c8⟩,⟨r0,r1,r2,h0,h1,h2,-,-⟩,⟨o0,o1,o2,f0,f1,f2,-,-⟩,-,-,-⟩:=HA1.o;simp only at c0 c1 c2 c3 c4 c5 c6 c7 c8;go_upto_region 17 with fail;exact aDt
end
end Go.Proofs.YtphfgbbbejloaaaGreatDoor
