/- tegularef36: Create, Clone. Conditions: as each theorem says. -/
import Derived.Test.YtphfgbbbejloaaaGreatDoorGSp
set_option linter.unusedSimpArgs false
set_option linter.unusedVariables false
set_option linter.unusedSectionVars false
set_option maxRecDepth 100000
set_option maxHeartbeats 16000000
namespace Go.Proofs.YtphfgbbbejloaaaGreatDoor
open Go.RowKit Go.Maps
open Go.Proofs.Tryz
variable[Gst]
theorem sh66{P:Prop}(h:P:=by rw[Gm _ _ (wY HF.o HTS.o),HTS.o];rfl):P:=h
theorem sh61{P:Prop}(h:P:=by
  go_wp2_with fail;refine(gV F.N ts nm a c _ (HR.o.keep HH.o.rg.bel) _ HAT.o).m ?_;rintro e w1 ⟨rfl,hb⟩;have HH:=hD (HH.o.aIx hb);clear hb;obtain⟨b0,b1,⟨r0,r1,f0,f1,-,-,-⟩⟩:=HH.o;go_wp2_with fail;obtain⟨j0,j1⟩:=HH.o.rg.cells (u:=oo) (v:=sn);refine br (.tuple #[.agg #[oo,sn],sn,.int .i64 9]) ?_;exact⟨_,_,rfl,cB.empty _ 0,aG.nil _ _,HH.o.rg.below⟩
  ):P:=h
theorem sh62{P:Prop}(h:P:=by
  obtain⟨j0,j1⟩:=HH.o.rg.cells (u:=oo) (v:=sn);refine br (.tuple #[.agg #[oo,sn],sn,ow]) ?_;exact⟨_,_,rfl,cB.empty _ 0,aG.nil _ _,HH.o.rg.below⟩
  ):P:=h
theorem sh63{P:Prop}(h:P:=by
  obtain⟨b0,b1,⟨r0,r1,f0,f1,-,-,-⟩⟩:=HH.o;go_wp2_with fail;obtain⟨j0,j1⟩:=HH.o.rg.cells (u:=oo) (v:=sn);refine br (.tuple #[.agg #[oo,sn],.int .i64 10]) ?_;exact⟨_,rfl,cB.empty _ 0,HH.o.rg.below⟩
  ):P:=h
theorem aFz{P:Prop}(h:P:=by
  obtain⟨b0,b1,⟨r0,r1,f0,f1,-,-,-⟩⟩:=HH.o;go_wp2_with fail;obtain⟨j0,j1⟩:=HH.o.rg.cells (u:=oo) (v:=sn);refine br (.tuple #[.agg #[oo,sn],.int .i64 7]) ?_;exact⟨_,rfl,cB.empty _ 0,HH.o.rg.below⟩
  ):P:=h
theorem sh65{P:Prop}(h:P:=by
  obtain⟨b0,b1,⟨r0,r1,f0,f1,-,-,-⟩⟩:=HH.o;go_wp2_with fail;obtain⟨j0,j1⟩:=HH.o.rg.cells (u:=oo) (v:=sn);refine br (.tuple #[.agg #[oo,sn],ol]) ?_;exact⟨_,rfl,cB.empty _ 0,HH.o.rg.below⟩
  ):P:=h
structure GH(w W:Wd)(a:OA)(n:Int)(m c R:Nat):Prop where
 b0:W (cw w 0)=n
 b1:W (cw w 1)=some (.slice a m c)
 rg:RG w W R
theorem GH.aIx{w W W':Wd}{a:OA}{n:Int}{m c R:Nat}(h:GH w W a n m c R)(hb:Below W W W'):GH w W' a n m c R:=
 ⟨hb.keep h.b0,hb.keep h.b1,h.rg.aIx hb⟩
theorem GH.init(w:Wd)(a:OA)(n:Int)(m c:Nat):GH w ((w.alloc (cq #[n,.slice a m c] 28)).alloc (cq #[oo,sn] 28)) a n m c (w.heap.size+1):=by
 have h:=RG.new w (w.alloc (cq #[n,.slice a m c] 28)) 28 (bR.aIw _);rw[show(w.alloc (cq #[n,.slice a m c] 28)).heap.size=w.heap.size+1 by simp]at h;have k:∀i,((w.alloc (cq #[n,.slice a m c] 28)).alloc (cq #[oo,sn] 28)).cell? (cw w i)=(w.alloc (cq #[n,.slice a m c] 28)).cell? (cw w i):=λi=>Ya _ _ _ sM;exact⟨(k 0).trans sM,(k 1).trans sM,h⟩
theorem gV(N:Int)(ts:List RT)(nm:LU)(a:OA)(c:Nat)(w:Wd)(hr:RdR w a ts)(r:Int)(h:atC ts nm=r):
  ep 57 #[.agg #[N,.slice a ts c],nmV nm] w (RB w r):=by
 subst h;exact aGl N ts nm a c w hr
theorem lS(nm:LU)(w:Wd)(hn:nm.length<=maxLen)(b:Bool)(h:bC nm=b):ep 103 #[nmV nm] w (RB w (.bool b)):=by
 subst h;exact TG nm w hn
theorem xL{F:Fam}{ts:List RT}{v:RT}{w:Wd}{a:OA}{c:Nat}(hF:F.ok)(h:ts.map RT.vol=F.vs)(hr:RdR w a (iF ts v))(hl:nC w ts)(hv:Rd w v.a v.l)(hc:(iF ts v).length<=c):
  cB w (.agg #[F.N,.slice a (iF ts v).length c]) ⟨F.N,fV F.vs v.vol⟩:=
 ⟨a,c,iF ts v,rfl,hr,λx hx=>(BK hx).elim (λe=>by rw[e];exact hv) (hl x),by rw[Gm ts v (wY hF h),h],hc⟩
theorem aGk(w:Wd):Rd w none []:=⟨sM,.inl rfl⟩
theorem Oo(F:Fam)(gv:Value)(nm:LU)(n r:Int)(w:Wd)(hF:F.ok)(h:cB w gv F)(hnm:nm.length<=maxLen):
    ep 65 #[gv,nmV nm,n,r] w (aHo w (aW F nm n r).1 (aW F nm n r).2):=by
  obtain⟨a,c,ts,rfl,hr,hl,hts,_⟩:=h;have h32:=(kE hF hts).2;have HLEN:=hD (kE hF hts).1;have HH:=hD (GH.init w a F.N ts.length c);have HR:=hD hr;have HL:=hD hl;have HTS:=hD hts;have HF:=hD hF;clear hr hl hts hF;cases hnb:bC nm
  · rw[show aW F nm n r=(eP,1) by simp[aW,hnb]];have HN:=hD hnb;clear hnb;go_enter func65,ntmps65;go_wp2_with fail;refine(lS nm _ hnm false HN.o).m ?_;rintro e w1 ⟨rfl,hb⟩;have HH:=hD (HH.o.aIx hb);clear hb;exact sh65
  · cases hnn:BF n r
    · rw [show aW F nm n r=(eP,1) by simp[aW,hnn]];have hq:¬ (1<=n/\n<=65536/\0<=r/\r<=n):=Yh hnn;have HQ:=hD hq;have HN:=hD hnb;clear hnb hnn hq;go_enter func65,ntmps65;go_wp2_with fail;refine(lS nm _ hnm true HN.o).m ?_;rintro e w1 ⟨rfl,hb⟩;have HH:=hD (HH.o.aIx hb);clear hb;obtain⟨b0,b1,⟨r0,r1,f0,f1,-,-,-⟩⟩:=HH.o;go_wp2_with fail
      all_goals first
        |(exfalso;have:=HQ.o;omega)
        | (obtain⟨j0,j1⟩:=HH.o.rg.cells (u:=oo) (v:=sn)
           refine br (.tuple #[.agg #[oo,sn],ol]) ?_
           exact⟨_,rfl,cB.empty _ 0,HH.o.rg.below⟩)
    · obtain ⟨q1,q2,q3,q4⟩:1<=n/\n<=65536/\0<=r/\r<=n:=Qt hnn;have HN:=hD hnb
      cases hg:aN F.vs nm with
      | some v=>
        rw[show aW F nm n r=(eP,10) by simp[aW,hnb,hnn,hg]];obtain⟨k,hk,hat,_,_⟩:=gK HTS.o hg;have HAT:=hD hat;clear hnb hnn hg hat;go_enter func65,ntmps65;go_wp2_with fail;refine(lS nm _ hnm true HN.o).m ?_;rintro e w1 ⟨rfl,hb⟩;have HH:=hD (HH.o.aIx hb);clear hb;have b0:=HH.o.b0;have b1:=HH.o.b1;go_wp2_with fail;refine(gV F.N ts nm a c _ (HR.o.keep HH.o.rg.bel) _ HAT.o).m ?_;rintro e w2 ⟨rfl,hb⟩;have HH:=hD (HH.o.aIx hb);clear hb;clear b0 b1;exact sh63
      | none=>
        have HAT:=hD (mG HTS.o hg);by_cases h32':32<=F.vs.length
        · rw[show aW F nm n r=(eP,7) by simp[aW,hnb,hnn,hg,h32']];have hl32:32<=ts.length:=by have:=HLEN.o;omega
          clear hnb hnn hg;go_enter func65,ntmps65;go_wp2_with fail;refine(lS nm _ hnm true HN.o).m ?_;rintro e w1 ⟨rfl,hb⟩;have HH:=hD (HH.o.aIx hb);clear hb;have b0:=HH.o.b0;have b1:=HH.o.b1;go_wp2_with fail;refine(gV F.N ts nm a c _ (HR.o.keep HH.o.rg.bel) _ HAT.o).m ?_;rintro e w2 ⟨rfl,hb⟩;have HH:=hD (HH.o.aIx hb);clear hb;clear b0 b1;exact aFz
        · rw[show aW F nm n r=(⟨F.N,fV F.vs ⟨nm,n,r,[]⟩⟩,0) by simp[aW,hnb,hnn,hg,h32']];have hl32:ts.length<32:=by have:=HLEN.o;omega
          clear hnb hnn hg;go_enter func65,ntmps65;go_wp2_with fail;refine(lS nm _ hnm true HN.o).m ?_;rintro e w1 ⟨rfl,hb⟩;have HH:=hD (HH.o.aIx hb);clear hb;have b0:=HH.o.b0;have b1:=HH.o.b1;go_wp2_with fail;refine(gV F.N ts nm a c _ (HR.o.keep HH.o.rg.bel) _ HAT.o).m ?_;rintro e w2 ⟨rfl,hb⟩;have HH:=hD (HH.o.aIx hb);clear hb;clear b0 b1;have b0:=HH.o.b0;have b1:=HH.o.b1;go_wp2_with fail;refine(Aa F.N ts ⟨nm,n,r,none,0,[]⟩ a c _ (HR.o.keep HH.o.rg.bel) oM).m ?_;rintro e w3 ⟨a3,c3,rfl,hr3,hc3,hb⟩;have HFR:=hD (xL (c:=c3) HF.o HTS.o hr3 (HL.o.keep (HH.o.rg.bel.on hb)) (aGk _) hc3);have HH:=hD (HH.o.aIx hb);clear hb;clear b0 b1 hr3 hc3;obtain⟨b0,b1,⟨r0,r1,f0,f1,-,-,-⟩⟩:=HH.o;go_wp2_with fail;obtain⟨j0,j1⟩:=HH.o.rg.cells (u:=F.N) (v:= .slice a3 (iF ts ⟨nm,n,r,none,0,[]⟩).length c3);refine br (.tuple #[.agg #[F.N,.slice a3 (iF ts ⟨nm,n,r,none,0,[]⟩).length c3],oo]) ?_;exact⟨_,rfl,HH.o.rg.bx HFR.o,HH.o.rg.below⟩
structure VX(W:Wd)(X:Nat)(x:RT):Prop where
 x0:W (cw X 0)=some (nmV x.nm)
 x1:W (cw X 1)=x.n
 x2:W (cw X 2)=x.r
 x3:W (cw X 3)=some x.sl
 g0:W.frozen? (cw X 0)=false
 g2:W.frozen? (cw X 2)=false
 g3:W.frozen? (cw X 3)=false
theorem VX.lt{W:Wd}{X:Nat}{x:RT}(h:VX W X x):X<W.heap.size:=Qj W (cw X 0) h.x0
theorem VX.aIx{W W':Wd}{X:Nat}{x:RT}(h:VX W X x)(hb:Below W W W'):VX W' X x:=
 ⟨hb.keep h.x0,hb.keep h.x1,hb.keep h.x2,hb.keep h.x3,hb.aJc h.x0 h.g0,hb.aJc h.x2 h.g2,hb.aJc h.x3 h.g3⟩
theorem VX.new(V:Wd)(B:Nat)(hB:V.heap.size=B)(x:RT)(t:TypeId):VX (V.alloc (cq #[nmV x.nm,x.n,x.r,x.sl] t)) B x:=by
 subst hB;exact⟨sM,sM,sM,sM,sM,sM,sM⟩
theorem VX.list{W:Wd}{X:Nat}{x:RT}(h:VX W X x)(a:OA)(c:Nat)(l:List E):VX (W.setCell (cw X 3) (.slice a l c)) X ⟨x.nm,x.n,x.r,a,c,l⟩:=by
 have k:∀(j:Nat),3≠j->(W.setCell (cw X 3) (.slice a l c)).cell? (cw X j)=W (cw X j):=λj hij=>Qk _ _ _ _ (λe=>hij (Addr.mk.inj e).2.1);refine⟨(k 0 oM).trans h.x0,(k 1 oM).trans h.x1,(k 2 oM).trans h.x2,Qi _ _ _ h.x3,by rw[Qb];exact h.g0,by rw[Qb];exact h.g2,by rw[Qb];exact h.g3⟩
theorem RG.aJf{w W:Wd}{R X i:Nat}{u:Value}(h:RG w W R)(hX:R≠X)(hw:w.heap.size<=X):RG w (W.setCell (cw X i) u) R:=
 ⟨(cell_far hX).trans h.r0,(cell_far hX).trans h.r1,by rw[Qb];exact h.f0,by rw[Qb];exact h.f1,λj hj=>(cell_far hX).trans (h.r2 j hj),h.le,h.bel.setCell hw _⟩
theorem GH.aJf{w W:Wd}{a:OA}{n:Int}{m c R X i:Nat}{u:Value}(h:GH w W a n m c R)(hX:R<X):GH w (W.setCell (cw X i) u) a n m c R:=by
 have:=h.rg.le;exact⟨(cell_far sO).trans h.b0,(cell_far sO).trans h.b1,h.rg.aJf oM oM⟩
theorem GH.alloc{w W:Wd}{a:OA}{n:Int}{m c R:Nat}(h:GH w W a n m c R)(cs:Array Value)(t:TypeId):GH w (W.alloc (.cells cs t)) a n m c R:=h.aIx (bR.aIw _)
theorem MV(F:Fam)(nm other:LU):
    (aN F.vs nm=none/\bJ F nm other=(eP,9))∨ ∃v,aN F.vs nm=some v/\
      ((bC other=false/\bJ F nm other=(eP,1))∨(bC other=true/\ ∃u,aN F.vs other=some u/\bJ F nm other=(eP,10))∨
       (bC other=true/\aN F.vs other=none/\32<=F.vs.length/\bJ F nm other=(eP,7))∨
       (bC other=true/\aN F.vs other=none/\F.vs.length<32/\bJ F nm other=(⟨F.N,fV F.vs ⟨other,v.n,0,v.l⟩⟩,0))):=by
  unfold bJ
  cases hg:aN F.vs nm with
  |none=>exact .inl ⟨rfl,rfl⟩
  | some v=>
    refine .inr ⟨v,rfl,?_⟩;cases hn:bC other
    · exact .inl ⟨rfl,rfl⟩
    refine .inr ?_
    cases ho:aN F.vs other with
    |some u=>exact .inl ⟨rfl,u,rfl,rfl⟩
    | none=>
      by_cases h:32<=F.vs.length
      · exact .inr (.inl ⟨rfl,rfl,h,by simp[h]⟩)
      · exact .inr (.inr ⟨rfl,rfl,oM,by simp[h]⟩)
theorem TK(F:Fam)(gv:Value)(nm other:LU)(w:Wd)(hF:F.ok)(h:cB w gv F)(hnm:nm.length<=maxLen)(hot:other.length<=maxLen):
  ep 67 #[gv,nmV nm,nmV other] w (aHo w (bJ F nm other).1 (bJ F nm other).2):=by
 obtain⟨a,c,ts,rfl,hr,hl,hts,_⟩:=h;have h32:=(kE hF hts).2;have HLEN:=hD (kE hF hts).1;have HH:=hD (GH.init w a F.N ts.length c);have HR:=hD hr;have HL:=hD hl;have HTS:=hD hts;have HF:=hD hF;clear hr hl hts hF;rcases MV F nm other with ⟨hg,hc⟩|⟨v,hg,⟨hn,hc⟩|⟨hn,u,ho,hc⟩|⟨hn,ho,h9,hc⟩|⟨hn,ho,h9,hc⟩⟩
 ·rw[hc];have HAT:=hD (mG HTS.o hg);clear hg hc;go_enter func67,ntmps67;go_wp2_with fail;refine(gV F.N ts nm a c _ (HR.o.keep HH.o.rg.bel) _ HAT.o).m ?_;rintro e w1 ⟨rfl,hb⟩;have HH:=hD (HH.o.aIx hb);clear hb;obtain⟨b0,b1,⟨r0,r1,f0,f1,-,-,-⟩⟩:=HH.o;go_wp2_with fail;obtain⟨j0,j1⟩:=HH.o.rg.cells (u:=oo) (v:=sn);refine br (.tuple #[.agg #[oo,sn],.int .i64 9]) ?_;exact⟨_,rfl,cB.empty _ 0,HH.o.rg.below⟩
 ·rw[hc];obtain⟨k,hk,hat,_,_⟩:=gK HTS.o hg;have HAT:=hD hat;have HN:=hD hn;clear hg hc hat hn;go_enter func67,ntmps67;go_wp2_with fail;refine(gV F.N ts nm a c _ (HR.o.keep HH.o.rg.bel) _ HAT.o).m ?_;rintro e w1 ⟨rfl,hb⟩;have HH:=hD (HH.o.aIx hb);clear hb;obtain⟨b0,b1,⟨r0,r1,f0,f1,-,-,-⟩⟩:=HH.o;go_wp2_with fail;refine(lS other _ hot false HN.o).m ?_;rintro e w2 ⟨rfl,hb⟩;have HH:=hD (HH.o.aIx hb);clear hb;clear b0 b1 r0 r1 f0 f1;exact sh65
 ·rw[hc];obtain⟨k,hk,hat,_,_⟩:=gK HTS.o hg;obtain⟨j,hj,hao,_,_⟩:=gK HTS.o ho;have HAT:=hD hat;have HAO:=hD hao;have HN:=hD hn;clear hg hc hat hn ho hao;go_enter func67,ntmps67;go_wp2_with fail;refine(gV F.N ts nm a c _ (HR.o.keep HH.o.rg.bel) _ HAT.o).m ?_;rintro e w1 ⟨rfl,hb⟩;have HH:=hD (HH.o.aIx hb);clear hb;obtain⟨b0,b1,⟨r0,r1,f0,f1,-,-,-⟩⟩:=HH.o;go_wp2_with fail;refine(lS other _ hot true HN.o).m ?_;rintro e w2 ⟨rfl,hb⟩;have HH:=hD (HH.o.aIx hb);clear hb;clear b0 b1 r0 r1 f0 f1;obtain⟨b0,b1,⟨r0,r1,f0,f1,-,-,-⟩⟩:=HH.o;go_wp2_with fail;refine(gV F.N ts other a c _ (HR.o.keep HH.o.rg.bel) _ HAO.o).m ?_;rintro e w3 ⟨rfl,hb⟩;have HH:=hD (HH.o.aIx hb);clear hb;clear b0 b1 r0 r1 f0 f1;exact sh63
 ·rw[hc];obtain⟨k,hk,hat,_,_⟩:=gK HTS.o hg;have HAT:=hD hat;have HAO:=hD (mG HTS.o ho);have HN:=hD hn;have hl32:32<=ts.length:=by have:=HLEN.o;omega
  clear hg hc hat hn ho h9;go_enter func67,ntmps67;go_wp2_with fail;refine(gV F.N ts nm a c _ (HR.o.keep HH.o.rg.bel) _ HAT.o).m ?_;rintro e w1 ⟨rfl,hb⟩;have HH:=hD (HH.o.aIx hb);clear hb;obtain⟨b0,b1,⟨r0,r1,f0,f1,-,-,-⟩⟩:=HH.o;go_wp2_with fail;refine(lS other _ hot true HN.o).m ?_;rintro e w2 ⟨rfl,hb⟩;have HH:=hD (HH.o.aIx hb);clear hb;clear b0 b1 r0 r1 f0 f1;obtain⟨b0,b1,⟨r0,r1,f0,f1,-,-,-⟩⟩:=HH.o;go_wp2_with fail;refine(gV F.N ts other a c _ (HR.o.keep HH.o.rg.bel) _ HAO.o).m ?_;rintro e w3 ⟨rfl,hb⟩;have HH:=hD (HH.o.aIx hb);clear hb;clear b0 b1 r0 r1 f0 f1;exact aFz
 ·rw[hc];obtain⟨k,hk,hat,hv,_⟩:=gK HTS.o hg;have HAT:=hD hat;have HAO:=hD (mG HTS.o ho);have HN:=hD hn;have HV:=hD hv;have hl32:ts.length<32:=by have:=HLEN.o;omega
  clear hg hc hat hn ho h9 hv;have HMEM:=hD (Qm hk);have HGET:=hD (Qa hk);generalize ts[k]=x at *;go_enter func67,ntmps67;go_wp2_with fail;refine(gV F.N ts nm a c _ (HR.o.keep HH.o.rg.bel) _ HAT.o).m ?_;rintro e w1 ⟨rfl,hb⟩;have HH:=hD (HH.o.aIx hb);clear hb;obtain⟨b0,b1,⟨r0,r1,f0,f1,-,-,-⟩⟩:=HH.o;go_wp2_with fail;refine(lS other _ hot true HN.o).m ?_;rintro e w2 ⟨rfl,hb⟩;have HH:=hD (HH.o.aIx hb);clear hb;clear b0 b1 r0 r1 f0 f1;obtain⟨b0,b1,⟨r0,r1,f0,f1,-,-,-⟩⟩:=HH.o;go_wp2_with fail;refine(gV F.N ts other a c _ (HR.o.keep HH.o.rg.bel) _ HAO.o).m ?_;rintro e w3 ⟨rfl,hb⟩;have HH:=hD (HH.o.aIx hb);clear hb;clear b0 b1 r0 r1 f0 f1;obtain⟨b0,b1,⟨r0,r1,f0,f1,-,-,-⟩⟩:=HH.o;obtain⟨b,o,rfl,hat⟩:=(HR.o.keep HH.o.rg.bel).at oM;obtain⟨e0,e1,e2,e3⟩:=hat k x HGET.o;clear hat;have HX:=hD (VX.new w3 _ rfl x 54);have x0:=HX.o.x0;have x1:=HX.o.x1;have x2:=HX.o.x2;have x3:=HX.o.x3;have g0:=HX.o.g0;have g2:=HX.o.g2;go_wp2_with fail;have hk9:=HH.o.rg.bel.aIw (cq #[nmV other,x.n,oo,x.sl] 54);refine(Aa F.N ts ⟨other,x.n,0,x.a,x.c,x.l⟩ (some (cw b o)) c _ (HR.o.keep hk9) oM).m ?_;rintro e w4 ⟨a4,c4,rfl,hr4,hc4,hb⟩;have hk:=hk9.on hb;have HFR:=hD (xL (c:=c4) HF.o HTS.o hr4 (HL.o.keep hk) ((HL.o x HMEM.o).keep hk) hc4);have HH:=hD ((HH.o.alloc #[nmV other,.int .i64 x.n,.int .i64 0,x.sl] 54).aIx hb);clear hk9 hk hb hr4 hc4 b0 b1 r0 r1 f0 f1 x0 x1 x2 x3 g0 g2 e0 e1 e2 e3 HX;obtain rfl:=HV.o;obtain⟨b0,b1,⟨r0,r1,f0,f1,-,-,-⟩⟩:=HH.o;go_wp2_with fail;obtain⟨j0,j1⟩:=HH.o.rg.cells (u:=F.N) (v:= .slice a4 (iF ts ⟨other,x.n,0,x.a,x.c,x.l⟩).length c4);refine br (.tuple #[.agg #[F.N,.slice a4 (iF ts ⟨other,x.n,0,x.a,x.c,x.l⟩).length c4],oo]) ?_;exact⟨_,rfl,HH.o.rg.bx HFR.o,HH.o.rg.below⟩
theorem RdR.source{w:Wd}{a:OA}{l:List RT}(h:RdR w a l):w.source 4 a l.length (fF l):=by
 refine⟨nJ l,jS l,?_⟩;rcases h.2 with rfl|⟨b,o,rfl,hat⟩
 ·cases a with
  |none=>exact .inl ⟨rfl,rfl⟩
  |some ad=>exact .inr ⟨ad,rfl,λj u hu=>by simp[fF]at hu⟩
 ·refine .inr ⟨_,rfl,λj u hu=> ?_⟩;have hj:j<l.length*4:=by rw[<-nJ];exact(Qx.1 hu).1
  have hk:j/4<l.length:=oM
  obtain⟨c1,c2,c3,c4⟩:=Fp l (j/4) _ (Qa hk);obtain⟨d1,d2,d3,d4⟩:=hat (j/4) _ (Qa hk);have hadd:((cw b o):Addr).add j=(cw b (o+j)):=by unfold Addr.add;split <;> simp_all
  rw[hadd];rcases(by omega:j=j/4*4∨j=j/4*4+1∨j=j/4*4+2∨j=j/4*4+3)with e|e|e|e
  ·rw[e]at hu ⊢;rw[c1]at hu;rw[<-hu,d1]
  ·rw[e]at hu ⊢;rw[c2]at hu;rw[<-hu,<-Nat.add_assoc,d2]
  ·rw[e]at hu ⊢;rw[c3]at hu;rw[<-hu,<-Nat.add_assoc,d3]
  ·rw[e]at hu ⊢;rw[c4]at hu;rw[<-hu,<-Nat.add_assoc,d4]
theorem RdR.take{w:Wd}{a:OA}{l:List RT}(h:RdR w a l)(k:Nat):RdR w a (l.take k):=by
 refine⟨by have:=h.1;simp;omega,?_⟩;rcases h.2 with rfl|⟨b,o,rfl,hat⟩
 ·exact .inl sM
 ·refine .inr ⟨b,o,rfl,λj x hj=>hat j x ?_⟩;rw[List.getElem?_take]at hj
  split at hj
  ·exact hj
  ·cases hj
theorem RdR.drop{w:Wd}{b o:Nat}{l:List RT}(h:RdR w (cw b o) l)(k:Nat):RdR w (cw b (o+k*4)) (l.drop k):=by
 refine⟨by have:=h.1;simp;omega,?_⟩;rcases h.2 with rfl|⟨b',o',he,hat⟩
 ·exact .inl sM
 ·injection he with he;injection he with he1 he2;subst he1 he2;refine .inr ⟨b,o+k*4,rfl,λj x hj=> ?_⟩;rw[List.getElem?_drop]at hj;obtain⟨d1,d2,d3,d4⟩:=hat (k+j) x hj;have e:o+k*4+j*4=o+(k+j)*4:=oM
  exact⟨by rw[e];exact d1,by rw[e];exact d2,by rw[e];exact d3,by rw[e];exact d4⟩
theorem iN.empty(w:Wd)(B:Nat)(hB:B<=w.heap.size):iN (w.alloc (cq #[] 54)) B (.slice (cw w 0) 0 0) []:=
 World.ownsRow_lit w #[] 0 hB sM rfl
theorem iN.append{w:Wd}{B n:Nat}{v:Value}{l r:List RT}(h:w.ownsRow B 54 4 v n (fF l++fF r))(hn:n=l.length+r.length):iN w B v (l++r):=by
 subst hn;unfold iN;rw[yK,Qg];exact h
theorem iN.fresh(V:Wd)(G:Nat)(hG:V.heap.size=G)(B:Nat)(hB:B<=G):iN (V.alloc (cq #[] 54)) B (.slice (cw G 0) 0 0) []:=by
 subst hG;exact iN.empty V B hB
theorem RdR.news{w:Wd}{ad:Addr}{l:List RT}(h:RdR w (some ad) l):∀j u,(fF l)[j]? =some u->w.cell? (ad.add j)=some u:=by
 obtain⟨_,_,h1|⟨ad',h1,h2⟩⟩:=h.source
 ·cases h1.1
 ·injection h1 with h1;subst h1;exact h2
def qL(ts:List RT)(k:Nat):List RT:=ts.take k++ts.drop (k+1)
theorem Ll{ts:List RT}{k:Nat}(hs:zX ts)(hk:k<ts.length):(qL ts k).map RT.vol=bZ (ts.map RT.vol) ts[k].nm:=by
 have h1:ts=ts.take k++ts[k]::ts.drop (k+1):=by rw[List.getElem_cons_drop,List.take_append_drop]
 have h2:=hs;rw[h1]at h2;obtain⟨h3,h4,h5⟩:=Yb.1 h2;have h6:=(Yk.1 h4).1;have e:∀l:List RT,(∀x∈l,x.nm≠ts[k].nm)->bZ (l.map RT.vol) ts[k].nm=l.map RT.vol:=λl hl=>by
  unfold bZ;rw[List.filter_eq_self];intro x hx;obtain⟨y,hy,rfl⟩:=Yd.1 hx;have:y.vol.nm≠ts[k].nm:=hl y hy
  simpa using this
 have e1:=e (ts.take k) λx hx he=>by
  have:=h5 x hx ts[k] List.mem_cons_self;rw[he,WideAt.bytes_irrefl]at this;cases this
 have e2:=e (ts.drop (k+1)) λx hx he=>by
  have:=h6 x hx;rw[he,WideAt.bytes_irrefl]at this;cases this
 have h7:bZ (ts.map RT.vol) ts[k].nm=bZ ((ts.take k).map RT.vol) ts[k].nm++bZ ((ts.drop (k+1)).map RT.vol) ts[k].nm:=by
  generalize ts[k]=x at *;rw[h1,Yz,List.map_cons];unfold bZ;rw[List.filter_append,List.filter_cons_of_neg (by simp[RT.vol]),<-h1]
 rw[h7,e1,e2];unfold qL;rw[Yz]
theorem Zc{F:Fam}{ts:List RT}{k:Nat}{w:Wd}{a:OA}{c:Nat}{nm:LU}(hF:F.ok)(h:ts.map RT.vol=F.vs)(hk:k<ts.length)(hnm:ts[k].nm=nm)(hr:RdR w a (qL ts k))(hl:nC w ts)(hc:(qL ts k).length<=c):
  cB w (.agg #[F.N,.slice a (qL ts k).length c]) ⟨F.N,bZ F.vs nm⟩:=
 ⟨a,c,qL ts k,rfl,hr,λx hx=>hl x (by
  rcases Qn.1 hx with hx|hx
  ·exact List.mem_of_mem_take hx
  ·exact List.mem_of_mem_drop hx),by rw[Ll (wY hF h) hk,h,hnm],hc⟩
def JU(w:Wd)(G:Fam)(L:List E)(e0:Int)(e:Ending)(w':Wd):Prop:= ∃gv sv,e= .returned (.tuple #[gv,sv,e0])/\cB w' gv G/\aG w' w sv L/\Below w w w'
def aAb(w:Wd)(a:OA)(n:Int)(m c R:Nat)(l:List RT)(p:Value)(W:Wd):Prop:=
 ∃T a' c',p= .pointer (cw T 0)/\Bx W T 28 n (.slice a' l c')/\RdR W a' l/\l.length<=c'/\GH w W a n m c R/\T≠R
theorem Om(F:Fam)(gv:Value)(nm:LU)(w:Wd)(hF:F.ok)(h:cB w gv F)(hnm:nm.length<=maxLen):
  ep 69 #[gv,nmV nm] w (JU w (aZ F nm).1 (aZ F nm).2.1 (aZ F nm).2.2):=by
 obtain⟨a,c,ts,rfl,hr,hl,hts,hcap⟩:=h;have h32:=(kE hF hts).2;have HH:=hD (GH.init w a F.N ts.length c);have HR:=hD hr;have HL:=hD hl;have HTS:=hD hts;have HF:=hD hF;clear hr hl hts hF
 cases hg:aN F.vs nm with
 | none=>
  rw[show aZ F nm=(eP,[],9) by simp[aZ,hg]];have HAT:=hD (mG HTS.o hg);clear hg;go_enter func69,ntmps69;exact sh61
 | some v=>
  rw[show aZ F nm=(⟨F.N,bZ F.vs nm⟩,eY F ⟨F.N,bZ F.vs nm⟩,0) by simp[aZ,hg]];obtain⟨k,hk,hat,hv,hkn⟩:=gK HTS.o hg;have HAT:=hD hat;have HKN:=hD hkn;have hokd:(⟨F.N,bZ F.vs nm⟩:Fam).ok:=by have:=BC HF.o nm;simpa [aZ,hg]using this
  have HOKD:=hD hokd;clear hg hat hv hkn hokd;go_enter func69,ntmps69;go_wp2_with fail;refine(gV F.N ts nm a c _ (HR.o.keep HH.o.rg.bel) _ HAT.o).m ?_;rintro e w1 ⟨rfl,hb⟩;have HH:=hD (HH.o.aIx hb);clear hb;obtain⟨b0,b1,⟨r0,r1,f0,f1,-,-,-⟩⟩:=HH.o;go_upto_region 4 with fail;obtain⟨i0,hi,hz0,hz1,hz2⟩:=info_parts PE;obtain⟨b,o,rfl,_⟩:=(HR.o.keep HH.o.rg.bel).at oM;have HRT:=hD ((HR.o.keep HH.o.rg.bel).take k);have HRD:=hD ((HR.o.keep HH.o.rg.bel).drop (k+1));have hkc:(k:Int)<=c:=oM
  have hk0:(0:Int)<=k:=oM
  have hk1:(k:Int)+1<=ts.length:=oM
  go_cut [8] from 8 to 29 (λp wx=>aAb w (cw b o) F.N ts.length c (cf w) (qL ts k) p wx)
  case first=>
   have b0:=(HH.o.aIx bR.drew).b0;have b1:=(HH.o.aIx bR.drew).b1;have hk2:(0:Int)<=(k:Int)+1:=oM
   obtain ⟨ad9,had9,hrd9⟩:∃ad:Addr,(if c=k+1 then some ((cw b o):Addr)else some (cw b (o+(k+1)*4)))=some ad/\RdR w1 (some ad) (ts.drop (k+1)):=by
    by_cases hc9:c=k+1
    ·refine⟨(cw b o),by rw[Qf hc9],?_⟩;rw[List.drop_of_length_le oM];exact⟨sM,.inl rfl⟩
    ·exact⟨_,by rw[Qe hc9],HRD.o⟩
   have HRD9:=hD hrd9;clear hrd9;have HG0:=hD (HH.o.aIx bR.drew);have hw1:IntKind.i64.wrap ((k:Int)+1)=(k:Int)+1:=IntWalk.i64_in _ oM;have h9d:w1.drew.heap.size=w1.heap.size:=rfl
   go_region_held3 (λw'=>w' (cw w 0)=F.N/\w' (cw w 1)=some (.slice (cw b o) ts c)/\Below w1.drew.heap.size w1.drew w')
    (first
     |exact⟨HG0.o.b0,HG0.o.b1,bR⟩
     |(have hH:= ‹_/\_/\Below w1.drew.heap.size w1.drew _›;first|exact⟨(HG0.o.aIx (HB3.o.aIw _)).b0,(HG0.o.aIx (HB3.o.aIw _)).b1,HB3.o.aIw _⟩|(have hz2:=HB2.o.size;exact⟨(HG0.o.aIx ((HB3.o.setCell sO _).setCell sO _)).b0,(HG0.o.aIx ((HB3.o.setCell sO _).setCell sO _)).b1,(HB3.o.setCell sO _).setCell sO _⟩)|exact⟨(HG0.o.aIx (hH.2.2.aIw _)).b0,(HG0.o.aIx (hH.2.2.aIw _)).b1,hH.2.2.aIw _⟩|exact⟨(HG0.o.aIx HB3.o).b0,(HG0.o.aIx HB3.o).b1,HB3.o⟩|exact⟨(HG0.o.aIx HB2.o).b0,(HG0.o.aIx HB2.o).b1,HB2.o⟩))
    (first
    |(refine eH _ (by rfl) (.tmp 17) (.tmp 21) 26 (by rfl) w1.heap.size 54 i0 (.agg #[.string ⟨#[]⟩,.int .i64 0,.int .i64 0,.slice none 0 0]) 4 56 underlying26 hi hz0 hz1 hz2 rfl dE (.slice (some ⟨_,0,none⟩) 0 0) 0 (fF []) (by rfl) (by first|exact iN.keep (iN.fresh w1 _ rfl _ (Ye _)) bR.drew|exact iN.keep (iN.fresh w1 _ rfl _ (Ye _)) (bR.aIw _).drew|exact iN.keep (iN.fresh (w1.alloc _) (w1.heap.size+1) sM _ oM) bR.drew) ⟨b,o,none⟩ k c (fF (ts.take k)) (by rfl) (by rw[nJ,Yp];first|omega) (by first|exact RdR.news (HRT.o.keep ((bR.drew.aIw _).aIw _))|exact RdR.news (HRT.o.keep (bR.drew.aIw _))) (jS _) oM (by simp only[maxLen];omega) (by first|omega|(simp;done)|(simp;omega)) ?_;intro v1 w2 hown1 hgrow1 hwhere1;have HB2:Hid (Below w1.drew.heap.size w1.drew w2):=hD (Below.aJa (by first|exact bR.aIw _|exact(bR.aIw _).aIw _) hgrow1 (by intro j hj;have h9:w1.drew.heap.size=w1.heap.size:=rfl;first|(simp[Value.ownBlock]at hj;omega)));have HO1:=hD (iN.append (l:=[]) (r:=ts.take k) hown1 (by rw[Yp,List.length_nil];first|omega));have b0:=(HG0.o.aIx HB2.o).b0;have b1:=(HG0.o.aIx HB2.o).b1;(try(have HBX:Hid (Bx w2 w1.heap.size 28 (.int .i64 0) (.slice none 0 0)/\v1.ownBlock≠some w1.heap.size):=hD ⟨Bx.grown (((Bx.new w1 _ rfl (.int .i64 0) (.slice none 0 0) 28).aIx (bR.aIw (.cells #[] 54))).aIx bR.drew) hgrow1 (by simp[Value.ownBlock]),by rcases hwhere1 with h|h <;> rw[h] <;> simp[Value.ownBlock] <;> omega⟩));(try(have HBX:Hid (Bx w2 (w1.heap.size+1) 28 (.int .i64 0) (.slice none 0 0)/\v1.ownBlock≠some (w1.heap.size+1)):=hD ⟨Bx.grown ((Bx.new (w1.alloc (.cells #[] 54)) (w1.heap.size+1) sM (.int .i64 0) (.slice none 0 0) 28).aIx bR.drew) hgrow1 (by simp[Value.ownBlock]),by rcases hwhere1 with h|h <;> rw[h] <;> simp[Value.ownBlock] <;> omega⟩)))
    |(refine eH _ (by rfl) (.tmp 22) (.tmp 27) 26 (by rfl) w1.heap.size 54 i0 (.agg #[.string ⟨#[]⟩,.int .i64 0,.int .i64 0,.slice none 0 0]) 4 56 underlying26 hi hz0 hz1 hz2 rfl dE v1 _ (fF ([]++ts.take k)) (by rfl) (by first|exact HO1.o|exact HO1.o.keep (bR.aIw _)) ad9 (ts.length-(k+1)) (c-(k+1)) (fF (ts.drop (k+1))) (by first|rfl) (by rw[nJ,List.length_drop]) (by first|exact RdR.news (HRD9.o.keep (bR.drew.on HB2.o))|exact RdR.news (HRD9.o.keep ((bR.drew.on HB2.o).aIw _))) (jS _) (by rw[Qg,Yp,List.length_nil];first|omega) (by rw[Qg,Yp,List.length_nil];simp only[maxLen];first|omega) (by have:=HB2.o.size;have:w1.drew.heap.size=w1.heap.size:=rfl;first|omega|(simp;omega)) ?_;intro v2 w3 hown2 hgrow2 hwhere2;have hO2:iN w3 w1.heap.size v2 (qL ts k):=iN.append (l:=[]++ts.take k) (r:=ts.drop (k+1)) hown2 (by rw[List.length_drop]);obtain⟨va,vc,hv2,hrd2⟩:=hO2.rd (by unfold qL;rw[Qg,Yp,List.length_drop];omega);subst hv2;have HO2:=hD hO2;have HR2:=hD hrd2;clear hO2 hrd2;have HB3:Hid (Below w1.drew.heap.size w1.drew w3):=hD (Below.aJa (by first|exact HB2.o|exact HB2.o.aIw _) hgrow2 (λj hj=>(HO1.o.lt j hj).1));(try(have HBX:=hD (HBX.o.1.grown hgrow2 HBX.o.2)));(try(have HBX:=hD (Bx.grown (Bx.new w2 _ rfl oo sn 28) hgrow2 (λe=>by have:=(HO1.o.lt _ e).2;omega))));(try(have t0:=HBX.o.c0;have t1:=HBX.o.c1;have t2:=HBX.o.f0;have t3:=HBX.o.f1))))
   ·have HQ:Hid (aAb w (cw b o) F.N ts.length c (cf w) (qL ts k) (.pointer (cw w3 0)) (w3.alloc (cq #[F.N,.slice va (qL ts k).length vc] 28))):=
     hD ⟨_,va,vc,rfl,Bx.new w3 _ rfl _ _ _,HR2.o.keep (bR.aIw _),HO2.o.cap,(HG0.o.aIx HB3.o).alloc _ _,by have:=(HG0.o.aIx HB3.o).rg.lt;omega⟩
    go_wp2_with fail;go_meet;exact HQ.o
   ·have hz2:=HB2.o.size;have hR:=HG0.o.rg.lt;have hT:w.heap.size+1<w2.heap.size:=oM
    have HQ:Hid (aAb w (cw b o) F.N ts.length c (cf w) (qL ts k) (.pointer (cw w2 0)) (fP w3 (w2.heap.size) F.N (.slice va (qL ts k).length vc))):=hD ⟨_,va,vc,rfl,HBX.o.put _ _,HBX.o.rows HR2.o,HO2.o.cap,((HG0.o.aIx HB3.o).aJf hT).aJf hT,oM⟩;clear t0 t1 t2 t3;go_wp2_with fail;go_meet;exact HQ.o
   ·have hR:=HG0.o.rg.lt;have hT:w.heap.size+1<w1.heap.size+1:=oM
    have HQ:Hid (aAb w (cw b o) F.N ts.length c (cf w) (qL ts k) (.pointer (cw (cf w1) 0)) (fP w3 (cf w1) F.N (.slice va (qL ts k).length vc))):=hD ⟨_,va,vc,rfl,HBX.o.put _ _,HBX.o.rows HR2.o,HO2.o.cap,((HG0.o.aIx HB3.o).aJf hT).aJf hT,oM⟩;clear t0 t1 t2 t3;go_wp2_with fail;go_meet;exact HQ.o
   ·have hR:=HG0.o.rg.lt;have hT:w.heap.size+1<w1.heap.size:=oM
    have HQ:Hid (aAb w (cw b o) F.N ts.length c (cf w) (qL ts k) (.pointer (cw w1 0)) (fP w3 (w1.heap.size) F.N (.slice va (qL ts k).length vc))):=hD ⟨_,va,vc,rfl,HBX.o.put _ _,HBX.o.rows HR2.o,HO2.o.cap,((HG0.o.aIx HB3.o).aJf hT).aJf hT,oM⟩;clear t0 t1 t2 t3;go_wp2_with fail;go_meet;exact HQ.o
  case rest=>
   obtain ⟨T,a2,c2,rfl,hbx,hr2,hc2,hg2,hne⟩:=hcut;obtain⟨W2,rfl⟩:∃W2:Wd,W2=wc:=⟨_,rfl⟩;have hGv:(qL ts k).map RT.vol=(⟨F.N,bZ F.vs nm⟩:Fam).vs:=by
    show _=bZ F.vs nm;rw[Ll (wY HF.o HTS.o) hk,HTS.o,HKN.o]
   have HGV:=hD hGv;have HG:=hD (hg2.aIx bR.drew);have HX:=hD (hbx.aIx bR.drew);have HRR:=hD (hr2.keep bR.drew);have HC2:=hD hc2;have HNE:=hD hne;have hbw:=HG.o.rg.bel;have HRF:=hD (HR.o.keep hbw);have HLF:=hD (HL.o.keep hbw);have HLG:Hid (nC W2.drew (qL ts k)):=hD λx hx=>HLF.o x (by
    rcases Qn.1 hx with hx|hx
    ·exact List.mem_of_mem_take hx
    ·exact List.mem_of_mem_drop hx)
   clear hGv hbx hr2 hc2 hg2 hne hbw b0 b1 r0 r1 f0 f1;have b0:=HG.o.b0;have b1:=HG.o.b1;have t0:=HX.o.c0;have t1:=HX.o.c1;go_wp2_with fail
   go_region_law ((go_simp;go_at_call 102;refine(Bu F ⟨F.N,bZ F.vs nm⟩ ts (qL ts k) (cw b o) a2 c c2 _ HF.o HOKD.o rfl HTS.o HGV.o HRF.o HLF.o HRR.o HLG.o).m ?_;rintro e w4 ⟨sv,rfl,hs4,hb4⟩;have HG4:=hD (HG.o.aIx hb4);have HX4:=hD (HX.o.aIx hb4);have t0:=HX4.o.c0;have t1:=HX4.o.c1;have r0:=HG4.o.rg.r0;have r1:=HG4.o.rg.r1;have f0:=HG4.o.rg.f0;have f1:=HG4.o.rg.f1))
   all_goals
    have HFR:=hD (Zc (c:=c2) HF.o HTS.o hk HKN.o (HRR.o.keep hb4) (HLF.o.keep hb4) HC2.o);have HS4:=hD (sV (u:=F.N) (v:= .slice a2 (qL ts k).length c2) hs4 HG.o.rg.lt);clear hs4 hb4;go_wp2_with fail;obtain⟨j0,j1⟩:=HG4.o.rg.cells (u:=F.N) (v:= .slice a2 (qL ts k).length c2);refine br (.tuple #[.agg #[F.N,.slice a2 (qL ts k).length c2],sv,oo]) ?_;exact⟨_,_,rfl,HG4.o.rg.bx HFR.o,HS4.o.mono HG.o.rg.bel.size,HG4.o.rg.below⟩
theorem WP(l:List E)(p n:Int)(a:OA)(c:Nat)(w:Wd)(hr:Rd w a l)(hl:l.length<=100000000)(hv:aH l=true)(hp:fA p n 65536=true):
  ep 100 #[.slice a l c,p,n] w λe w'=>
   ∃v m,e= .returned (.tuple #[v,m,oo])/\aG w' w v (gD l p n)/\aG w' w m (inL l p n)/\Below w w w':=by
 have hn:0<=n:=by have h:0<=p/\0<=n/\p<=65536/\n<=65536-p:=Qt hp;omega
 rw[nI l p n hn hv,wG l p n];exact WO l p n a c w hr (λy hy=>BD (aL hv y hy)) hl hv hp (iT l 0 p (p+n) 65536 hv oM) (gL l p (p+n) hv)
theorem kV(x:RT)(p q:Int)(w:Wd)(hn:0<=x.n/\x.n<=65536)(b:Bool)(hb:inB p q x.n=b):
  ep 99 #[x.val,p,q] w (RB w (.bool b)):=by
 subst hb;go_enter func99,ntmps99;go_wp2
 all_goals
  go_ret;exact⟨aU (by simp only[inB,Qc,Bool.false_eq_true,false_iff];omega),bL⟩
theorem Ki(F:Fam)(nm:LU)(p n:Int):
    (aN F.vs nm=none/\bS F nm p n=(eP,[],9))∨ ∃v,aN F.vs nm=some v/\
      ((inB p n v.n=false/\bS F nm p n=(eP,[],2))∨
       (inB p n v.n=true/\bS F nm p n=(F.with (v.set (gD v.l p n)),eY F (F.with (v.set (gD v.l p n))),0))):=by
  unfold bS
  cases hg:aN F.vs nm with
  |none=>exact .inl ⟨rfl,rfl⟩
  | some v=>
    refine .inr ⟨v,rfl,?_⟩;cases hn:inB p n v.n
    · exact .inl ⟨rfl,by simp[hn]⟩
    · exact .inr ⟨rfl,by simp[hn]⟩
theorem qD{N:Nat}{v:Vol}(h:v.ok N):v.l.length<=100000:=by have:=h.short.1;omega
theorem Ty(F:Fam)(gv:Value)(nm:LU)(p n:Int)(w:Wd)(hF:F.ok)(h:cB w gv F)(hnm:nm.length<=maxLen):
  ep 64 #[gv,nmV nm,p,n] w (JU w (bS F nm p n).1 (bS F nm p n).2.1 (bS F nm p n).2.2):=by
 obtain⟨a,c,ts,rfl,hr,hl,hts,hcap⟩:=h;have h32:=(kE hF hts).2;have HH:=hD (GH.init w a F.N ts.length c);have HR:=hD hr;have HL:=hD hl;have HTS:=hD hts;have HF:=hD hF;clear hr hl hts hF hcap;rcases Ki F nm p n with ⟨hg,hc⟩|⟨v,hg,⟨hn,hc⟩|⟨hn,hc⟩⟩
 ·rw[hc];have HAT:=hD (mG HTS.o hg);clear hg hc;go_enter func64,ntmps64;exact sh61
 ·rw[hc];obtain⟨k,hk,hat,hv,hkn⟩:=gK HTS.o hg;clear hkn;have hok:=HF.o.vol v (aC hg).1;have HAT:=hD hat;have HIN:=hD hn;have hb1:=hok.n1;have hb2:=hok.n2;have HMEM:=hD (Qm hk);have HGET:=hD (Qa hk);generalize ts[k]=x at *;subst hv;clear hg hc hat hn hok;go_enter func64,ntmps64;go_wp2_with fail;refine(gV F.N ts nm a c _ (HR.o.keep HH.o.rg.bel) _ HAT.o).m ?_;rintro e w1 ⟨rfl,hb⟩;have HH:=hD (HH.o.aIx hb);clear hb;obtain⟨b0,b1,⟨r0,r1,f0,f1,-,-,-⟩⟩:=HH.o;obtain⟨b,o,rfl,hat⟩:=(HR.o.keep HH.o.rg.bel).at oM;obtain⟨e0,e1,e2,e3⟩:=hat k x HGET.o;clear hat;have HX:=hD (VX.new w1 _ rfl x 54);have x0:=HX.o.x0;have x1:=HX.o.x1;have x2:=HX.o.x2;have x3:=HX.o.x3;have HB1:=hD hb1;have HB2:=hD hb2;clear hb1 hb2;go_wp2_with fail;refine(kV x p n _ ⟨by have:1<=x.n:=HB1.o;omega,HB2.o⟩ false HIN.o).m ?_;rintro e w2 ⟨rfl,hb⟩;have HH:=hD ((HH.o.alloc #[nmV x.nm,.int .i64 x.n,.int .i64 x.r,x.sl] 54).aIx hb);clear hb b0 b1 r0 r1 f0 f1 e0 e1 e2 e3;obtain⟨b0,b1,⟨r0,r1,f0,f1,-,-,-⟩⟩:=HH.o;go_wp2_with fail;exact sh62
 ·rw [hc];obtain⟨k,hk,hat,hv,hkn⟩:=gK HTS.o hg;clear hkn;have hok:=HF.o.vol v (aC hg).1;have hgv:=(aC hg).2;have hg':aN F.vs v.nm=some v:=by rw[hgv];exact hg
  have HOK:=hD hok;have HWI:=hD (hok.cut hn).1;have HOKG:Hid (F.with (v.set (gD v.l p n))).ok:=hD (by have:=Ep HF.o nm p n;rw[hc]at this;exact this);have HAT:=hD hat;have HIN:=hD hn;have hb1:=hok.n1;have hb2:=hok.n2;have HMEM:=hD (Qm hk);have HGET:=hD (Qa hk);generalize ts[k]=x at *;subst hv;clear hg hc hat hn hok hgv hg';go_enter func64,ntmps64;go_wp2_with fail;refine(gV F.N ts nm a c _ (HR.o.keep HH.o.rg.bel) _ HAT.o).m ?_;rintro e w1 ⟨rfl,hb⟩;have HH:=hD (HH.o.aIx hb);clear hb;obtain⟨b0,b1,⟨r0,r1,f0,f1,-,-,-⟩⟩:=HH.o;obtain⟨b,o,rfl,hat⟩:=(HR.o.keep HH.o.rg.bel).at oM;obtain⟨e0,e1,e2,e3⟩:=hat k x HGET.o;clear hat;have HX:=hD (VX.new w1 _ rfl x 54);have x0:=HX.o.x0;have x1:=HX.o.x1;have x2:=HX.o.x2;have x3:=HX.o.x3;have HB1:=hD hb1;have HB2:=hD hb2;clear hb1 hb2;go_wp2_with fail;refine(kV x p n _ ⟨by have:1<=x.n:=HB1.o;omega,HB2.o⟩ true HIN.o).m ?_;rintro e w2 ⟨rfl,hb⟩;have HX:=hD (HX.o.aIx hb);clear x0 x1 x2 x3;have HH1:=hD HH.o.rg.lt;have HH:=hD ((HH.o.alloc #[nmV x.nm,.int .i64 x.n,.int .i64 x.r,x.sl] 54).aIx hb);clear hb b0 b1 r0 r1 f0 f1 e0 e1 e2 e3;have x3:=HX.o.x3;go_wp2_with fail;refine(WP x.l p n x.a x.c _ ((HL.o x HMEM.o).keep HH.o.rg.bel) (by have:x.l.length<=100000:=qD HOK.o;omega) HOK.o.valid HWI.o).m ?_;rintro e w3 ⟨sv,mv,rfl,hos,_,hb⟩;obtain⟨sa,sc,rfl,hrs⟩:=hos.rd (by have:=qD (HOK.o.cut HIN.o).2;have:(gD x.l p n).length<=100000:=this;omega);have hXl:=HX.o.lt;have ho3:=aG.far hos (cw w1 3) (.slice sa (gD x.l p n).length sc) (λe=>by have:=(hos.lt _ e).1;simp only at this;omega);have HRS:=hD (ho3.rd' hrs.1);have HXA:=hD (HX.o.aIx hb);have HXB:=hD ((HX.o.aIx hb).list sa sc (gD x.l p n));have HHB:=hD ((HH.o.aIx hb).aJf (i:=3) (u:= .slice sa (gD x.l p n).length sc) HH1.o);clear hos hrs ho3 hb x3 HX HH;have x3:=HXA.o.x3;have g3:=HXA.o.g3;have y0:=HXB.o.x0;have y1:=HXB.o.x1;have y2:=HXB.o.x2;have y3:=HXB.o.x3;have b0:=HHB.o.b0;have b1:=HHB.o.b1;go_wp2_with fail;refine(Aa F.N ts ⟨x.nm,x.n,x.r,sa,sc,gD x.l p n⟩ (some (cw b o)) c _ (HR.o.keep HHB.o.rg.bel) oM).m ?_;rintro e w4 ⟨a4,c4,rfl,hr4,hc4,hb⟩;have hk4:=HHB.o.rg.bel.on hb;have HL4:=hD (HL.o.keep hk4);have HRS4:=hD (HRS.o.keep hb);have HFR:=hD (xL (c:=c4) HF.o HTS.o hr4 HL4.o HRS4.o hc4);have HL5:Hid (nC w4 (iF ts ⟨x.nm,x.n,x.r,sa,sc,gD x.l p n⟩)):=hD λy hy=>(BK hy).elim (λe=>by rw[e];exact HRS4.o) (HL4.o y);have HGV:Hid ((iF ts ⟨x.nm,x.n,x.r,sa,sc,gD x.l p n⟩).map RT.vol=(F.with (x.vol.set (gD x.l p n))).vs):=hD sh66;have HH4:=hD (HHB.o.aIx hb);clear x3 g3 y0 y1 y2 y3 b0 b1 hk4 hb HXA HXB HHB;have HT:=hD (Bx.new w4 _ rfl F.N (.slice a4 (iF ts ⟨x.nm,x.n,x.r,sa,sc,gD x.l p n⟩).length c4) 28);have hk5:=(bQ w4).aIw (cq #[F.N,.slice a4 (iF ts ⟨x.nm,x.n,x.r,sa,sc,gD x.l p n⟩).length c4] 28);have HH5:=hD (HH4.o.aIx hk5);have HR5:=hD (hr4.keep hk5);have HL6:=hD (HL5.o.keep hk5);have HFR5:=hD (HFR.o.keep hk5);clear hk5 hr4 hc4 HL5 HFR HH4 HL4 HRS4 HRS;go_upto_region 9 with fail;obtain⟨ws,hws⟩:∃l,l=iF ts ⟨x.nm,x.n,x.r,sa,sc,gD x.l p n⟩:=⟨_,rfl⟩;rw[<-hws]at HT HR5 HL6 HFR5 HGV HH5 ⊢;generalize w4.alloc (cq #[F.N,.slice a4 ws c4] 28)=W5 at *;generalize w4.heap.size=T5 at *;clear hws;have HG:=hD (HH5.o.aIx bR.drew);have HX:=hD (HT.o.aIx bR.drew);have HRR:=hD (HR5.o.keep bR.drew);have HLG:=hD (HL6.o.keep bR.drew);have HFR6:=hD (HFR5.o.keep bR.drew);have hbw:=HG.o.rg.bel;have HRF:=hD (HR.o.keep hbw);have HLF:=hD (HL.o.keep hbw);clear hbw;have b0:=HG.o.b0;have b1:=HG.o.b1;have t0:=HX.o.c0;have t1:=HX.o.c1
  go_region_law ((go_simp;go_at_call 102;refine(Bu F (F.with (x.vol.set (gD x.l p n))) ts ws (cw b o) a4 c c4 _ HF.o HOKG.o rfl HTS.o HGV.o HRF.o HLF.o HRR.o HLG.o).m ?_;rintro e w6 ⟨vv,rfl,hs4,hb4⟩;have HG4:=hD (HG.o.aIx hb4);have HX4:=hD (HX.o.aIx hb4);have t0:=HX4.o.c0;have t1:=HX4.o.c1;have r0:=HG4.o.rg.r0;have r1:=HG4.o.rg.r1;have f0:=HG4.o.rg.f0;have f1:=HG4.o.rg.f1))
  all_goals
   have HFR7:=hD (HFR6.o.keep hb4);have HS4:=hD (sV (u:=F.N) (v:= .slice a4 ws c4) hs4 HG.o.rg.lt);clear hs4 hb4;go_wp2_with fail;obtain⟨j0,j1⟩:=HG4.o.rg.cells (u:=F.N) (v:= .slice a4 ws c4);refine br (.tuple #[.agg #[F.N,.slice a4 ws c4],vv,oo]) ?_;exact⟨_,_,rfl,HG4.o.rg.bx HFR7.o,HS4.o.mono HG.o.rg.bel.size,HG4.o.rg.below⟩
structure XE(W:Wd)(X:Nat)(x:E):Prop where
 e0:W (cw X 0)=x.a
 e1:W (cw X 1)=x.n
 e2:W (cw X 2)=x.s
theorem XE.aIx{W W':Wd}{X:Nat}{x:E}(h:XE W X x)(hb:Below W W W'):XE W' X x:=⟨hb.keep h.e0,hb.keep h.e1,hb.keep h.e2⟩
theorem XE.new(V:Wd)(B:Nat)(hB:V.heap.size=B)(x:E):XE (V.alloc (cq #[x.a,x.n,x.s] 128)) B x:=by
 subst hB;exact⟨sM,sM,sM⟩
theorem GH.initE(w:Wd)(a:OA)(n:Int)(m c:Nat)(x:E)(W:Wd)(hW:W=((w.alloc (cq #[n,.slice a m c] 28)).alloc (cq #[x.a,x.n,x.s] 128)).alloc (cq #[oo,sn] 28)):
  GH w W a n m c (w.heap.size+1+1)/\XE W (cf w) x:=by
 subst hW;have hs:((w.alloc (cq #[n,.slice a m c] 28)).alloc (cq #[x.a,x.n,x.s] 128)).heap.size=w.heap.size+1+1:=by simp
 have h:=RG.new w ((w.alloc (cq #[n,.slice a m c] 28)).alloc (cq #[x.a,x.n,x.s] 128)) 28 ((bR.aIw _).aIw _);rw[hs]at h;have h2:=(Bx.new w _ rfl n (.slice a m c) 28).aIx ((bR.aIw (cq #[x.a,x.n,x.s] 128)).aIw (cq #[oo,sn] 28));have h3:=(XE.new (w.alloc (cq #[n,.slice a m c] 28)) (cf w) sM x).aIx (bR.aIw (cq #[oo,sn] 28));exact⟨⟨h2.c0,h2.c1,h⟩,h3⟩
theorem JR(F:Fam)(nm:LU)(x:E):
    (aN F.vs nm=none/\aV F nm x=(eP,[],9))∨ ∃v,aN F.vs nm=some v/\
      ((x.n<1/\aV F nm x=(eP,[],2))∨(1<=x.n/\inB x.a x.n v.n=false/\aV F nm x=(eP,[],2))∨
       (1<=x.n/\inB x.a x.n v.n=true/\(x.s<0∨F.N<x.s+x.n)/\aV F nm x=(eP,[],2))∨
       ((inB x.a x.n v.n&&rA F.N x)=true/\aV F nm x=(F.with (v.set (bM v.l x)),eY F (F.with (v.set (bM v.l x))),0))):=by
  unfold aV
  cases hg:aN F.vs nm with
  |none=>exact .inl ⟨rfl,rfl⟩
  | some v=>
    refine .inr ⟨v,rfl,?_⟩;cases hb:(inB x.a x.n v.n&&rA F.N x)
    · by_cases h1:x.n<1
      · exact .inl ⟨h1,by simp[hb]⟩
      cases hi:inB x.a x.n v.n
      · exact .inr (.inl ⟨oM,rfl,by simp[hi]⟩)
      · rw[hi,Bool.true_and]at hb;have:¬ (1<=x.n/\0<=x.s/\x.s+x.n<=F.N):=Yh hb;exact .inr (.inr (.inl ⟨oM,rfl,oM,by simp[hb]⟩))
    · exact .inr (.inr (.inr ⟨rfl,by simp[hb]⟩))
theorem Ov(F:Fam)(gv:Value)(nm:LU)(x:E)(w:Wd)(hF:F.ok)(h:cB w gv F)(hnm:nm.length<=maxLen)(hx:x.wf):
    ep 139 #[gv,nmV nm,.agg #[x.a,x.n,x.s]] w (JU w (aV F nm x).1 (aV F nm x).2.1 (aV F nm x).2.2):=by
  obtain⟨a,c,ts,rfl,hr,hl,hts,hcap⟩:=h;have h32:=(kE hF hts).2;obtain⟨h0,h1⟩:=GH.initE w a F.N ts.length c x _ rfl;have HH:=hD h0;have HE:=hD h1;have HR:=hD hr;have HL:=hD hl;have HTS:=hD hts;have HF:=hD hF;have hxw:=hx;unfold E.wf at hxw;have hNN:=hF.hN;clear hr hl hts hF hcap h0 h1 hx;rcases JR F nm x with ⟨hg,hc⟩|⟨v,hg,⟨hn,hc⟩|⟨hn1,hn,hc⟩|⟨hn1,hn,hs,hc⟩|⟨hn,hc⟩⟩
  · rw[hc];have HAT:=hD (mG HTS.o hg);clear hg hc;go_enter func139,ntmps139;exact sh61
  · rw[hc];obtain⟨k,hk,hat,hv,hkn⟩:=gK HTS.o hg;have hok:=HF.o.vol v (aC hg).1;have HAT:=hD hat;have HB1:=hD hok.n1;have HB2:=hD hok.n2;have HMEM:=hD (Qm hk);have HGET:=hD (Qa hk);clear hkn;generalize ts[k]=y at *;subst hv;have HOK:=hD hok;clear hg hc hat hok;go_enter func139,ntmps139;go_wp2_with fail;refine(gV F.N ts nm a c _ (HR.o.keep HH.o.rg.bel) _ HAT.o).m ?_;rintro e w1 ⟨rfl,hb⟩;replace HE:=hD (HE.o.aIx hb);have HH:=hD (HH.o.aIx hb);clear hb;have b0:=HH.o.b0;have b1:=HH.o.b1;have r0:=HH.o.rg.r0;have r1:=HH.o.rg.r1;have f0:=HH.o.rg.f0;have f1:=HH.o.rg.f1;have q0:=HE.o.e0;have q1:=HE.o.e1;have q2:=HE.o.e2;obtain⟨b,o,rfl,hat⟩:=(HR.o.keep HH.o.rg.bel).at oM;obtain⟨e0,e1,e2,e3⟩:=hat k y HGET.o;clear hat;have HX:=hD (VX.new w1 _ rfl y 54);have x0:=HX.o.x0;have x1:=HX.o.x1;have x2:=HX.o.x2;have x3:=HX.o.x3;have HH9:=hD (HH.o.alloc #[nmV y.nm,.int .i64 y.n,.int .i64 y.r,y.sl] 54);have s0:=HH9.o.rg.r0;have s1:=HH9.o.rg.r1;have s2:=HH9.o.rg.f0;have s3:=HH9.o.rg.f1;go_wp2_with fail;replace HH:=HH9;exact sh62
  · rw[hc];obtain⟨k,hk,hat,hv,hkn⟩:=gK HTS.o hg;have hok:=HF.o.vol v (aC hg).1;have HAT:=hD hat;have HB1:=hD hok.n1;have HB2:=hD hok.n2;have HMEM:=hD (Qm hk);have HGET:=hD (Qa hk);clear hkn;generalize ts[k]=y at *;subst hv;have HOK:=hD hok;clear hg hc hat hok;go_enter func139,ntmps139;go_wp2_with fail;refine(gV F.N ts nm a c _ (HR.o.keep HH.o.rg.bel) _ HAT.o).m ?_;rintro e w1 ⟨rfl,hb⟩;replace HE:=hD (HE.o.aIx hb);have HH:=hD (HH.o.aIx hb);clear hb;have b0:=HH.o.b0;have b1:=HH.o.b1;have r0:=HH.o.rg.r0;have r1:=HH.o.rg.r1;have f0:=HH.o.rg.f0;have f1:=HH.o.rg.f1;have q0:=HE.o.e0;have q1:=HE.o.e1;have q2:=HE.o.e2;obtain⟨b,o,rfl,hat⟩:=(HR.o.keep HH.o.rg.bel).at oM;obtain⟨e0,e1,e2,e3⟩:=hat k y HGET.o;clear hat;have HX:=hD (VX.new w1 _ rfl y 54);have x0:=HX.o.x0;have x1:=HX.o.x1;have x2:=HX.o.x2;have x3:=HX.o.x3;have HIN:=hD hn;clear hn;go_wp2_with fail;refine(kV y x.a x.n _ ⟨by have:1<=y.n:=HB1.o;omega,HB2.o⟩ false HIN.o).m ?_;rintro e w2 ⟨rfl,hb⟩;replace HE:=hD ((HE.o.aIx (bR.aIw (cq #[nmV y.nm,y.n,y.r,y.sl] 54))).aIx hb);have HH:=hD ((HH.o.alloc #[nmV y.nm,.int .i64 y.n,.int .i64 y.r,y.sl] 54).aIx hb);clear hb b0 b1 r0 r1 f0 f1 e0 e1 e2 e3 q0 q1 q2 x0 x1 x2 x3;have b0:=HH.o.b0;have b1:=HH.o.b1;have r0:=HH.o.rg.r0;have r1:=HH.o.rg.r1;have f0:=HH.o.rg.f0;have f1:=HH.o.rg.f1;have q0:=HE.o.e0;have q1:=HE.o.e1;have q2:=HE.o.e2;go_wp2_with fail;exact sh62
  · rw [hc];obtain⟨k,hk,hat,hv,hkn⟩:=gK HTS.o hg;have hok:=HF.o.vol v (aC hg).1;have HAT:=hD hat;have HB1:=hD hok.n1;have HB2:=hD hok.n2;have HMEM:=hD (Qm hk);have HGET:=hD (Qa hk);clear hkn;generalize ts[k]=y at *;subst hv;have HOK:=hD hok;clear hg hc hat hok;go_enter func139,ntmps139;go_wp2_with fail;refine(gV F.N ts nm a c _ (HR.o.keep HH.o.rg.bel) _ HAT.o).m ?_;rintro e w1 ⟨rfl,hb⟩;replace HE:=hD (HE.o.aIx hb);have HH:=hD (HH.o.aIx hb);clear hb;have b0:=HH.o.b0;have b1:=HH.o.b1;have r0:=HH.o.rg.r0;have r1:=HH.o.rg.r1;have f0:=HH.o.rg.f0;have f1:=HH.o.rg.f1;have q0:=HE.o.e0;have q1:=HE.o.e1;have q2:=HE.o.e2;obtain⟨b,o,rfl,hat⟩:=(HR.o.keep HH.o.rg.bel).at oM;obtain⟨e0,e1,e2,e3⟩:=hat k y HGET.o;clear hat;have HX:=hD (VX.new w1 _ rfl y 54);have x0:=HX.o.x0;have x1:=HX.o.x1;have x2:=HX.o.x2;have x3:=HX.o.x3;have HIN:=hD hn;clear hn;go_wp2_with fail;refine(kV y x.a x.n _ ⟨by have:1<=y.n:=HB1.o;omega,HB2.o⟩ true HIN.o).m ?_;rintro e w2 ⟨rfl,hb⟩;replace HE:=hD ((HE.o.aIx (bR.aIw (cq #[nmV y.nm,y.n,y.r,y.sl] 54))).aIx hb);have HH:=hD ((HH.o.alloc #[nmV y.nm,.int .i64 y.n,.int .i64 y.r,y.sl] 54).aIx hb);clear hb b0 b1 r0 r1 f0 f1 e0 e1 e2 e3 q0 q1 q2 x0 x1 x2 x3;obtain⟨i1,i2,i3,i4⟩:=(iK _ _ _).1 HIN.o;have i5:x.n<=65536:=by have:=HB2.o;omega
    clear i1 i2 i3 i4;have b0:=HH.o.b0;have b1:=HH.o.b1;have r0:=HH.o.rg.r0;have r1:=HH.o.rg.r1;have f0:=HH.o.rg.f0;have f1:=HH.o.rg.f1;have q0:=HE.o.e0;have q1:=HE.o.e1;have q2:=HE.o.e2;go_wp2_with fail
    all_goals first
      |(exfalso;omega)
      | (obtain⟨j0,j1⟩:=HH.o.rg.cells (u:=oo) (v:=sn)
         refine br (.tuple #[.agg #[oo,sn],sn,ow]) ?_
         exact⟨_,_,rfl,cB.empty _ 0,aG.nil _ _,HH.o.rg.below⟩)
  · obtain ⟨hn1,hn2⟩:=Bool.and_eq_true_iff.1 hn;obtain⟨s1,s2,s3⟩:1<=x.n/\0<=x.s/\x.s+x.n<=F.N:=Qt hn2;have HOKG:Hid (F.with (v.set (bM v.l x))).ok:=hD (by have:=mU HF.o nm x;rw[hc]at this;exact this);have HPUT:=hD ((HF.o.vol v (aC hg).1).put HF.o.hN hn);rw[hc];obtain⟨k,hk,hat,hv,hkn⟩:=gK HTS.o hg;have hok:=HF.o.vol v (aC hg).1;have HAT:=hD hat;have HB1:=hD hok.n1;have HB2:=hD hok.n2;have HMEM:=hD (Qm hk);have HGET:=hD (Qa hk);clear hkn;generalize ts[k]=y at *;subst hv;have HOK:=hD hok;clear hg hc hat hok;go_enter func139,ntmps139;go_wp2_with fail;refine(gV F.N ts nm a c _ (HR.o.keep HH.o.rg.bel) _ HAT.o).m ?_;rintro e w1 ⟨rfl,hb⟩;replace HE:=hD (HE.o.aIx hb);have HH:=hD (HH.o.aIx hb);clear hb;have b0:=HH.o.b0;have b1:=HH.o.b1;have r0:=HH.o.rg.r0;have r1:=HH.o.rg.r1;have f0:=HH.o.rg.f0;have f1:=HH.o.rg.f1;have q0:=HE.o.e0;have q1:=HE.o.e1;have q2:=HE.o.e2;obtain⟨b,o,rfl,hat⟩:=(HR.o.keep HH.o.rg.bel).at oM;obtain⟨e0,e1,e2,e3⟩:=hat k y HGET.o;clear hat;have HX:=hD (VX.new w1 _ rfl y 54);have x0:=HX.o.x0;have x1:=HX.o.x1;have x2:=HX.o.x2;have x3:=HX.o.x3;have HIN:=hD hn1;clear hn hn1 hn2;go_wp2_with fail;refine(kV y x.a x.n _ ⟨by have:1<=y.n:=HB1.o;omega,HB2.o⟩ true HIN.o).m ?_;rintro e w2 ⟨rfl,hb⟩;replace HE:=hD ((HE.o.aIx (bR.aIw (cq #[nmV y.nm,y.n,y.r,y.sl] 54))).aIx hb);have HX:=hD (HX.o.aIx hb);have HH1:=hD HH.o.rg.lt;have HH:=hD ((HH.o.alloc #[nmV y.nm,.int .i64 y.n,.int .i64 y.r,y.sl] 54).aIx hb);clear hb b0 b1 r0 r1 f0 f1 e0 e1 e2 e3 q0 q1 q2 x0 x1 x2 x3;obtain⟨i1,i2,i3,i4⟩:=(iK _ _ _).1 HIN.o;have i5:x.n<=65536:=by have:=HB2.o;omega
    clear i1 i2 i3 i4;have b0:=HH.o.b0;have b1:=HH.o.b1;have r0:=HH.o.rg.r0;have r1:=HH.o.rg.r1;have f0:=HH.o.rg.f0;have f1:=HH.o.rg.f1;have q0:=HE.o.e0;have q1:=HE.o.e1;have q2:=HE.o.e2;have x3:=HX.o.x3;go_wp2_with fail
    all_goals try(exfalso;omega)
    refine(Wu y.l x y.a y.c _ ((HL.o y HMEM.o).keep HH.o.rg.bel) (λz hz=>BD (aL HOK.o.valid z hz)) (by have:y.l.length<=100000:=qD HOK.o;omega) HOK.o.valid HPUT.o.1).m ?_;rintro e w3 ⟨sv,mv,rfl,hos,_,hb⟩;obtain⟨sa,sc,rfl,hrs⟩:=hos.rd (by have:=qD HPUT.o.2;have:(bM y.l x).length<=100000:=this;omega);clear b0 b1 r0 r1 f0 f1 q0 q1 q2 HE;have hXl:=HX.o.lt;have ho3:=aG.far hos (cw w1 3) (.slice sa (bM y.l x).length sc) (λe=>by have:=(hos.lt _ e).1;simp only at this;omega);have HRS:=hD (ho3.rd' hrs.1);have HXA:=hD (HX.o.aIx hb);have HXB:=hD ((HX.o.aIx hb).list sa sc (bM y.l x));have HHB:=hD ((HH.o.aIx hb).aJf (i:=3) (u:= .slice sa (bM y.l x).length sc) HH1.o);clear hos hrs ho3 hb x3 HX HH;have x3:=HXA.o.x3;have g3:=HXA.o.g3;have y0:=HXB.o.x0;have y1:=HXB.o.x1;have y2:=HXB.o.x2;have y3:=HXB.o.x3;have b0:=HHB.o.b0;have b1:=HHB.o.b1;go_wp2_with fail;refine(Aa F.N ts ⟨y.nm,y.n,y.r,sa,sc,bM y.l x⟩ (some (cw b o)) c _ (HR.o.keep HHB.o.rg.bel) oM).m ?_;rintro e w4 ⟨a4,c4,rfl,hr4,hc4,hb⟩;have hk4:=HHB.o.rg.bel.on hb;have HL4:=hD (HL.o.keep hk4);have HRS4:=hD (HRS.o.keep hb);have HFR:=hD (xL (c:=c4) HF.o HTS.o hr4 HL4.o HRS4.o hc4);have HL5:Hid (nC w4 (iF ts ⟨y.nm,y.n,y.r,sa,sc,bM y.l x⟩)):=hD λy hy=>(BK hy).elim (λe=>by rw[e];exact HRS4.o) (HL4.o y);have HGV:Hid ((iF ts ⟨y.nm,y.n,y.r,sa,sc,bM y.l x⟩).map RT.vol=(F.with (y.vol.set (bM y.l x))).vs):=hD sh66;have HH4:=hD (HHB.o.aIx hb);clear x3 g3 y0 y1 y2 y3 b0 b1 hk4 hb HXA HXB HHB;have HT:=hD (Bx.new w4 _ rfl F.N (.slice a4 (iF ts ⟨y.nm,y.n,y.r,sa,sc,bM y.l x⟩).length c4) 28);have hk5:=(bQ w4).aIw (cq #[F.N,.slice a4 (iF ts ⟨y.nm,y.n,y.r,sa,sc,bM y.l x⟩).length c4] 28);have HH5:=hD (HH4.o.aIx hk5);have HR5:=hD (hr4.keep hk5);have HL6:=hD (HL5.o.keep hk5);have HFR5:=hD (HFR.o.keep hk5);clear hk5 hr4 hc4 HL5 HFR HH4 HL4 HRS4 HRS;go_upto_region 9 with fail;obtain⟨ws,hws⟩:∃l,l=iF ts ⟨y.nm,y.n,y.r,sa,sc,bM y.l x⟩:=⟨_,rfl⟩;rw[<-hws]at HT HR5 HL6 HFR5 HGV HH5 ⊢;generalize w4.alloc (cq #[F.N,.slice a4 ws c4] 28)=W5 at *;generalize w4.heap.size=T5 at *;clear hws;have HG:=hD (HH5.o.aIx bR.drew);have HX:=hD (HT.o.aIx bR.drew);have HRR:=hD (HR5.o.keep bR.drew);have HLG:=hD (HL6.o.keep bR.drew);have HFR6:=hD (HFR5.o.keep bR.drew);have hbw:=HG.o.rg.bel;have HRF:=hD (HR.o.keep hbw);have HLF:=hD (HL.o.keep hbw);clear hbw;have b0:=HG.o.b0;have b1:=HG.o.b1;have t0:=HX.o.c0;have t1:=HX.o.c1
    go_region_law ((go_simp;go_at_call 102;refine(Bu F (F.with (y.vol.set (bM y.l x))) ts ws (cw b o) a4 c c4 _ HF.o HOKG.o rfl HTS.o HGV.o HRF.o HLF.o HRR.o HLG.o).m ?_;rintro e w6 ⟨vv,rfl,hs4,hb4⟩;have HG4:=hD (HG.o.aIx hb4);have HX4:=hD (HX.o.aIx hb4);have t0:=HX4.o.c0;have t1:=HX4.o.c1;have r0:=HG4.o.rg.r0;have r1:=HG4.o.rg.r1;have f0:=HG4.o.rg.f0;have f1:=HG4.o.rg.f1))
    all_goals
      have HFR7:=hD (HFR6.o.keep hb4);have HS4:=hD (sV (u:=F.N) (v:= .slice a4 ws c4) hs4 HG.o.rg.lt);clear hs4 hb4;go_wp2_with fail;obtain⟨j0,j1⟩:=HG4.o.rg.cells (u:=F.N) (v:= .slice a4 ws c4);refine br (.tuple #[.agg #[F.N,.slice a4 ws c4],vv,oo]) ?_;exact⟨_,_,rfl,HG4.o.rg.bx HFR7.o,HS4.o.mono HG.o.rg.bel.size,HG4.o.rg.below⟩
end Go.Proofs.YtphfgbbbejloaaaGreatDoor
