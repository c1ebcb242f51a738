/- package family: New, with, vacant, has, find, Name. Conditions: as each theorem says. -/
import Derived.Test.YtphfgbbbejloaaaGreatDoorHAp
import Derived.Shelf.SlMaps.Clone
import Derived.Test.YtphfgbbbejloaaaGreatDoorHX
set_option linter.unusedSimpArgs false
set_option linter.unusedVariables false
set_option linter.unusedSectionVars false
set_option maxRecDepth 100000
set_option maxHeartbeats 16000000
namespace Go.Proofs.YtphfgbbbejloaaaGreatDoor
open Go.RowKit Go.Maps
open Go.Proofs.Tryz
open Go.Shelf
variable[Gst]
theorem aEi{P:Prop}(h:P:=by rw[World.cell?_alloc_at (hn:=by simp)];rfl):P:=h
theorem aEj{P:Prop}(h:P:=by
  go_enter func222,ntmps222;go_wp2_with fail;go_ret;exact aEl
  ):P:=h
theorem aEl{P:Prop}(h:P:=by
  exact⟨rfl,bL⟩
  ):P:=h
theorem VW{P:Prop}(h:P:=by
  go_enter func79,ntmps79;go_wp2_with fail;refine HFI.o.m ?_;rintro e w1 ⟨rfl,hb⟩;have HB:=hD hb;clear hb;go_wp2_with fail;go_ret3;exact⟨rfl,(HB0.o.on HB.o).aIw _⟩
  ):P:=h
theorem VV{P:Prop}(h:P:=by
  obtain⟨j0,j1⟩:=HR2.o.cells (u:= .slice a n c) (v:= .map (some W.heap.size));refine br (.agg #[.slice a n c,.map (some W.heap.size)]) ?_;exact⟨_,rfl,HT2.o,HR2.o.below⟩
  ):P:=h
theorem aEk{P:Prop}(h:P:=by
  rintro e w1 ⟨rfl,hb⟩;have HB:=hD hb;clear hb;go_wp2_with fail;go_ret;exact⟨rfl,(bR.aIw _).on HB.o⟩
  ):P:=h
shelf_lay_g SlLaysW.n5 Slmc 5 at Tryz 225 as Tryz.cloneM
theorem QJ(w:Wd):ep 225 #[.map none] w λe w'=>e= .returned (.map none)/\w=w':=(AnyW.maps_Clone_nil Tryz.cloneM w).mono λ_ _ ⟨h1,h2⟩=>⟨h1,h2.symm⟩
theorem Fa(b:Nat)(ts:List VT)(w:Wd)(h:Av w b ts):ep 225 #[.map (some b)] w λe w'=>e= .returned (.map (some w.heap.size))/\Av w' w ts/\Below w w w':=
 (AnyW.maps_Clone_owns Tryz.cloneM 9 lW b ts.length (jE ts) w h).mono λ_ _ ⟨h1,h2,_,h4⟩=>⟨h1,h2,h4⟩
theorem YW(n:Nat)(w:Wd)(hn:n<=65536)(hG:Gst.g=none):ep 81 #[n] w λe w'=>∃fv,e= .returned (.tuple #[fv,oo])/\bG w' fv ⟨n,[]⟩/\Below w w w':=by
 have HG:=hD hG;clear hG;go_enter func81,ntmps81;go_wp2_with fail;refine(aAz n _ hn).m ?_;rintro e w1 ⟨v,rfl,ho,hb⟩;obtain⟨a,c,rfl,hr⟩:=ho.rd pO;have hrl:(List.replicate n (0:Int)).length=n:=by simp
 rw[hrl]at *;have hR:=((RF.new w w 121 bR).aIx hb).aIx ((bQ w1).aIw (cq #[.slice a n c] 118));have hr1:=hr.keep ((bQ w1).aIw (cq #[.slice a n c] 118));have g0:=hR.r0;have g1:=hR.r1;have f0:=hR.f0;have f1:=hR.f1;have HR:=hD hR;have HI:=hD (hR.ints (u:= .slice a n c) (v:= .map none) hr1);clear ho hr hb hR hr1 hrl;go_wp2_with fail;obtain⟨k0,k1⟩:=HR.o.cells (u:= .slice a n c) (v:= .map none);refine br (.tuple #[.agg #[.slice a n c,.map none],oo]) ?_;exact⟨_,rfl,⟨a,c,none,rfl,⟨HI.o,λ_ e=>by rw[HG.o]at e;cases e⟩,[],rfl,sM,.inl ⟨rfl,rfl⟩⟩,HR.o.below⟩
def ZR(w:Wd)(cv:Value)(ts:List VT)(p:VT)(e:Ending)(w':Wd):Prop:=
 ∃b,e= .returned (.agg #[cv,.map (some b)])/\RdT w' (some b) (Dj p (AX ts p.nm))/\Below w w w'
theorem Du(a0:OA)(n0 c0:Nat)(a:OA)(n c:Nat)(mb:Option Nat)(ts:List VT)(p:VT)(w:Wd)(h:RdT w mb ts)(hp:aD w (.pointer p.a) p.t)(hn:p.nm.length<=maxLen)(hl:ts.length<=1000):
  ep 220 #[.agg #[.slice a0 n0 c0,.map mb],.agg #[.slice a n c],nmV p.nm,p.val] w (ZR w (.slice a n c) ts p):=by
 have hR0:RF w ((((w.alloc (cq #[.slice a0 n0 c0,.map mb] 121)).alloc (cq #[.slice a n c] 118)).alloc (cq #[p.n,p.r,.pointer p.a] 170)).alloc (cq #[sn,.map none] 121)) (((w.alloc (cq #[.slice a0 n0 c0,.map mb] 121)).alloc (cq #[.slice a n c] 118)).alloc (cq #[p.n,p.r,.pointer p.a] 170)).heap.size:=RF.new w _ _ bL;have e0:(((w.alloc (cq #[.slice a0 n0 c0,.map mb] 121)).alloc (cq #[.slice a n c] 118)).alloc (cq #[p.n,p.r,.pointer p.a] 170)).heap.size=w.heap.size+1+1+1:=by simp
 rw [e0]at hR0;have k0:∀i,((((w.alloc (cq #[.slice a0 n0 c0,.map mb] 121)).alloc (cq #[.slice a n c] 118)).alloc (cq #[p.n,p.r,.pointer p.a] 170)).alloc (cq #[sn,.map none] 121)).cell? (cw (cf w) i)=((w.alloc (cq #[.slice a0 n0 c0,.map mb] 121)).alloc (cq #[.slice a n c] 118)).cell? (cw (cf w) i):=λi=>by
  rw[Ya _ _ _ sM,Ya _ _ _ sM]
 have k1:∀i,((((w.alloc (cq #[.slice a0 n0 c0,.map mb] 121)).alloc (cq #[.slice a n c] 118)).alloc (cq #[p.n,p.r,.pointer p.a] 170)).alloc (cq #[sn,.map none] 121)).cell? (cw w i)=(w.alloc (cq #[.slice a0 n0 c0,.map mb] 121)).cell? (cw w i):=λi=>by
  rw[Ya _ _ _ pO,Ya _ _ _ pO,Ya _ _ _ sM]
 have k2:∀i,((((w.alloc (cq #[.slice a0 n0 c0,.map mb] 121)).alloc (cq #[.slice a n c] 118)).alloc (cq #[p.n,p.r,.pointer p.a] 170)).alloc (cq #[sn,.map none] 121)).cell? (cw (ch w) i)=(((w.alloc (cq #[.slice a0 n0 c0,.map mb] 121)).alloc (cq #[.slice a n c] 118)).alloc (cq #[p.n,p.r,.pointer p.a] 170)).cell? (cw (ch w) i):=λi=>by
  rw[Ya _ _ _ sM]
 have q0:=(k1 1).trans (show _=some (.map mb) by simp);have q1:=(k0 0).trans (show _=some (.slice a n c) by simp);have q2:=(k2 0).trans (by rw[World.cell?_alloc_at (hn:=by simp)];rfl:_=some (.int .i64 p.n));have q3:=(k2 1).trans (by rw[World.cell?_alloc_at (hn:=by simp)];rfl:_=some (.int .i64 p.r));have q4:=(k2 2).trans (by rw[World.cell?_alloc_at (hn:=by simp)];rfl:_=some (.pointer p.a));have HT:=hD (h.keep hR0.bel);have HP:=hD (aD.keep hR0.bel _ hp);have HR:=hD hR0;clear k0 k1 k2 e0 h hp hR0;go_enter func220,ntmps220;go_wp2_with fail;obtain⟨W,hW⟩:∃W,((((w.alloc (cq #[.slice a0 n0 c0,.map mb] 121)).alloc (cq #[.slice a n c] 118)).alloc (cq #[p.n,p.r,.pointer p.a] 170)).alloc (cq #[sn,.map none] 121))=W:=⟨_,rfl⟩;rw[hW]at q0 q1 q2 q3 q4 HT HP HR ⊢;clear hW;have hq:=λw p=>run_eql_map_nil_sl (P:=prog) w 119 _ _ p underlying119;have hmm:= @run_makeMap prog;have fin:∀(b:Nat) (w2:Wd),Below W W w2->w2.ownsMap prog 9 lW b (ts.length+1) ((jE ts).put (.string p.nm) (.held p.val))->RF w w2 (w.heap.size+1+1+1)/\RdT (fP w2 (w.heap.size+1+1+1) (.slice a n c) (.map (some b))) (some b) (Dj p (AX ts p.nm)):=λb w2 hb2 hm2=>by
  rw[aBs]at hm2;have hR:=HR.o.aIx hb2;refine⟨hR,⟨λq hq=> ?_,.inr ⟨b,rfl,hR.map (Hu hm2)⟩⟩⟩;rcases XK.1 hq with rfl|hq
  ·exact hR.tree _ (aD.keep hb2 _ HP.o)
  ·exact hR.tree _ (aD.keep hb2 _ (HT.o.1 q (LG.1 hq).1))
 have FIN:=hD fin;clear fin;rcases HT.o.2 with ⟨rfl,rfl⟩|⟨b,rfl,hm⟩
 ·refine(QJ _).m ?_;rintro e w1 ⟨rfl,rfl⟩;have hB0:=(bQ W).aIw (.map #[] 0)
  go_wp2_with (at_mapUpdate;refine wpList_mapUpdate_own _ rfl _ _ _ 119 rfl 9 170 vK underlying119 lW W.heap.size 0 (jE []) rfl (World.ownsMap_made W _ _ _) dE _ _ (.string p.nm) rfl rfl (LA hn) (.held p.val) [] (lV _) ?_;intro w2 hown2 hgrow2;have hb2:Below W W w2:=hB0.grown hgrow2 sM (λk hk=>by cases hk;exact Ye _);have y1:=hb2.keep q1;obtain⟨hR,hT⟩:=FIN.o _ _ hb2 hown2;have r0:=hR.r0;have r1:=hR.r1;have f0:=hR.f0;have f1:=hR.f1;have HR2:=hD hR;have HT2:=hD hT;clear hR hT hown2 hgrow2 hb2)
  exact VV
 ·refine(Fa b ts _ hm).m ?_;rintro e w1 ⟨rfl,hm1,hb1⟩;have HQ1:=hD q1;have q1:=hb1.keep q1;have q2:=hb1.keep q2;have q3:=hb1.keep q3;have q4:=hb1.keep q4;have HM1:=hD hm1;have HB1:=hD hb1;clear hm hm1 hb1
  go_wp2_with (at_mapUpdate;refine wpList_mapUpdate_own _ rfl _ _ _ 119 rfl 9 170 vK underlying119 lW W.heap.size ts.length (jE ts) rfl HM1.o (by simp only[maxLen];omega) _ _ (.string p.nm) rfl rfl (LA hn) (.held p.val) [] (lV _) ?_;intro w2 hown2 hgrow2;have hb2:Below W W w2:=HB1.o.grown hgrow2 HB1.o.size (λk hk=>by cases hk;exact Ye _);have y1:=hb2.keep (HQ1.o);obtain⟨hR,hT⟩:=FIN.o _ _ hb2 hown2;have r0:=hR.r0;have r1:=hR.r1;have f0:=hR.f0;have f1:=hR.f1;have HR2:=hD hR;have HT2:=hD hT;clear hR hT hown2 hgrow2 hb2)
  exact VV
def SH(vs:List Vol)(nm:LU):Int:=if (aN vs nm).isSome then 10 else if 32<=vs.length then 7 else 0
theorem wX(a:OA)(n c:Nat)(mb:Option Nat)(ts:List VT)(nm:LU)(w:Wd)(h:RdT w mb ts)(hn:nm.length<=maxLen)(r:Int)(hr:SH (ts.map VT.vol) nm=r):
  ep 222 #[.agg #[.slice a n c,.map mb],nmV nm] w (RB w r):=by
 have hl:=Aw (h.keep ((bQ w).aIw (cq #[.slice a n c,.map mb] 121))) hn;unfold SH at hr;rw[oG]at hr
 cases hg:mW ts nm with
 | some p=>
  rw[uL hg]at hl;rw[hg]at hr;obtain rfl:(10:Int)=r:=by simpa using hr
  have hl:=hl;clear h hg hr;exact aEj
 | none=>
  rw[uM hg]at hl;rw[hg]at hr;have hlen:=λty=>aBg (h.keep (((bQ w).aIw (cq #[.slice a n c,.map mb] 121)).aIw (cq #[oo,oo,.pointer none] 170))) ty;clear h hg;by_cases h32:32<=ts.length
  ·obtain rfl:(7:Int)=r:=by simpa [h32]using hr
   clear hr;exact aEj
  ·obtain rfl:(0:Int)=r:=by simpa [h32]using hr
   clear hr;exact aEj
theorem aBl(n r:Int)(a:OA)(p q:Int)(w:Wd)(hn:0<=n/\n<=65536)(hp: -9223372036854775808<=p/\p<=9223372036854775807):
  ep 129 #[.agg #[n,r,.pointer a],p,q] w (RB w (.bool (inB p q n))):=by
 go_enter func129,ntmps129;go_wp2
 all_goals
  go_ret;exact⟨aU (by simp only[inB,Qc,Bool.false_eq_true,false_iff];omega),bL⟩
theorem YJ(n r:Int)(a:OA)(p q:Int)(w:Wd)(hn:0<=n/\n<=65536)(hp: -9223372036854775808<=p/\p<=9223372036854775807)(b:Bool)(hb:inB p q n=b):
  ep 129 #[.agg #[n,r,.pointer a],p,q] w (RB w (.bool b)):=by
 subst hb;exact aBl n r a p q w hn hp
def lY(ts:List VT)(nm:LU)(p q:Int):Value × Int:=match mW ts nm with
 |none=>(.agg #[oo,oo,.pointer none],9)
 |some v=>if inB p q v.n=false then (.agg #[oo,oo,.pointer none],2)else (v.val,0)
theorem wK(a:OA)(n c:Nat)(mb:Option Nat)(ts:List VT)(nm:LU)(p q:Int)(w:Wd)(h:RdT w mb ts)(hn:nm.length<=maxLen)(hts:∀v∈ts,0<=v.n/\v.n<=65536)(hp: -9223372036854775808<=p/\p<=9223372036854775807):
  ep 89 #[.agg #[.slice a n c,.map mb],nmV nm,p,q] w (RB w (.tuple #[(lY ts nm p q).1,.int .i64 (lY ts nm p q).2])):=by
 have hl:=Aw (h.keep (((bQ w).aIw (cq #[.slice a n c,.map mb] 121)).aIw (cq #[oo,oo,.pointer none] 170))) hn;unfold lY
 cases hg:mW ts nm with
 | none=>
  rw[uM hg]at hl;clear h hg;go_enter func89,ntmps89;go_wp2_with fail;refine br (.tuple #[.agg #[oo,oo,.pointer none],.int .i64 9]) ?_;exact aEl
 | some v=>
  rw[uL hg]at hl;have hv:=hts v (lX hg).1;clear h hg hts;cases hb:inB p q v.n
  all_goals
   have hW:Below w w (((w.alloc (cq #[.slice a n c,.map mb] 121)).alloc (cq #[oo,oo,.pointer none] 170)).alloc (cq #[.int .i64 v.n,.int .i64 v.r,.pointer v.a] 170)):=bL
   have k1:∀i,(((w.alloc (cq #[.slice a n c,.map mb] 121)).alloc (cq #[oo,oo,.pointer none] 170)).alloc (cq #[.int .i64 v.n,.int .i64 v.r,.pointer v.a] 170)).cell? (cw (cf w) i)=((w.alloc (cq #[.slice a n c,.map mb] 121)).alloc (cq #[oo,oo,.pointer none] 170)).cell? (cw (cf w) i):=λi=>by
    rw[Ya _ _ _ sM]
   have k2:∀i,(((w.alloc (cq #[.slice a n c,.map mb] 121)).alloc (cq #[oo,oo,.pointer none] 170)).alloc (cq #[.int .i64 v.n,.int .i64 v.r,.pointer v.a] 170)).frozen? (cw (cf w) i)=((w.alloc (cq #[.slice a n c,.map mb] 121)).alloc (cq #[oo,oo,.pointer none] 170)).frozen? (cw (cf w) i):=λi=>by
    rw[World.frozen?_alloc_old _ _ _ sM]
   have r0:=(k1 0).trans (show _=some (.int .i64 0) by simp);have r1:=(k1 1).trans (show _=some (.int .i64 0) by simp);have r2:=(k1 2).trans (show _=some (.pointer none) by simp);have f0:=(k2 0).trans (show _=false by simp);have f1:=(k2 1).trans (show _=false by simp);have f2:=(k2 2).trans (show _=false by simp);have HW:=hD hW;clear k1 k2 hW
  ·go_enter func89,ntmps89;go_wp2_with fail;refine(YJ v.n v.r v.a p q _ hv hp false hb).m ?_;rintro e w1 ⟨rfl,hb1⟩;have f0:=hb1.aJc r0 f0;have f1:=hb1.aJc r1 f1;have f2:=hb1.aJc r2 f2;have r0:=hb1.keep r0;have r1:=hb1.keep r1;have r2:=hb1.keep r2;have hB:=HW.o.on hb1;have HBB:=hD (((hB.setCell (p:=(cw (cf w) 0)) sM oo).setCell (p:=(cw (cf w) 1)) sM oo).setCell (p:=(cw (cf w) 2)) sM (.pointer none));clear hb1 hB;go_wp2_with fail;obtain⟨j0,j1,j2⟩:=Ao (u0:=oo) (u1:=oo) (u2:= .pointer none) r0 r1 r2;refine br (.tuple #[.agg #[oo,oo,.pointer none],ow]) ?_;exact⟨rfl,HBB.o⟩
  ·go_enter func89,ntmps89;go_wp2_with fail;refine(YJ v.n v.r v.a p q _ hv hp true hb).m ?_;rintro e w1 ⟨rfl,hb1⟩;have f0:=hb1.aJc r0 f0;have f1:=hb1.aJc r1 f1;have f2:=hb1.aJc r2 f2;have r0:=hb1.keep r0;have r1:=hb1.keep r1;have r2:=hb1.keep r2;have y0:w1 (cw (ch w) 0)=some (.int .i64 v.n):=hb1.keep aEi;have y1:w1 (cw (ch w) 1)=some (.int .i64 v.r):=hb1.keep aEi;have y2:w1 (cw (ch w) 2)=some (.pointer v.a):=hb1.keep aEi;have hB:=HW.o.on hb1;have HBB:=hD (((hB.setCell (p:=(cw (cf w) 0)) sM (.int .i64 v.n)).setCell (p:=(cw (cf w) 1)) sM (.int .i64 v.r)).setCell (p:=(cw (cf w) 2)) sM (.pointer v.a));clear hb1 hB;go_wp2_with fail
   all_goals
    obtain⟨j0,j1,j2⟩:=Ao (u0:=v.n) (u1:=v.r) (u2:= .pointer v.a) r0 r1 r2;refine br (.tuple #[.agg #[.int .i64 v.n,.int .i64 v.r,.pointer v.a],oo]) ?_;exact⟨rfl,HBB.o⟩
theorem RdV.fit{F:Fam}(hF:F.ok){ts:List VT}(h:ts.map VT.vol=F.vs):∀v∈ts,v.vol.ok F.N:=λv hv=>hF.vol _ (by rw[<-h];exact Yd.2 ⟨v,hv,rfl⟩)
theorem rY{F:Fam}(hF:F.ok){ts:List VT}(h:ts.map VT.vol=F.vs):∀v∈ts,0<=v.n/\v.n<=65536:=λv hv=>by
 have:=RdV.fit hF h v hv;have h1:=this.n1;have h2:=this.n2;exact⟨by have:(1:Int)<=v.n:=h1;omega,h2⟩
theorem DZ{F:Fam}(hF:F.ok){ts:List VT}(h:ts.map VT.vol=F.vs):ts.length<=32:=by
 have:=hF.few;rw[<-h,Yy]at this;exact this
theorem UC(F:Fam)(fv:Value)(w:Wd)(hF:F.ok)(h:bG w fv F):ep 207 #[fv] w (RB w F.N):=by
 obtain⟨a,c,mb,rfl,hr,_⟩:=h;have hN:=hF.hN;clear hr;go_enter func207,ntmps207;go_wp2_with fail;refine(Tf a F.N c _ hN).m ?_;exact aEk
theorem UO(F:Fam)(fv:Value)(s:Int)(w:Wd)(h:bG w fv F):ep 160 #[fv,s] w (RB w (ofC F.C s)):=by
 obtain⟨a,c,mb,rfl,hr,_⟩:=h;have HI:=hD (aGo F.C a c s _ (hr.keep ((bQ w).aIw (cq #[.slice a F.N c,.map mb] 121))));rw[F.aIz]at HI;clear hr;go_enter func160,ntmps160;go_wp2_with fail;refine HI.o.m ?_;exact aEk
theorem oH(C:List Int):(iY C).length<=65536:=bE (dX _).1
theorem Mx(F:Fam)(fv:Value)(w:Wd)(h:bG w fv F):ep 185 #[fv] w λe w'=>∃sv,e= .returned sv/\aG w' w sv (iY F.C)/\Below w w w':=by
 obtain⟨a,c,mb,rfl,hr,_⟩:=h;have HI:=hD (Vt F.C a c _ (hr.keep ((bQ w).aIw (cq #[.slice a F.N c,.map mb] 121))));rw[F.aIz]at HI;have hfs:=oH F.C;clear hr;go_enter func185,ntmps185;go_wp2_with fail;refine HI.o.m ?_;rintro e w1 ⟨sv,rfl,ho,hb⟩;obtain⟨sa,sc,rfl,_⟩:=ho.rd oM;have HB:=hD hb;have HO:=hD ho;clear hb ho;go_wp2_with fail;go_ret;exact⟨_,rfl,aG.mono HO.o sM,(bR.aIw _).on HB.o⟩
theorem YR{N:Nat}{v:VT}(h:v.vol.ok N):aH v.t.toL=true/\fT v.t.toL=true/\inside v.t.toL v.n:=⟨h.valid,h.norm,h.ins⟩
theorem zC(F:Fam)(fv:Value)(nm:LU)(p:Int)(w:Wd)(hF:F.ok)(h:bG w fv F)(hn:nm.length<=maxLen)(hp: -9223372036854775808<=p/\p<=9223372036854775807):
  ep 79 #[fv,nmV nm,p] w (RB w (.tuple #[.int .i64 (aX F nm p).1,.bool (aX F nm p).2.1,.int .i64 (aX F nm p).2.2])):=by
 obtain⟨a,c,mb,rfl,hr,ts,hts,hT⟩:=h;have hb0:=(bQ w).aIw (cq #[.slice a F.N c,.map mb] 121);have HFI:=hD (wK a F.N c mb ts nm p 1 _ (hT.keep hb0) hn (rY hF hts) hp);have HT:=hD hT;have HK:=hD (RdV.fit hF hts);have HB0:=hD hb0;unfold aX;rw[<-hts,oG];clear hr hT hb0 hts
 cases hg:mW ts nm with
 | none=>
  have h0:lY ts nm p 1=(.agg #[oo,oo,.pointer none],9):=by simp[lY,hg]
  rw[h0]at HFI;clear h0 hg;exact VW
 | some v=>
  have hm:=(lX hg).1;cases hib:inB p 1 v.n
  ·have h0:lY ts nm p 1=(.agg #[oo,oo,.pointer none],2):=by simp[lY,hg,hib]
   have h1:inB p 1 v.vol.n=false:=hib;rw[h0]at HFI;simp only[Option.map_some,h1,if_true];clear h0 hg hm hib h1;exact VW
  ·have h0:lY ts nm p 1=(v.val,0):=by simp[lY,hg,hib]
   have h1:inB p 1 v.vol.n=true:=hib;rw[h0]at HFI;simp only[Option.map_some,h1,Bool.true_eq_false,if_false];have HV:=hD (HT.o.1 v hm);have HO:=hD (YR (HK.o v hm));clear h0 hg hm hib h1;go_enter func79,ntmps79;go_wp2_with fail;refine HFI.o.m ?_;rintro e w1 ⟨rfl,hb⟩;have HB:=hD ((HB0.o.on hb).aIw (cq #[v.n,v.r,.pointer v.a] 170));clear hb;go_wp2_with fail;refine(NG v.t p (.pointer v.a) _ (aD.keep HB.o v.t HV.o) HO.o.1 hp).m ?_;rintro e w2 ⟨rfl,hb2⟩;have HB2:=hD (HB.o.on hb2);clear hb2;go_wp2_with fail;go_ret3;exact⟨rfl,HB2.o⟩
theorem EG{p q n:Int}(h:inB p q n=true)(hn:n<=65536):fA p q 65536=true:=by
 obtain⟨h1,h2,h3,h4⟩:=(iK _ _ _).1 h;exact Qo oM
theorem GQ(p q:Int)(w:Wd)(hp: -9223372036854775808<=p/\p<=9223372036854775807)(hq: -9223372036854775808<=q/\q<=9223372036854775807):
  ep 107 #[.agg #[.pointer none],p,q] w (DJ w []):=by
 cases hw:fA p q 65536
 ·exact NF p q (.pointer none) w ⟨none,rfl⟩ hw hp hq
 ·have:=Cs .nil p q (.pointer none) w rfl rfl rfl hw;have h0:inL Tr.nil.toL p q=[]:=rfl;rw[h0]at this;exact this
theorem Im(F:Fam)(fv:Value)(nm:LU)(p q:Int)(w:Wd)(hF:F.ok)(h:bG w fv F)(hn:nm.length<=maxLen)(hp: -9223372036854775808<=p/\p<=9223372036854775807)(hq: -9223372036854775808<=q/\q<=9223372036854775807):
  ep 74 #[fv,nmV nm,p,q] w λe w'=>∃sv,e= .returned (.tuple #[sv,.int .i64 (dP F nm p q).2])/\aG w' w sv (dP F nm p q).1/\Below w w w':=by
 obtain ⟨a,c,mb,rfl,hr,ts,hts,hT⟩:=h;have hb0:=(bQ w).aIw (cq #[.slice a F.N c,.map mb] 121);have HFI:=hD (wK a F.N c mb ts nm p q _ (hT.keep hb0) hn (rY hF hts) hp);obtain⟨v1,e1,L,hfc,hrf,hcall⟩:∃(v1:VT) (e1:Int) (L:List E),lY ts nm p q=(v1.val,e1)/\dP F nm p q=(L,e1)/\L.length<=65536/\ ∀w',Below w w w'->ep 107 #[.agg #[.pointer v1.a],p,q] w' (DJ w' L):=by
  unfold dP lY;rw[<-hts,oG]
  cases hg:mW ts nm with
  |none=>exact⟨⟨[],0,0,none,.nil⟩,9,[],rfl,rfl,sM,λw' _=>GQ p q w' hp hq⟩
  | some v=>
   have hm:=(lX hg).1;have hk:=RdV.fit hF hts v hm;cases hib:inB p q v.n
   ·have h1:inB p q v.vol.n=false:=hib;simp only[Option.map_some,h1,if_true];exact⟨⟨[],0,0,none,.nil⟩,2,[],by simp[hib],rfl,sM,λw' _=>GQ p q w' hp hq⟩
   ·have h1:inB p q v.vol.n=true:=hib;simp only[Option.map_some,h1,Bool.true_eq_false,if_false];exact⟨v,0,_,by simp[hib],rfl,Nat.le_trans (mV _ p q (aL hk.valid)).1 hk.short.1,λw' hb=>Cs v.t p q (.pointer v.a) w' (aD.keep hb v.t (hT.1 v hm)) hk.valid hk.norm (EG h1 hk.n2)⟩
 rw[hfc]at HFI;rw[hrf];have HC:=hD hcall;have HB0:=hD hb0;clear hr hT hb0 hts hfc hrf hcall;go_enter func74,ntmps74;go_wp2_with fail;refine HFI.o.m ?_;rintro e w1 ⟨rfl,hb⟩;have HB:=hD ((HB0.o.on hb).aIw (cq #[v1.n,v1.r,.pointer v1.a] 170));clear hb;go_wp2_with fail;refine(HC.o.2 _ HB.o).m ?_;rintro e w2 ⟨sv,rfl,ho,hb2⟩;obtain⟨sa,sc,rfl,_⟩:=ho.rd (by have:=HC.o.1;omega);have HB2:=hD (HB.o.on hb2);have HO:=hD (aG.mono ho HB.o.size);clear hb2 ho;go_wp2_with fail;go_ret2;exact⟨_,rfl,HO.o,HB2.o⟩
end Go.Proofs.YtphfgbbbejloaaaGreatDoor
