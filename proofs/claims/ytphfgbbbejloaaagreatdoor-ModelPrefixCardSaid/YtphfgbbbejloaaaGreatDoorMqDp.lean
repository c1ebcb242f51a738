/- package mapper: Plan. Conditions: as each theorem says. -/
import Derived.Test.YtphfgbbbejloaaaGreatDoorHMp
set_option linter.unusedSimpArgs false
set_option linter.unusedVariables false
set_option linter.unusedSectionVars false
set_option maxRecDepth 100000
set_option maxHeartbeats 16000000
namespace Go.Proofs.YtphfgbbbejloaaaGreatDoor
open Go.RowKit Go.Maps
open Go.Proofs.Tryz
variable[Gst]
theorem sh174{P:Prop}(h:P:=by have:=HB4.o.size;simp only[World.size_alloc];omega):P:=h
theorem sh173{P:Prop}(h:P:=by
  go_upto_region 28 with fail;have hu:=gM F.C l p (show i+1<=n by omega);rw[jA HXJ.o,HKK.o,<-hSk.o]at hu;have HGR:=hD (UU S (eF F.C l p i) R hR.o oM);obtain⟨r0,R2,hRR,hr0,hR2⟩:=HGR.o;clear HGR;subst hRR;have HR2:Hid (R2=S.drop (eF F.C l p (i+1))):=hD (by rw[jA HXJ.o];exact hR2);have HPI:Hid (bK F.C l p S i=r0):=hD (by rw[nH HXJ.o];exact hr0);obtain⟨fb,fo,rfl,hfat,HRI2⟩:=WN hRI.o;have g0:=HB2.o.keep hfat;have HCH:Hid (chL F.C l p S (i+1)=chL F.C l p S i++[⟨(p:Int)+i,1,r0⟩]):=hD (by rw[ZA HXJ.o,HPI.o];rfl);have hcl:(chL F.C l p S i).length<=i:=JK i;have hRl:R2.length+1<=fc:=hRc;have HRI3:=hD HRI2;clear hR hRI hR2 hr0 hfat hu HRI2 hRc;generalize chL F.C l p S i=CH at *;simp only[List.length_cons];refine wpr ?_
  repeat(go_big_quiet_step (fail))
  refine wqn λnq=> ?_
  all_goals
   generalize hW:World.next _ nq=W3;have hb3:Below w2 w2 W3:=by rw[<-hW];exact Below.aJd bR _
   have HB3:=hD (HB2.o.on hb3);have HW3:=hD (HW2.o.keep hb3);have HC3:=hD (HC2.o.keep hb3);have HT3:=hD (HT2.o.keep hb3);clear hb3 hW HB2 HW2 HC2 HT2 HP2 g0
   go_upto_region 30 with (at_builtin;(refine aO _ rfl _ _ 52 rfl wB.heap.size 128 i0 (.agg #[oo,oo,oo]) 3 24 underlying52 hi hz0 hz1 hz2 rfl dE _ _ _ rfl (Qu HC3.o _) (cw W3 0) 1 1 (E.cells (⟨(p:Int)+i,1,r0⟩:E)) rfl rfl (sI _ _ sM _ _) (dF _) oM (by simp only[maxLen];omega) (by have:=HB3.o.size;simp only[World.size_alloc];omega) ?_);intro v1 w1 hown1 hgrow1 hwhere1)
   have hka:=(bQ W3).aIw (cq #[.int .i64 ((p:Int)+i),ol,r0] 128);have hne:=Ub hDJ.o;have HB4:=hD ((HB3.o.on hka).aJa hgrow1 λj hj=>(HC3.o.lt j hj).1);have HW4:=hD ((HW3.o.keep hka).other hgrow1 hne);have HC4:=hD (aG.snoc hown1 sM);have HT4:=hD ((HT3.o.keep hka).grown hgrow1 (λe=>HCT.o _ e rfl));have HDJ4:=hD (Xj hDJ.o (HW3.o.keep hka) hwhere1);rw[<-HCH.o]at HC4;clear hown1 hgrow1 hwhere1 hka hne HB3 HW3 HC3 HT3;have t0:=HT4.o.c0;have t1:=HT4.o.c1;have t2:=HT4.o.c2;have t3:=HT4.o.c3;have t4:=HT4.o.c4;have t5:=HT4.o.c5;have t6:=HT4.o.c6;have t7:=HT4.o.c7;simp only[Nat.zero_mul,Nat.zero_add]at t0 t1 t2 t3 t4 t5 t6 t7;have hwl:=wW (C:=F.C) (l:=l) (p:=p) (S:=S) (D:=D) i
   go_wp2_with (at_builtin;go_loud (refine aO _ rfl _ _ 144 rfl wB.heap.size 151 j0 (Sw.v ⟨0,Bk.zero⟩) 9 16 underlying144 hj hy0 hy1 hy2 rfl dE _ _ _ rfl (Qu HW4.o _) (cw w1 0) 1 1 (Sw.cells ⟨r0,⟨y0,y1,y2,y3,y4,y5,y6,y7⟩⟩) rfl rfl (aFa _ _ sM _ _) (Sw.one _) oM (by simp only[maxLen];omega) sh174 ?_);intro v2 w5 hown2 hgrow2 hwhere2)
   have hkb:=(bQ w1).aIw (cq #[r0,.int .u8 y0,.int .u8 y1,.int .u8 y2,.int .u8 y3,.int .u8 y4,.int .u8 y5,.int .u8 y6,.int .u8 y7] 151);have HB5:=hD ((HB4.o.on hkb).aJa hgrow2 λj hj=>(HW4.o.lt j hj).1);have HC5:=hD ((HC4.o.keep hkb).other hgrow2 (Eo HDJ4.o));have HW5:=hD (lN.snoc hown2 (by rw[wW]));have HDJ5:=hD (GZ HDJ4.o (HC4.o.keep hkb) hwhere2);have HWN:Hid (wrL F.C l p S D (i+1)=wrL F.C l p S D i++[⟨r0,⟨y0,y1,y2,y3,y4,y5,y6,y7⟩⟩]):=hD (by rw[DN,HPI.o,HGD.o]);rw[<-HWN.o]at HW5;clear t0 t1 t2 t3 t4 t5 t6 t7 hown2 hgrow2 hwhere2 hkb HB4 HC4 HW4 HDJ4 HT4;go_wp2_with fail;go_roundw
   case rel=>
    first
     |exact⟨i+1,0,some ⟨fb,fo+1,none⟩,fc-1,R2,oM,oM,by go_num,rfl,HR2,HRI3,HW5,HC5,HDJ5,HB5⟩
     |exact⟨i+1,0,(if fc=1 then some ⟨fb,fo,none⟩else some ⟨fb,fo+1,none⟩),fc-1,R2,oM,oM,by go_num,rfl,HR2,hD (by split;exact RD oM;exact HRI3.o),HW5,HC5,HDJ5,HB5⟩
   case measure=>simp[intOf];omega
  ):P:=h
theorem Ub{cv wv:Value}(h:∀b,cv.ownBlock=some b->wv.ownBlock≠some b):wv.ownBlock=none∨wv.ownBlock≠cv.ownBlock:=by
 cases hw:wv.ownBlock with
 |none=>exact .inl rfl
 |some b=>exact .inr λe=>h b e.symm hw
theorem Xj{cv wv v1:Value}{w:Wd}{B:Nat}{l:List Sw}(h:∀b,cv.ownBlock=some b->wv.ownBlock≠some b)(hw:lN w B wv l)(hv:v1.ownBlock=cv.ownBlock∨v1.ownBlock=some w.heap.size):∀b,v1.ownBlock=some b->wv.ownBlock≠some b:=by
 intro b e he;rcases hv with hv|hv
 ·exact h b (hv.symm.trans e) he
 ·rw[hv]at e;injection e with e;have:=(hw.lt b he).2;omega
theorem Eo{cv wv:Value}(h:∀b,cv.ownBlock=some b->wv.ownBlock≠some b):cv.ownBlock=none∨cv.ownBlock≠wv.ownBlock:=by
 cases hc:cv.ownBlock with
 |none=>exact .inl rfl
 |some b=>exact .inr λe=>h b hc e.symm
theorem GZ{cv wv v2:Value}{w:Wd}{B:Nat}{l:List E}(h:∀b,cv.ownBlock=some b->wv.ownBlock≠some b)(hc:aG w B cv l)(hv:v2.ownBlock=wv.ownBlock∨v2.ownBlock=some w.heap.size):∀b,cv.ownBlock=some b->v2.ownBlock≠some b:=by
 intro b e he;rcases hv with hv|hv
 ·exact h b e (hv.symm.trans he)
 ·rw[hv]at he;injection he with he;have:=(hc.lt b e).2;omega
theorem zM.grown{w w':Wd}{T:Nat}{x:Bk}{row:Option Nat}(h:zM w T 0 0 x)(hg:w.grownBy w' row)(hne:row≠some T):zM w' T 0 0 x:=
 ⟨hg.cell h.c0 λe=>hne e.symm,hg.cell h.c1 λe=>hne e.symm,hg.cell h.c2 λe=>hne e.symm,hg.cell h.c3 λe=>hne e.symm,hg.cell h.c4 λe=>hne e.symm,hg.cell h.c5 λe=>hne e.symm,hg.cell h.c6 λe=>hne e.symm,hg.cell h.c7 λe=>hne e.symm⟩
theorem UU(S:List Int)(u:Nat)(R:List Int)(h:R=S.drop u)(hu:u<S.length):∃r0 R2,R=r0::R2/\S.getD u 0=r0/\R2=S.drop (u+1):=by
 subst h;exact⟨S[u],S.drop (u+1),List.drop_eq_getElem_cons hu,by rw[Ql,Qa hu];rfl,rfl⟩
theorem RD{w:Wd}{a:OA}{R:List Int}(h:R.length=0):RdI w a R:=by
 obtain rfl:=Qz h;exact⟨sM,.inl rfl⟩
theorem WN{w:Wd}{a:OA}{r:Int}{R:List Int}(h:RdI w a (r::R)):∃b o,a=cw b o/\w (cw b o)=r/\RdI w (cw b (o+1)) R:=by
 obtain⟨h1,h2⟩:=h;obtain⟨b,o,rfl,ht,hc⟩:=h2.resolve_left sM;refine⟨b,o,rfl,hc 0 r rfl,by simp at h1;omega,.inr ⟨b,o+1,rfl,ht,λk x hk=> ?_⟩⟩;have:=hc (k+1) x (by simpa using hk);rw[show o+1+k=o+(k+1) by omega];exact this
theorem aIc(M:List Bool)(n h:Nat)(a:OA)(c:Nat)(w:Wd)(hr:Rd w a (aT M))(hN:M.length<=65536)(hh:h<=M.length)(hf:n<=aK (dA M) M.length):
  ep 157 #[.agg #[M.length,.slice a (aT M).length c],n,h] w λe w'=>∃la lc a' k c',e= .returned (.tuple #[.slice la (iH M n h).length lc,.agg #[M.length,.slice a' k c'],oo])/\aG w' w (.slice la (iH M n h).length lc) (iH M n h)/\Below w w w':=by
 by_cases h0:n=0
 ·subst h0;refine(Ra M.length (aT M) h a c w hN hr (cZ M) ((Nj _ _ _).2 ⟨oM,oM,oM⟩)).m ?_;rintro e w' ⟨rfl,hb⟩;exact⟨none,0,a,_,c,rfl,aG.nil _ _,hb⟩
 ·refine(Vm M n h a c w hr hN hh oM hf).m ?_;rintro e w' ⟨v1,v2,rfl,ho,⟨a',c',rfl,_⟩,hb⟩;have ht:=(rZ hN (n:=n) (h:=h) hf).perm;have hs:(iH M n h).length<=46912496118443:=by have:=(Ea hN (n:=n) (h:=h) hf).2;omega
  clear ht;obtain⟨la,lc,rfl,_⟩:=ho.rd hs;exact⟨la,lc,a',_,c',rfl,ho,hb⟩
structure PlS(w W:Wd)(M:Nat)(F:Fam)(a:OA)(c:Nat)(m:Option Nat)(ad:OA)(D:List Bk):Prop where
 mb:Bx W M 157 (.slice a F.N c) (.map m)
 fam:bG W (.agg #[.slice a F.N c,.map m]) F
 data:RdB W ad D
 g:Below w w W
theorem PlS.aIx{w W W':Wd}{M:Nat}{F:Fam}{a:OA}{c:Nat}{m:Option Nat}{ad:OA}{D:List Bk}(h:PlS w W M F a c m ad D)(hb:Below W W W'):PlS w W' M F a c m ad D:=
 ⟨h.mb.aIx hb,h.fam.keep hb,h.data.keep hb,h.g.on hb⟩
def aIv(w:Wd)(L:List Sw)(N:LU)(e:Ending)(w':Wd):Prop:=
 ∃a1 c1 a2 c2,e= .returned (.tuple #[.slice a1 L c1,.slice a2 N c2,oo])/\rW w' a1 L/\RdY w' a2 N/\Below w w w'
theorem TU{F:Fam}{l:List E}{p n k:Nat}(hl:aQ F.N l=true)(hn:1<=n)(hk:eF F.C l p n=k)(hf:k<=aK (dA (eG F.C)) F.N):0<F.N:=by
 refine Nat.pos_of_ne_zero λh0=> ?_;rw[h0]at hl hf;have hl0:l=[]:=by
  cases l with
  |nil=>rfl
  |cons x r=>have:=(aP _ _).1 hl x sM;omega
 subst hl0;have h1:=gM F.C [] p hn;rw[jA (i:=0) (Sc _ _),qF]at h1;have:=iX (dA (eG F.C)) 0;omega
theorem dG.cap{w:Wd}{B:Nat}{a:OA}{n c:Nat}{l:List Int}(h:dG w B (.slice a n c) l):l.length<=c:=by
 rcases h.2 with ⟨h1,hn⟩|⟨g,cap,cur,h1,hb,hg,hn,hc,hs,ht⟩
 ·omega
 ·injection h1 with _ _ h1;omega
theorem Xt(p:Int)(l P:LU)(a al:OA)(c cl:Nat)(w:Wd)(h:RdY w a l)(hL:RdI w al [p])(hl:l.length<=800000000)(hP:l++encI p=P):
  ep 162 #[.slice a l c,.slice al 1 cl] w λe w'=>∃a c,e= .returned (.slice a P c)/\RdY w' a P/\Below w w w':=by
 have hP2:l++numsL [p]=P:=by rw[<-hP];simp[numsL]
 refine(yU [p] l a al c cl w h hL hl sM).m ?_;rintro e w' ⟨v,rfl,⟨na,nc,rfl,hrd⟩,hb⟩;rw[hP2]at hrd ⊢;exact⟨na,nc,rfl,hrd,hb⟩
theorem Uk(M:Nat)(F:Fam)(v:Vol)(p n cd k:Nat)(D:List Bk)(S:List Int)(ad:OA)(w:Wd)(hF:F.ok)(hs:∀v∈F.vs,v.l.length<=9000)(h:iO w M F)(hv:aN F.vs v.nm=some v)(hDl:D.length=n)(hp:((p+n:Nat):Int)<=v.n)(hrd:RdB w ad D)(he:jO F v.nm p n=0)(hk:eF F.C v.l p n=k)(hf:k<=aK (dA (eG F.C)) F.N)(hS:Al F v.nm p k=S):
    ep 108 #[.pointer (cw M 0),nmV v.nm,p,.slice ad n cd] w (aIv w (wrL F.C v.l p S D n) (lT v.nm (joinL (chL F.C v.l p S n)))):=by
  have hok:=hF.vol v (aC hv).1;have hnl:=(pV hok.name).2;obtain⟨nm,vn,vr,l⟩:=v;simp only at hv hp he hk hS hnl ⊢;have hn2:=hok.n2;simp only at hn2;have HOK:=hD hok;have hN:=hF.hN;have hpe:=TW (v:=⟨nm,vn,vr,l⟩) hF hv he;obtain⟨hn1,hn16,hcw⟩:=hpe;have h0N:=TU hok.perm hn1 hk hf;have hn:nm.length<=1000000:=oM
  have HRDD:=hD hrd;clear hok hrd;obtain⟨a,c,m,hb,hfa⟩:=h.form;have HP:=hD (⟨hb,hfa,HRDD.o,bR⟩:PlS w w M F a c m ad D);have HF:=hD hF;have HSH:=hD hs;have HMB:=hD h;have hnm:nm.length<=maxLen:=by simp only[maxLen];omega
  have m0:=hb.c0;have m1:=hb.c1;have HIN:=hD (BS F nm vn vr (aR l) (bF F.C l) 0 _ nm _ hF hs hfa hnm (by
    have:=ED F (v:=⟨nm,vn,vr,l⟩) hF hv;simp only at this;rw[this];have:=wL hF (aC hv).1;simp only at this
    rw[this]))
  have hnz:((n:Int)==0)=false:=by simp;omega
  have HND:=hD (λW h=>zT F k 0 (.agg #[.slice a F.N c,.map m]) nm p n W HF.o HSH.o h hnm oM oM (by
    have:=qM (v:=⟨nm,vn,vr,l⟩) hF hv p n hp;simp only at this
    rw[this,mK,hk]))
  have HCW:=hD (λW h=>Gt F 0 (.agg #[.slice a F.N c,.map m]) nm p n W HF.o HSH.o h hnm oM oM hcw);have HFR:=hD (λW h=>XJ M F W HF.o h0N h);have HSS:=hD hS;have HV:=hD hv;have HFF:=hD hf;have HKK:=hD hk;have HD:=hD hDl;clear hb hfa h hF hs HRDD he hcw hk hf hS hv hDl;go_enter func108,ntmps108;go_wp2_with fail;refine HIN.o.m ?_;rintro e w1 ⟨rfl,hb⟩;have hk1:=hb.aIw (cq #[nmV nm,vn,vr,(aR l),(bF F.C l)] 94);have HP1:=hD (HP.o.aIx hk1);have HMB1:=hD (HMB.o.aIx hk1);clear hb hk1 m0 m1 HP HMB;have m0:=HP1.o.mb.c0;have m1:=HP1.o.mb.c1;go_wp2_with fail;refine(HND.o _ HP1.o.fam).m ?_;rintro e w2 ⟨rfl,hb⟩;have HP2:=hD (HP1.o.aIx hb);have HMB2:=hD (HMB1.o.aIx hb);clear hb m0 m1 HP1 HMB1;have m0:=HP2.o.mb.c0;have m1:=HP2.o.mb.c1;go_wp2_with fail;refine(HCW.o _ HP2.o.fam).m ?_;rintro e w3 ⟨rfl,hb⟩;have HP3:=hD (HP2.o.aIx hb);have HMB3:=hD (HMB2.o.aIx hb);clear hb m0 m1 HP2 HMB2;go_wp2_with fail;refine(HFR.o _ HMB3.o).m ?_;rintro e w4 ⟨v4,rfl,⟨ua,uc,rfl,hur⟩,hb⟩;rw[jX,F.aIz];have hk4:=hb.aIw (cq #[.int .i64 F.N,.slice ua (aT (eG F.C)).length uc] 242);have HP4:=hD (HP3.o.aIx hk4);have HMB4:=hD (HMB3.o.aIx hk4);have HX4:=hD (Bx.new w4 _ rfl (.int .i64 F.N) (.slice ua (aT (eG F.C)).length uc) 242);have HU4:=hD (hur.keep ((bQ w4).aIw (cq #[.int .i64 F.N,.slice ua (aT (eG F.C)).length uc] 242)));clear hb hk4 hur HP3 HMB3 HIN HND HCW HFR;go_upto_region 17 with fail;generalize w4.alloc (cq #[.int .i64 F.N,.slice ua (aT (eG F.C)).length uc] 242)=W0 at *;generalize w4.heap.size=X at *;obtain⟨q,hq,hqn⟩:∃q:Nat,yI F nm p=q/\q<=F.N:=by
    have:=YH HF.o nm p;exact⟨(yI F nm p).toNat,oM,oM⟩
  obtain⟨L,hL⟩:∃L,iH (eG F.C) k q=L:=⟨_,rfl⟩;have hML:(eG F.C).length=F.N:=by rw[jX,F.aIz]
  have HTK:=hD (λW h=>by
    have:=aIc (eG F.C) k q ua uc W h oM oM (by rw[hML];exact HFF.o);rw[hML,hL]at this
    exact this)
  have HTN:=hD (rZ (M:=eG F.C) oM (n:=k) (h:=q) (by rw[hML];exact HFF.o));rw[hL]at HTN;have HSL:Hid (fQ L=S):=hD (by
    have:=HSS.o;unfold Al at this;rw[hq,Int.toNat_natCast,hL]at this
    exact this)
  have HLW:=hD (Ea (M:=eG F.C) oM (n:=k) (h:=q) (by rw[hML];exact HFF.o)).2;rw[hL]at HLW;have HHI:=hD (λW h=>XI M F q nm p W HF.o h hnm oM hq);clear hq hL HSS
  go_cut [14,17] from 18 to 97 (λx14 x17 wx=>x14= .int .i64 0/\ ∃la lc,x17= .slice la L.length lc/\Hid (PlS w wx M F a c m ad D)/\Hid (Rd wx la L)/\Hid (iO wx M F))
  case first=>
    have HPD:=hD (HP4.o.aIx bR.drew);have HMD:=hD (HMB4.o.aIx bR.drew);have HXD:=hD (HX4.o.aIx bR.drew);have HUD:=hD (HU4.o.keep bR.drew);have HKD:=hD ((bQ W0).aIw (cq #[oo,sn] 242)).drew;have HBD:=hD (bQ W0).drew;have HXDa:=hD (HX4.o.aIx HKD.o);have HMDa:=hD (HMB4.o.aIx HKD.o);have HZD:=hD ((Bx.new W0 _ rfl oo sn 242).aIx bR.drew);have HUDa:=hD (HU4.o.keep HKD.o)
    go_region_held3 (λw'=>w' (cw X 0)=some (.int .i64 F.N)/\w' (cw X 1)=some (.slice ua (aT (eG F.C)).length uc))
        (first
          |with_reducible exact⟨HXD.o.c0,HXD.o.c1⟩
          |with_reducible exact⟨HXDa.o.c0,HXDa.o.c1⟩
          |with_reducible exact⟨HX5.o.c0,HX5.o.c1⟩
          |with_reducible exact⟨HX5a.o.c0,HX5a.o.c1⟩
          |with_reducible exact⟨HX6.o.c0,HX6.o.c1⟩
          |with_reducible exact⟨HX6a.o.c0,HX6a.o.c1⟩
          |with_reducible exact⟨HX6b.o.c0,HX6b.o.c1⟩
          |with_reducible exact⟨HX6c.o.c0,HX6c.o.c1⟩)
        (first
          |(go_at_call 158;(with_reducible refine(HHI.o _ HMD.o).m ?_);rintro e w5 ⟨rfl,hb5⟩;have HB5:=hD (HBD.o.on hb5);have HX5:=hD (HXD.o.aIx hb5);have HU5:=hD (HUD.o.keep hb5);clear hb5;have HK5:=hD ((bQ w5).aIw (.cells #[.int .i64 0,.slice none 0 0] 242));have HX5a:=hD (HX5.o.aIx HK5.o);have HU5a:=hD (HU5.o.keep HK5.o);have HZ5a:=hD (Bx.new w5 _ rfl (.int .i64 0) (.slice none 0 0) 242))
          |(go_at_call 158;go_loud ((with_reducible refine(HHI.o _ HMDa.o).m ?_);rintro e w5 ⟨rfl,hb5⟩;have HB5:=hD (HKD.o.on hb5);have HX5:=hD (HXDa.o.aIx hb5);have HU5:=hD (HUDa.o.keep hb5);have HZ5:=hD (HZD.o.aIx hb5);clear hb5))
          |(go_at_call 157;(with_reducible refine(HTK.o _ HU5a.o).m ?_);rintro e w6 ⟨la,lc,a6,k6,c6,rfl,ho6,hb6⟩;have HX6:=hD (HX5a.o.aIx hb6);have HO6:=hD ho6;have HB6:=hD ((HB5.o.on HK5.o).on hb6);have HZ6:=hD (HZ5a.o.aIx hb6);have hY6:w5.heap.size<(w5.alloc (.cells #[.int .i64 0,.slice none 0 0] 242)).heap.size:=HZ5a.o.lt;have hY7:=HB5.o.size;have HX6c:=hD (HX6.o.far (R:=w5.heap.size) (Nat.ne_of_lt HX5.o.lt) (.int .i64 F.N) (.slice a6 k6 c6));clear ho6 hb6;have z0:=HZ6.o.c0;have z1:=HZ6.o.c1;have z2:=HZ6.o.f0;have z3:=HZ6.o.f1)
          |(go_at_call 157;(with_reducible refine(HTK.o _ HU5.o).m ?_);rintro e w6 ⟨la,lc,a6,k6,c6,rfl,ho6,hb6⟩;have HX6:=hD (HX5.o.aIx hb6);have HO6:=hD ho6;have HZ6:=hD (HZ5.o.aIx hb6);have HB6:=hD (HB5.o.on hb6);have hY6:=HZ5.o.lt;have HX6c:=hD (HX6.o.far (R:=W0.heap.size) (Nat.ne_of_lt HX4.o.lt) (.int .i64 F.N) (.slice a6 k6 c6));have hY7:W0.heap.size<=W0.heap.size:=Ye _;clear ho6 hb6;have z0:=HZ6.o.c0;have z1:=HZ6.o.c1;have z2:=HZ6.o.f0;have z3:=HZ6.o.f1)
          |(go_at_call 157;(with_reducible refine(HTK.o _ HU5.o).m ?_);rintro e w6 ⟨la,lc,a6,k6,c6,rfl,ho6,hb6⟩;have HX6:=hD (HX5.o.aIx hb6);have HO6:=hD ho6;have HB6:=hD (HB5.o.on hb6);clear ho6 hb6;have HX6a:=hD (HX6.o.aIx ((bQ w6).aIw (.cells #[.int .i64 0,.slice none 0 0] 242)));have HK6:=hD ((bQ w6).aIw (.cells #[.int .i64 F.N,.slice a6 k6 c6] 242));have HX6b:=hD (HX6.o.aIx HK6.o)))
    all_goals
      have hlw:=HLW.o;obtain⟨_,_,he6,hr6⟩:=HO6.o.rd oM
      first
        | (have HBF:=hD (HB6.o.on HK6.o)
           have HPF:=hD (HP4.o.aIx HBF.o);have HMF:=hD (HMB4.o.aIx HBF.o);have HRF:=hD (((HO6.o.rd' oM).keep HK6.o));go_wp2_with fail;go_meet
           exact⟨rfl,la,lc,rfl,HPF,HRF,HMF⟩)
        | (have hne:=λe=>Nat.lt_irrefl _ (Yu hY6 (HO6.o.lt _ e).1)
           have HBF:=hD ((HB6.o.setCell (p:=⟨_,0,none⟩) hY7 (.int .i64 F.N)).setCell (p:=⟨_,1,none⟩) hY7 (.slice a6 k6 c6));have HPF:=hD (HP4.o.aIx HBF.o);have HMF:=hD (HMB4.o.aIx HBF.o);have HRF:=hD (((HO6.o.away ⟨_,0,none⟩ (.int .i64 F.N) hne).away ⟨_,1,none⟩ (.slice a6 k6 c6) hne).rd' oM);go_wp2_with fail;go_meet
           exact⟨rfl,la,lc,rfl,HPF,HRF,HMF⟩)
  case rest =>
    obtain ⟨rfl,la,lc,rfl,hP,hR,hM⟩:=hcut;have HLK:Hid ((fQ L).length<=65536):=hD (by
      have:=(vO HTN.o.perm).1;have h2:=HTN.o.len;have h3:=iX (dA (eG F.C)) F.N;have h4:=HFF.o
      omega)
    have HSP:=hD (vO HTN.o.perm);have HLS:=hD (Uj L la lc _ hR.o (λx hx=>by
      have:=(aP _ _).1 HTN.o.perm x hx;rw[hML]at this
      omega) HLK.o)
    rw [HSL.o]at HSP HLK HLS;have hSk:Hid (S.length=k):=hD (by
      have h1:=HSP.o.1;have h2:=HTN.o.len
      omega)
    clear HX4 HU4 HP4 HMB4 HTK HHI hR;go_wp2_with fail;refine HLS.o.m ?_;rintro e wB ⟨vS,rfl,ho,hb⟩;obtain⟨fa0,fc0,rfl,hfr0⟩:=ho.rd HLK.o;have HPB:=hD (hP.o.aIx hb);have HFR:=hD hfr0;have HCP:=hD ho.cap;clear hP hM ho hb hfr0 HLS;go_upto_region 24 with fail;have HDL:=HD.o;obtain⟨i0,hi,hz0,hz1,hz2⟩:=info_parts kK;obtain⟨j0,hj,hy0,hy1,hy2⟩:=info_parts aGx;go_loopw [19,20,21,105] (λfv wv cv iv wr=>∃(i u:Nat) (fa:OA) (fc:Nat) (R:List Int),i<=n/\R.length<=fc/\iv= .int .i64 i/\fv= .slice fa R fc/\Hid (R=S.drop (eF F.C l p i))/\Hid (RdI wB fa R)/\Hid (lN wr wB wv (wrL F.C l p S D i))/\Hid (aG wr wB cv (chL F.C l p S i))/\Hid (∀b,cv.ownBlock=some b->wv.ownBlock≠some b)/\Hid (Below wB wB wr)) (λ_ _ _ iv _=>n-(intOf iv).toNat)
    case atStart=>exact⟨0,0,fa0,fc0,S,Yf _,HCP.o,rfl,rfl,hD (by rw[qF,List.drop_zero]),HFR,hD (lN.nil _ _),hD (aG.nil _ _),hD (λb e=>by cases e),hD bR⟩
    case round =>
      obtain⟨i,u,fa,fc,R,hin,hRc,rfl,rfl,hR,hRI,hW,hC,hDJ,hB⟩:=hrel;clear HFR;have HPr:=hD (HPB.o.aIx hB.o);by_cases hlt:i<n
      · have hDi :i<D.length:=by rw[HD.o];exact hlt
        obtain⟨b,o,rfl,hat⟩:=HPr.o.data.at oM;obtain⟨⟨y0,y1,y2,y3,y4,y5,y6,y7⟩,hx⟩:∃x,D[i]? =some x:=⟨D[i],Qa hDi⟩;obtain⟨q0,q1,q2,q3,q4,q5,q6,q7⟩:=hat i _ hx;simp only at q0 q1 q2 q3 q4 q5 q6 q7;have HGD:Hid (D.getD i Bk.zero=⟨y0,y1,y2,y3,y4,y5,y6,y7⟩):=hD (by rw[Ql,hx];rfl);have hka:=(bQ wr).aIw (cq #[.int .u8 y0,.int .u8 y1,.int .u8 y2,.int .u8 y3,.int .u8 y4,.int .u8 y5,.int .u8 y6,.int .u8 y7] 56);have HPa:=hD (HPr.o.aIx hka);have HBa:=hD (hB.o.on hka);have HWa:=hD (hW.o.keep hka);have HCa:=hD (hC.o.keep hka);have HTa:Hid (zM (wr.alloc (cq #[.int .u8 y0,.int .u8 y1,.int .u8 y2,.int .u8 y3,.int .u8 y4,.int .u8 y5,.int .u8 y6,.int .u8 y7] 56)) wr.heap.size 0 0 ⟨y0,y1,y2,y3,y4,y5,y6,y7⟩):=hD ⟨sM,sM,sM,sM,sM,sM,sM,sM⟩;have hBs:=hB.o.size;have HCT:Hid (∀b,u21.ownBlock=some b->b≠wr.heap.size):=hD λb e he=>by have:=(hC.o.lt b e).2;omega
        have HWT:Hid (∀b,u20.ownBlock=some b->b≠wr.heap.size):=hD λb e he=>by have:=(hW.o.lt b e).2;omega
        clear hat hx hka HPr hB hW hC hDi;go_upto_region 26 with fail;generalize wr.alloc (cq #[.int .u8 y0,.int .u8 y1,.int .u8 y2,.int .u8 y3,.int .u8 y4,.int .u8 y5,.int .u8 y6,.int .u8 y7] 56)=W1 at *;generalize wr.heap.size=T at *;clear q0 q1 q2 q3 q4 q5 q6 q7;have m0:=HPa.o.mb.c0;have m1:=HPa.o.mb.c1;have HLUK:=hD (λW h=>by
          have:=zC F (.agg #[.slice a F.N c,.map m]) nm ((p:Int)+i) W HF.o h hnm oM;rw[Uq (v:=⟨nm,vn,vr,l⟩) HV.o (show 0<=(p:Int)+i by omega) sO]at this
          exact this)
        have HXS:=hD (aBq (C:=F.C) (l:=l) (b:=(p:Int)+i));have HXN:=hD (aBr (C:=F.C) (l:=l) (b:=(p:Int)+i));have HFT:=hD (EQ (l:=l) (p:Int) HOK.o.perm);have HFT:=hD (EQ (l:=l) ((p:Int)+i) HOK.o.perm);simp only at HLUK;have HEX:Hid (exJ F.C l p i=exB F.C l ((p:Int)+i)):=hD rfl;have HPK:Hid (exJ F.C l p i=true->bK F.C l p S i=fU l ((p:Int)+i)):=hD (λh=>Am h);generalize hfs:fU l ((p:Int)+i)=s at *;generalize hfb:fI l ((p:Int)+i)=f at *;generalize exB F.C l ((p:Int)+i)=xb at *;clear hfs hfb;go_wp2_with fail;refine(HLUK.o _ HPa.o.fam).m ?_;rintro e w2 ⟨rfl,hb⟩;have HP2:=hD (HPa.o.aIx hb);have HB2:=hD (HBa.o.on hb);have HW2:=hD (HWa.o.keep hb);have HC2:=hD (HCa.o.keep hb);have HT2:=hD (HTa.o.keep hb);clear hb HPa HBa HWa HCa HTa m0 m1 HLUK;cases f
        · have hxj:exJ F.C l p i=false:=by rw[HEX.o];exact HXN.o rfl
          have HXJ:=hD hxj;clear hxj;exact sh173
        · have hfs2:=HFT.o rfl;have hsx:=HXS.o rfl;obtain⟨kk,hkk⟩:∃kk,F.C.getD s.toNat 0=kk:=⟨_,rfl⟩;have HCN:=hD (λW h=>JE F (.agg #[.slice a F.N c,.map m]) s kk W h (by unfold ofC;rw[Qf (by rw[F.aIz];exact hfs2)];exact hkk));have m0:=HP2.o.mb.c0;have m1:=HP2.o.mb.c1;unfold bN at hsx;rw[hkk]at hsx;by_cases hone:kk=1
          · subst hone;have HXJ:Hid (exJ F.C l p i=true):=hD (by rw[HEX.o,hsx];rfl);have HPI:=hD (HPK.o HXJ.o);have HR2:Hid (R=S.drop (eF F.C l p (i+1))):=hD (by rw[rX HXJ.o];exact hR.o);have HRI3:=hRI;have HCH:Hid (chL F.C l p S (i+1)=chL F.C l p S i):=hD (Sj HXJ.o);clear hsx hkk hR;go_wp2_with fail;refine(HCN.o _ HP2.o.fam).m ?_;rintro e w4 ⟨rfl,hb⟩;have HB4:=hD (HB2.o.on hb);have HW4:=hD (HW2.o.keep hb);have HC4:=hD (HC2.o.keep hb);have HT4:=hD (HT2.o.keep hb);have HDJ4:=hDJ;rw[<-HCH.o]at HC4;clear hb HB2 HW2 HC2 HT2 HP2 m0 m1 HCN;go_upto_region 30 with fail;have t0:=HT4.o.c0;have t1:=HT4.o.c1;have t2:=HT4.o.c2;have t3:=HT4.o.c3;have t4:=HT4.o.c4;have t5:=HT4.o.c5;have t6:=HT4.o.c6;have t7:=HT4.o.c7;simp only[Nat.zero_mul,Nat.zero_add]at t0 t1 t2 t3 t4 t5 t6 t7;have hwl:=wW (C:=F.C) (l:=l) (p:=p) (S:=S) (D:=D) i
            go_wp2_with (at_builtin;go_loud (refine aO _ rfl _ _ 144 rfl wB.heap.size 151 j0 (Sw.v ⟨0,Bk.zero⟩) 9 16 underlying144 hj hy0 hy1 hy2 rfl dE _ _ _ rfl (Qu HW4.o _) (cw w4 0) 1 1 (Sw.cells ⟨s,⟨y0,y1,y2,y3,y4,y5,y6,y7⟩⟩) rfl rfl (aFa _ _ sM _ _) (Sw.one _) oM (by simp only[maxLen];omega) sh174 ?_);intro v2 w5 hown2 hgrow2 hwhere2)
            have hkb:=(bQ w4).aIw (cq #[s,.int .u8 y0,.int .u8 y1,.int .u8 y2,.int .u8 y3,.int .u8 y4,.int .u8 y5,.int .u8 y6,.int .u8 y7] 151);have HB5:=hD ((HB4.o.on hkb).aJa hgrow2 λj hj=>(HW4.o.lt j hj).1);have HC5:=hD ((HC4.o.keep hkb).other hgrow2 (Eo HDJ4.o));have HW5:=hD (lN.snoc hown2 (by rw[wW]));have HDJ5:=hD (GZ HDJ4.o (HC4.o.keep hkb) hwhere2);have HWN:Hid (wrL F.C l p S D (i+1)=wrL F.C l p S D i++[⟨s,⟨y0,y1,y2,y3,y4,y5,y6,y7⟩⟩]):=hD (by rw[DN,HPI.o,HGD.o]);rw[<-HWN.o]at HW5;clear t0 t1 t2 t3 t4 t5 t6 t7 hown2 hgrow2 hwhere2 hkb HB4 HC4 HW4 HDJ4 HT4;go_wp2_with fail;go_roundw
            case rel=>
              first
                |exact⟨i+1,0,fa,fc,R,oM,oM,by go_num,rfl,HR2,HRI3,HW5,HC5,HDJ5,HB5⟩
                |exact⟨i+1,0,(if fc=1 then some ⟨fb,fo,none⟩else some ⟨fb,fo+1,none⟩),fc-1,R,oM,oM,by go_num,rfl,HR2,hD (by split;exact RD oM;exact HRI3.o),HW5,HC5,HDJ5,HB5⟩
            case measure=>simp[intOf];omega
          · have HXJ:Hid (exJ F.C l p i=false):=hD (by rw[HEX.o,hsx];simp[hone]);have hkb:(kk != 1)=true:=by simpa using hone
            clear hsx hkk hone;go_wp2_with fail;refine(HCN.o _ HP2.o.fam).m ?_;rintro e w2 ⟨rfl,hb⟩;replace HP2:=hD (HP2.o.aIx hb);replace HB2:=hD (HB2.o.on hb);replace HW2:=hD (HW2.o.keep hb);replace HC2:=hD (HC2.o.keep hb);replace HT2:=hD (HT2.o.keep hb);clear hb m0 m1 HCN;exact sh173
      · have hni:n=i:=oM
        subst hni;have hcl:=JK (C:=F.C) (l:=l) (p:=p) (S:=S) n;have hjl:=iV (chL F.C l p S n);have hwl:=wW (C:=F.C) (l:=l) (p:=p) (S:=S) (D:=D) n;have HVL:=hD (IE (C:=F.C) (l:=l) (p:=p) (S:=S) (n:=n) (λs hs=>by
          have:=HSP.o.2 s hs
          omega) oM (by rw[HKK.o,hSk.o];exact Ye _) n (Ye _))
        obtain⟨ca,cc,rfl,hrc⟩:=hC.o.rd oM;obtain⟨wa,wc,rfl,hrw⟩:=hW.o.rd oM;have HCR:=hD hrc;have HWR:=hD hrw;have HB:=hD (HPB.o.g.on hB.o);clear hwl hrc hrw hB hC hW hDJ hRI hR HPr HPB HSP HKK hSk HSL HLK HLW HTN HD HFF HV HSH HF HOK HCP HDL hi hz0 hz1 hz2 hj hy0 hy1 hy2;generalize wrL F.C l p S D n=WL at *;have HJY:=hD (λW a c h=>XZ (chL F.C l p S n) a c W h (λx hx=>BD (aL HVL.o x hx)) oM HVL.o);have HNT:Hid (lT nm (joinL (chL F.C l p S n))=qO 1 nm++encI (joinL (chL F.C l p S n)).length++kG (joinL (chL F.C l p S n))):=hD rfl;clear HVL;generalize chL F.C l p S n=CH at *;go_wp2_with fail;refine(HJY.o _ _ _ HCR.o).m ?_;rintro e w2 ⟨vj,rfl,ho,hb⟩;obtain⟨ja,jc,rfl,hrj⟩:=ho.rd oM;have HJR:=hD hrj;have HB2:=hD (HB.o.on hb);have HWR2:=hD (HWR.o.keep hb);clear hb ho hrj HCR HWR HB HJY;generalize joinL CH=JL at *;have hjl16:JL.length<=16:=oM
        clear hjl hcl;go_wp2_with fail;refine(sQ 1 nm _ oM hn).m ?_;rintro e w3 ⟨vh,rfl,ho,hb⟩;have hhl:(qO 1 nm).length<=1000100:=by
          unfold qO;rw[Qg];have h1:=ET nm oM;have h2:=Go.Lib.uvarint_length64 (x:=1) oM;omega
        obtain ⟨ha,hc,rfl,_,_,hrh⟩:=ho.rd oM;have HHR:=hD hrh;have HB3:=hD (HB2.o.on hb);have HWR3:=hD (HWR2.o.keep hb);have HJR3:=hD (HJR.o.keep hb);clear hb ho hrh HB2 HWR2 HJR;obtain⟨P1,hP1⟩:∃P,qO 1 nm=P:=⟨_,rfl⟩;obtain⟨Q,hQ⟩:∃Q,P1++encI JL.length=Q:=⟨_,rfl⟩;have HQE:Hid (lT nm JL=Q++kG JL):=hD (by rw[HNT.o,hP1,hQ]);have hQl:Q.length<=1000110:=by
          rw[<-hQ,Qg];have:=(ES (JL.length:Int)).2;rw[hP1]at hhl;omega
        rw [hP1]at hhl HHR;have HQ:=hD hQ;have HP1:=hD hP1;clear HNT hP1 hQ;have hk3:=(bQ w3).aIw (cq #[JL.length] 3);have HB4:=hD (HB3.o.on hk3);have HWR4:=hD (HWR3.o.keep hk3);have HJR4:=hD (HJR3.o.keep hk3);have HN1:=hD (λc=>Xt (JL.length:Int) P1 Q ha _ c 1 _ (HHR.o.keep hk3) (RdI.lit w3 [(JL.length:Int)] sM #[.int .i64 JL.length] rfl) oM HQ.o);clear hk3 HHR HB3 HWR3 HJR3;rw[HP1.o];go_wp2_with fail;refine(HN1.o _).m ?_;rintro e w4 ⟨qa,qc,rfl,hrq,hb⟩;have HQR:=hD hrq;have HB5:=hD (HB4.o.on hb);have HWR5:=hD (HWR4.o.keep hb);have HJR5:=hD (HJR4.o.keep hb);clear hb hrq HB4 HWR4 HJR4 HN1 HQ;have HQL:Hid (∀j,(Q++kG (JL.take j)).length<=90000000):=hD λj=>by
          rw[Qg];have h2:=UR (JL.take j);have h3:(JL.take j).length<=JL.length:=by rw[Yp];omega
          omega
        go_wp2_with fail;go_loopw [27,167] (λb i wi=>∃(j:Nat) (ax:OA) (cx:Nat) (X:LU),j<=JL.length/\i= .int .i64 j/\b= .slice ax X cx/\Hid (X=Q++kG (JL.take j))/\Hid (RdY wi ax X)/\Hid (Below w4 w4 wi)) (λ_ i _=>JL.length-(intOf i).toNat)
        case atStart=>exact⟨0,qa,qc,Q,Yf _,rfl,rfl,hD (by simp[kG]),HQR,hD bR⟩
        case round=>
          obtain⟨j,ax,cx,Y,hj,rfl,rfl,hX,hXY,hXB⟩:=hrel;by_cases hjl:j<JL.length
          · obtain⟨lb,lo,rfl,hat⟩:=(HJR5.o.keep hXB.o).at oM;obtain⟨x1,x2,x3⟩:=hat j _ (Qa hjl);have HE:=hD (PY JL j hjl);have hj0:(0:Int)<=j:=oM
            have hj1:(j:Int)<JL.length:=oM
            have hYl:Y.length<=90000000:=by rw[hX.o];exact HQL.o j
            generalize JL[j]=z at *;clear hat;obtain⟨Y2,hY2⟩:∃Q,Y++numsL [z.a,z.n,z.s]=Q:=⟨_,rfl⟩;have HY2:=hD hY2;have hk:=((bQ wr).aIw (cq #[z.a,z.n,z.s] 128));have hk2:=hk.aIw (cq #[z.a,z.n,z.s] 3);have hRL:=RdI.lit (wr.alloc (cq #[z.a,z.n,z.s] 128)) [z.a,z.n,z.s] sM #[.int .i64 z.a,.int .i64 z.n,.int .i64 z.s] rfl;rw[World.size_alloc]at hRL;have HN3:=hD (Xr z.a z.n z.s Y Y2 ax _ cx 3 _ (hXY.o.keep hk2) hRL oM hY2);clear hRL;have HK2:=hD (hXB.o.on hk2);clear hY2 hk hk2;go_wp2_with fail
            (with_reducible refine HN3.o.m ?_)
            rintro e w7 ⟨ya,yc,rfl,hrd,hb⟩;have HRD:=hD hrd;have HB7:=hD (HK2.o.on hb);clear hrd hb;go_wp2_with fail;go_roundw
            case rel=>exact⟨j+1,ya,yc,Y2,oM,by go_num,rfl,hD (by rw[HE.o,<-HY2.o,hX.o,Yc];rfl),HRD,HB7⟩
            case measure=>simp[intOf];omega
          · have hjn:j=JL.length:=oM
            have HE:Hid (Y=lT nm JL):=hD (by rw[HQE.o,hX.o,hjn,List.take_length]);have HB8:=hD (HB5.o.on hXB.o);have HW8:=hD (HWR5.o.keep hXB.o);clear hX HQL HQE;go_wp2_with fail;refine(Lu _ _).m ?_;rintro e w8 ⟨rfl,rfl⟩;go_wp2_with fail;refine Yg (v:= .tuple #[.slice wa WL wc,.slice ax Y cx,oo]) (by simp[results,results108,go_sem]) rfl ⟨wa,wc,ax,cx,by rw[HE.o],HW8.o,by rw[<-HE.o];exact hXY.o,HB8.o⟩
end Go.Proofs.YtphfgbbbejloaaaGreatDoor
