/- tegulalaw48: build. Conditions: as each theorem says. -/
import Derived.Test.YtphfgbbbejloaaaGreatDoorMgB
import Derived.Test.YtphfgbbbejloaaaGreatDoorMfK
set_option linter.unusedSimpArgs false
set_option linter.unusedVariables false
set_option maxRecDepth 100000
set_option maxHeartbeats 16000000
namespace Go.Proofs.YtphfgbbbejloaaaGreatDoor
open Go.RowKit Go.Maps
open Go.Proofs.Tryz
structure BQ(w W:Wd)(X:Nat)(m g:Mo Bk)(T:Nat)(p:RS)(pa:OA)(pc:Nat)(ps:List RS):Prop where
 mo:MoB W X m
 bx:Bx4 W T 34 p.s.F.N (.slice p.va p.vn p.vc) (.slice p.da p.s.F.N p.dc) (.slice pa ps pc)
 rm:RMd W p pa ps g
 sim:FL m g
 fm:m.fine
 fg:g.fine
 g:Below w w W
 ge:w.heap.size<=X
 tx:w.heap.size<=T
 ne:X≠T
theorem BQ.aIx{w W W':Wd}{X:Nat}{m g:Mo Bk}{T:Nat}{p:RS}{pa:OA}{pc:Nat}{ps:List RS}(h:BQ w W X m g T p pa pc ps)(hb:Below W W W'):BQ w W' X m g T p pa pc ps:=
 ⟨h.mo.aIx hb,h.bx.aIx hb,h.rm.keep hb,h.sim,h.fm,h.fg,h.g.on hb,h.ge,h.tx,h.ne⟩
theorem xD(n:Nat)(hn:n<=65536):(pJ n).fine:=⟨⟨Hf n hn,λv hv=>by simp[pJ]at hv⟩,λs hs=>by simp[pJ]at hs⟩
theorem Xy(n:Nat):FL (pJ n) (pJ n):=
 ⟨⟨λi=>i,⟨rfl,lM.id _,trivial⟩,λi hi=>rfl⟩,trivial⟩
structure OdM(W:Wd)(X:Nat):Prop where
 four:∀x y,W (cw X 2)=some (.int .i64 x)->W (cw X 7)≠some y
 ty:∃t,3≠t/\157≠t/\87≠t/\jH W X t
theorem Bx3.odM{W:Wd}{X:Nat}{t:TypeId}{u v x:Value}(h:Bx3 W X t u v x)(h1:3≠t)(h2:157≠t)(h3:87≠t):OdM W X:=⟨λx y _ e=>(by rw[h.c3 7 oM]at e;cases e),t,h1,h2,h3,h.ty⟩
theorem Bx4.odM{W:Wd}{X:Nat}{t:TypeId}{u v x y:Value}(h:Bx4 W X t u v x y)(h1:3≠t)(h2:157≠t)(h3:87≠t):OdM W X:=⟨λx y _ e=>(by rw[h.c4 7 oM]at e;cases e),t,h1,h2,h3,h.ty⟩
section
variable{W W':Wd}{X:Nat}(hX:OdM W X)(hg:W.grownBy W' (some X))
include hX hg
theorem RdI.aJm{a:OA}{C:List Int}(h:RdI W a C):RdI W' a C:=by
 refine⟨h.1,h.2.imp id λ⟨b,o,ha,ht,hat⟩=> ?_⟩;obtain⟨t,h1,_,_,h4⟩:=hX.ty;have hne:b≠X:=ht.ne h4 h1;exact⟨b,o,ha,ht.grown hg hne,λk c hk=>aA hg (hat k c hk) hne⟩
theorem aD.aJm(t:Tr):∀{v:Value},aD W v t->aD W' v t:=by
 induction t with
 |nil=>exactλhv=>hv
 | node l x r ihl ihr=>
  rintro v ⟨b,vl,vr,hv,hn,hl,hr⟩;have hne:b≠X:=λe=>by
   subst e;exact hX.four _ _ hn.s hn.m
  have k:∀{j u},W (cw b j)=some u->W' (cw b j)=some u:=λh=>aA hg h hne;exact⟨b,vl,vr,hv,⟨k hn.a,k hn.n,k hn.s,k hn.l,k hn.r,k hn.d,k hn.c,k hn.m⟩,ihl hl,ihr hr⟩
theorem bG.aJm{fv:Value}{F:Fam}(hf:bG W fv F):bG W' fv F:=by
 obtain⟨a,c,mb,h1,h2,ts,h3,h4,h5⟩:=hf;refine⟨a,c,mb,h1,h2.aJm hX hg,ts,h3,λp hp=>aD.aJm hX hg p.t (h4 p hp),h5.elim .inl λ⟨b,q1,q2⟩=> .inr ⟨b,q1,?_⟩⟩;refine World.ownsMap.kept q2 hg ?_;obtain⟨es,clock,hb,r⟩:=q2;obtain⟨t,_,_,_,cs,s,hty⟩:=hX.ty;intro e;injection e with e;subst e;rw[hb]at hty;cases hty
theorem StM.aJm{M b:Nat}{s:MSt Bk}(h:StM W M b s):StM W' M b s:=by
 obtain⟨⟨x,y,h1,h2⟩,h3⟩:=h;obtain⟨t,_,t2,_,ht⟩:=hX.ty;refine⟨⟨x,y,h1.grown hg (λe=> ?_),h2.aJm hX hg⟩,h3.grown hg λe=> ?_⟩
 ·injection e with e;subst e;exact h1.ty.ne ht t2 rfl
 ·injection e with e;subst e;obtain⟨es,⟨cs,clock,hb,_⟩,_⟩:=h3;obtain⟨cs,s,hty⟩:=ht;rw[hb]at hty;cases hty
theorem MoB.aJm{Y:Nat}{m:Mo Bk}(h:MoB W Y m)(hne:Y≠X):MoB W' Y m:=by
 obtain⟨M,b,a,c,ps,h1,h2,h3,h4,h5⟩:=h;obtain⟨t,_,_,t3,ht⟩:=hX.ty;refine⟨M,b,a,c,ps,h1.grown hg (λe=>hne (Qv e).symm),h2.aJm hX hg,⟨h3.1,h3.2.imp id λ⟨g,o,e1,hty,e2⟩=> ?_⟩,λp hp=>(h4 p hp).aJm hX hg,h5⟩;have hn:g≠X:=hty.ne ht t3;exact⟨g,o,e1,hty.grown hg hn,λk p hk=>⟨aA hg (e2 k p hk).m hn,aA hg (e2 k p hk).b hn⟩⟩
end
theorem aGs:157≠34:=dE
theorem aGr:87≠34:=dE
theorem reMa:157≠44:=dE
theorem reSt:87≠44:=dE
section
variable{w W W':Wd}{X:Nat}{m g:Mo Bk}{T:Nat}{p:RS}{pa:OA}{pc:Nat}{ps:List RS}
end
def aHt(n:Nat)(w:Wd)(e:Ending)(w':Wd):Prop:=
 ∃X m g p pa pc ps,e= .returned (.tuple #[.pointer (cw X 0),rmV p pa ps.length pc,true])/\MoB w' X m/\RMd w' p pa ps g/\FL m g/\m.fine/\g.fine/\m.past.length<=n/\w.heap.size<=X/\Below w w w'
theorem Ap.past{α:Type}{z:α}{m m':Mo α}{c:Cmd α}(h:Ap z m c m'):m'.past.length<=m.past.length+1:=by
 unfold Ap at h
 split at h
 ·split at h
  ·rw[h];simp
  ·rw[h.2]
   split <;> simp
 ·rw[h];omega
structure BM(w W:Wd)(X:Nat)(m g:Mo Bk)(T:Nat)(p:RS)(pa:OA)(pc:Nat)(ps:List RS)(T12:Nat)(r:Rp Bk)(a2:OA)(k2:Nat)(B:Prop):Prop where
 mo:MoB W X m
 bx:Bx4 W T 34 p.s.F.N (.slice p.va p.vn p.vc) (.slice p.da p.s.F.N p.dc) (.slice pa ps pc)
 rm:RMd W p pa ps g
 yb:Bx3 W T12 44 r.tag r.err (.slice a2 r.data.length k2)
 dat:RdB W a2 r.data
 xb:B->Bx4 W w 34 oo sn sn sn/\w.heap.size<X/\w.heap.size<T
 g:Below w w W
 x1:w.heap.size<=X
 t1:w.heap.size<=T
 n1:X≠T
 n2:X<T12
 n3:T<T12
section
variable{w W W':Wd}{X:Nat}{m m' g:Mo Bk}{T:Nat}{p:RS}{pa:OA}{pc:Nat}{ps:List RS}{T12:Nat}{r:Rp Bk}{a2:OA}{k2:Nat}{B:Prop}
theorem BM.aIx(h:BM w W X m g T p pa pc ps T12 r a2 k2 B)(hb:Below W W W'):BM w W' X m g T p pa pc ps T12 r a2 k2 B:=
 ⟨h.mo.aIx hb,h.bx.aIx hb,h.rm.keep hb,h.yb.aIx hb,h.dat.keep hb,λq=>⟨(h.xb q).1.aIx hb,(h.xb q).2⟩,h.g.on hb,h.x1,h.t1,h.n1,h.n2,h.n3⟩
theorem BM.went(h:BM w W X m g T p pa pc ps T12 r a2 k2 B)(hm:MoB W' X m')(hg:W.grownBy W' (some X)):BM w W' X m' g T p pa pc ps T12 r a2 k2 B:=by
 have hx:=h.mo.mx;have x1:=h.x1;have n2:=h.n2;have n1:=h.n1;exact⟨hm,h.bx.grown hg (λe=>by injection e with e;omega),h.rm.grown hx hg,h.yb.grown hg (λe=>by injection e with e;omega),h.dat.aJh hx hg,λq=>⟨(h.xb q).1.grown hg (λe=>by injection e with e;have:=(h.xb q).2.1;omega),(h.xb q).2⟩,h.g.aJa hg (λj e=>by injection e with e;omega),h.x1,h.t1,h.n1,h.n2,h.n3⟩
theorem BM.of{p0:RS}{qa:OA}{qc:Nat}{qs:List RS}{y0 y1:Value}{na:OA}{nn nk:Nat}(h1:MoB W X m)(h2:Bx4 W T 34 p0.s.F.N (.slice p0.va p0.vn p0.vc) (.slice p0.da p0.s.F.N p0.dc) (.slice qa qs qc))(h3:RMd W p pa ps g)(h4:Bx3 W T12 44 y0 y1 (.slice na nn nk))(h5:RdB W a2 r.data)
  (h6:B->Bx4 W w 34 oo sn sn sn/\w.heap.size<X/\w.heap.size<T) (h7:Below w w W) (x1:w.heap.size<=X) (t1:w.heap.size<=T) (n1:X≠T) (n2:X<T12) (n3:T<T12):
  BM w (xX (vT W T p.s.F.N (.slice p.va p.vn p.vc) (.slice p.da p.s.F.N p.dc) (.slice pa ps pc)) T12 r.tag r.err (.slice a2 r.data.length k2)) X m g T p pa pc ps T12 r a2 k2 B:=by
 have g1:=fK W T p.s.F.N (.slice p.va p.vn p.vc) (.slice p.da p.s.F.N p.dc) (.slice pa ps pc);have o1:=h2.odN yG (λj d e=>by cases e) (λj d e=>by cases e);have o2:=h2.odM yG aGs aGr;have k1:=h1.aJm o2 g1 n1;have k2':=h2.rep p.s.F.N (.slice p.va p.vn p.vc) (.slice p.da p.s.F.N p.dc) (.slice pa ps pc);have k3:=h3.grownT o1 h2.ty NN g1;have k4:=h4.grown g1 (λe=>by injection e with e;omega);have k5:=h5.aJe o1 g1;have k7:=(((h7.setCell (p:=(cw T 0)) sO p.s.F.N).setCell (p:=(cw T 1)) sO (.slice p.va p.vn p.vc)).setCell (p:=(cw T 2)) sO (.slice p.da p.s.F.N p.dc)).setCell (p:=(cw T 3)) sO (.slice pa ps pc);have g2:=dY (vT W T p.s.F.N (.slice p.va p.vn p.vc) (.slice p.da p.s.F.N p.dc) (.slice pa ps pc)) T12 r.tag r.err (.slice a2 r.data.length k2);have o3:=k4.odN GN (λj d e=>by cases e);have o4:=k4.odM GN reMa reSt;exact⟨k1.aJm o4 g2 oM,k2'.grown g2 (λe=>by injection e with e;omega),k3.grownT o3 k4.ty aFs g2,k4.rep _ _ _,k5.aJe o3 g2,λq=>⟨((h6 q).1.grown g1 (λe=>by injection e with e;have:=(h6 q).2;omega)).grown g2 (λe=>by injection e with e;have:=(h6 q).2;omega),(h6 q).2⟩,((k7.setCell sO _).setCell sO _).setCell sO _,x1,t1,n1,n2,n3⟩
end
theorem yC.grown{W W':Wd}{g o i:Nat}{x:CV}{Y:Nat}(h:yC W g o i x)(hg:W.grownBy W' (some Y))(hne:g≠Y):yC W' g o i x:=
 ⟨aA hg h.c0 hne,aA hg h.c1 hne,aA hg h.c2 hne,aA hg h.c3 hne,aA hg h.c4 hne,aA hg h.c5 hne,aA hg h.c6 hne,aA hg h.c7 hne,aA hg h.c8 hne⟩
theorem KQ{fn:Func}{u p u':Tmp}{ty:TypeId}(h:fn.results= #[.tmp u,.cell p ty,.tmp u'])(tmps:Array Value)(P:Program)(w:Wd):
  (results fn tmps).run P w=((asAddr (tmps.getD p undef)).run P w).andThen λa w₁=>((loadVar ty a).run P w₁).andThen λv w₂=> .ok (.tuple #[tmps.getD u undef,v,tmps.getD u' undef]) w₂:=by
 simp only[results,h];simp[Sem.run_bind,Result.andThen]
theorem Ic(n:Nat)(L:List CV)(a:OA)(c:Nat)(w:Wd)(hn:n<=255)(hr:FM w a L)(hf:Dk L=true)(hl:L.length<=1000):
  ep 13 #[.int .u8 n,.slice a L c] w (aHt L.length w):=by
 have hm40:((n:Int)%40)=((n%40:Nat):Int):=oM
 obtain⟨q,hq⟩:∃q,n%40=q:=⟨_,rfl⟩;have hq40:q<=39:=oM
 rw[hq]at hm40;have HMD:=hD hm40;have HR:=hD hr;have HF:=hD hf;have HX0:=hD (Bx4.new w _ rfl oo sn sn sn 34);have HB0:=hD ((bQ w).aIw (cq #[oo,sn,sn,sn] 34));clear hm40 hq hr hf;go_enter func13,ntmps13;go_wp2_with fail;rw[HMD.o];refine(Hl q _ oM).m ?_;rintro e w1 ⟨X,rfl,hX,hmo,hb⟩;have HX1:=hD (HX0.o.aIx hb);have HB1:=hD (HB0.o.on hb);have HMO:=hD hmo;have HXG:Hid (w.heap.size<X):=hD (by simp only[World.size_alloc]at hX;omega);clear hmo hb HX0 HB0 hX;go_wp2_with fail;refine(Wy q _ oM).m ?_;rintro e w2 ⟨v,rfl,hrm,hb⟩;obtain⟨p,pa,pc,ps,rfl,hrm⟩:=hrm;obtain⟨va,vn,vc,da,dc,s⟩:=p;have HX2:=hD (HX1.o.aIx hb);have HB2:=hD (HB1.o.on hb);have HMO2:=hD (HMO.o.aIx hb);have HRM:=hD hrm;have hk:=(bQ w2).aIw (cq #[s.F.N,.slice va vn vc,.slice da s.F.N dc,.slice pa ps pc] 34);have HBQ:Hid (BQ w _ X (pJ q) (pJ q) w2 ⟨va,vn,vc,da,dc,s⟩ pa pc ps):=hD ⟨HMO2.o.aIx hk,Bx4.new w2 _ rfl _ _ _ _ _,hrm.keep hk,Xy q,xD q oM,xD q oM,HB2.o.on hk,by have:=HXG.o;omega,HB2.o.size,by have:=HMO2.o.mx.lt;omega⟩;have HX3:=hD (HX2.o.aIx hk);have HT3:Hid (w.heap.size<w2.heap.size):=hD HX2.o.lt;clear hk hb hrm HX1 HX2 HB1 HMO HMO2 HRM;go_upto_region 4 with fail;generalize w2.alloc (cq #[s.F.N,.slice va vn vc,.slice da s.F.N dc,.slice pa ps pc] 34)=W3 at *;generalize w2.heap.size=T at *;clear HB2;go_wp2_with fail;go_loopw [11] (λi wr=>∃(k:Nat) (m g:Mo Bk) (va:OA) (vn vc:Nat) (da:OA) (dc:Nat) (s:MSt Bk) (pa:OA) (pc:Nat) (ps:List RS),k<=L.length/\i= .int .i64 k/\Hid (m.past.length<=k)/\Hid (BQ w wr X m g T ⟨va,vn,vc,da,dc,s⟩ pa pc ps)/\Hid (Bx4 wr w 34 oo sn sn sn)) (λi _=>L.length-(intOf i).toNat)
 case atStart=>exact⟨0,pJ q,pJ q,va,vn,vc,da,dc,s,pa,pc,ps,Yf _,rfl,hD (by simp[pJ]),HBQ,HX3⟩
 case round=>
  clear HBQ HX3;obtain⟨k,m,g,va,vn,vc,da,dc,s,pa,pc,ps,hk,rfl,HPL,HBQ,HX3⟩:=hrel;by_cases hlt:k<L.length
  ·as_aux_lemma=>
   have HRW:=hD (HR.o.keep HBQ.o.g);obtain⟨gb,go,rfl,hat⟩:=HRW.o.at oM;have hcm:=hat k _ (Qa hlt);have hfit:=HRW.o.2.1 _ (Qm hlt);have hfew:=MB HF.o (Qm hlt);have hgb:gb<w.heap.size:=by
    obtain⟨gb',go',he,hat'⟩:=HR.o.at (show 0<L.length by omega);have he:=Qv he;have e1:gb=gb':=congrArg Addr.block he;rw[e1];exact Qj w ⟨gb',_,none⟩ (hat' k _ (Qa hlt)).c0
   have hmemx:=Qm hlt;generalize L[k]=x at *;obtain⟨⟨tag,kd,ao,af,vol,oth,cp,cn,data⟩,xa,xk⟩:=x;simp only at hfew;have HCM:=hD hcm;have HFT:=hD hfit.fit;have HDT:=hD (hfit.dat sO);have HRXA:Hid (RdB w xa data):=hD ((HR.o.2.1 _ hmemx).dat sO);have HGB:=hD hgb;have HFW:=hD hfew;have hk0:(0:Int)<=k:=oM
   have hk1:(k:Int)<L.length:=oM
   clear hat hcm hfit hgb hfew HRW hmemx;have hk12:=(bQ wr).aIw (cq #[oo,oo,sn] 44);have HB5:=hD (HBQ.o.aIx hk12);have HX5:=hD (HX3.o.aIx hk12);have HY5:=hD (Bx3.new wr _ rfl oo oo sn 44);have HC5:Hid (yC _ gb go k ⟨⟨tag,kd,ao,af,vol,oth,cp,cn,data⟩,xa,xk⟩):=hD (HCM.o.keep hk12);have HD5:=hD (HDT.o.keep hk12);have HTT:Hid (T<wr.heap.size/\w.heap.size<wr.heap.size/\X<wr.heap.size/\w.heap.size<T/\w.heap.size<X/\X≠T):=hD ⟨HBQ.o.bx.lt,HX3.o.lt,HBQ.o.mo.mx.lt,HT3.o,HXG.o,HBQ.o.ne⟩;clear hk12 HBQ HX3 HCM HDT;go_upto_region 10 with fail;generalize wr.alloc (cq #[oo,oo,sn] 44)=W5 at *;generalize wr.heap.size=T12 at *;obtain⟨r,hr⟩:∃r,kW Bk.zero g.cur (⟨tag,kd,ao,af,vol,oth,cp,cn,data⟩:Cmd Bk)=r:=⟨_,rfl⟩;have HRM:=hD (show kW Bk.zero m.cur (⟨tag,kd,ao,af,vol,oth,cp,cn,data⟩:Cmd Bk)=r from by
    obtain⟨σ,hσ⟩:=HB5.o.sim.cur;rw[<-hr]
    exact(KR hσ HB5.o.fm.cur HB5.o.fg.cur _).symm)
   have hgpl:g.past.length<=10000:=by
    have h1:=HB5.o.sim.past.length;have h2:=HPL.o;omega
   have hmpl:m.past.length<=10000:=by have h2:=HPL.o;omega
   have HAP:=hD (λW h1 h2=>Cy ⟨va,vn,vc,da,dc,s⟩ pa pc ps g ⟨tag,kd,ao,af,vol,oth,cp,cn,data⟩ xa xk W h1 HB5.o.fg hgpl HFT.o h2);have HMP:=hD (λW h1 h2=>yX X m ⟨tag,kd,ao,af,vol,oth,cp,cn,data⟩ xa xk W h1 HB5.o.fm hmpl HFT.o h2 (λe=>by have:=HFW.o.2 e;show cn<=255;omega));unfold FN at HAP;unfold JY at HMP;rw[hr]at HAP;rw[HRM.o]at HMP;unfold cmV at HAP HMP;simp only at HAP HMP;obtain⟨rt,re,rD⟩:=r;simp only at HAP HMP;clear hgpl hmpl hr
   go_cut [] from 36 to 44 (λwx=>∃(W9:Wd) (g':Mo Bk) (va':OA) (vn' vc':Nat) (da':OA) (dc':Nat) (s':MSt Bk) (pa':OA) (pc':Nat) (ps':List RS) (a2:OA) (k2:Nat),W9=wx/\Hid (Ap Bk.zero g ⟨tag,kd,ao,af,vol,oth,cp,cn,data⟩ g')/\Hid (BM w W9 X m g' T ⟨va',vn',vc',da',dc',s'⟩ pa' pc' ps' T12 ⟨rt,re,rD⟩ a2 k2 True)/\Hid (yC W9 gb go k ⟨⟨tag,kd,ao,af,vol,oth,cp,cn,data⟩,xa,xk⟩)/\Hid (FL m g)/\Hid m.fine/\Hid g.fine)
   case first=>
    as_aux_lemma=>
    have HBd:=hD (HB5.o.aIx (bQ W5).drew);have HXd:=hD (HX5.o.aIx (bQ W5).drew);have HYd:=hD (HY5.o.aIx (bQ W5).drew);have HCd:=hD (HC5.o.keep (bQ W5).drew);have HDd:=hD (HD5.o.keep (bQ W5).drew);refine wp_region_held_drew (S:=λW=>yC W gb go k ⟨⟨tag,kd,ao,af,vol,oth,cp,cn,data⟩,xa,xk⟩) kR HCd.o (λhHeld=> ?_);generalize W5.drew=wd at *;clear HB5 HX5 HY5 HC5 HD5;refine etk 1 ?_;refine etk 2 ?_;refine etk 3 ?_;refine etk 4 ?_;have e0:=HBd.o.bx.c0;have e1:=HBd.o.bx.c1;have e2:=HBd.o.bx.c2;have e3:=HBd.o.bx.c3;simp only at e0 e1 e2 e3;refine rdy 0 λK hK=> ?_;go_simp;refine hK.out _ _ HCd.o (λhHeld=> ?_);clear hK K
    try simp only[Act.put,sp]
    clear e0 e1 e2 e3;refine rdy 5 λK hK=> ?_;go_simp;refine(HAP.o _ HBd.o.rm HDd.o).m ?_;rintro e w6 ⟨⟨va',vn',vc',da',dc',s'⟩,pa',pc',ps',g',a2,k2,rfl,hap,hrm,hrd,hb⟩;simp only;have HAPG:=hD hap;have HRM6:=hD hrm;have HRD6:=hD hrd;have HB6:=hD (HBd.o.aIx hb);have HX6:=hD (HXd.o.aIx hb);have HY6:=hD (HYd.o.aIx hb);have HC6:=hD (HCd.o.keep hb);have HD6:=hD (HDd.o.keep hb);clear hap hrm hrd hb HBd HXd HYd HCd HDd HAP;refine hK.out _ _ HC6.o (λhHeld=> ?_);clear hK K
    try simp only[Act.put,sp]
    refine etk 6 ?_;refine etk 7 ?_;refine etk 8 ?_;have e0:=HB6.o.bx.c0;have e1:=HB6.o.bx.c1;have e2:=HB6.o.bx.c2;have e3:=HB6.o.bx.c3;have e4:=HB6.o.bx.f0;have e5:=HB6.o.bx.f1;have e6:=HB6.o.bx.f2;have e7:=HB6.o.bx.f3;simp only at e0 e1 e2 e3;have hg4:=fK w6 T s'.F.N (.slice va' vn' vc') (.slice da' s'.F.N dc') (.slice pa' ps' pc');have HY7:=hD (HY6.o.grown hg4 (λe=>by injection e with e;have:=HTT.o;omega));have HC7:=hD (HC6.o.grown hg4 (by have:=HTT.o;have:=HGB.o;omega));have HC8:=hD (HC7.o.grown (dY (vT w6 T s'.F.N (.slice va' vn' vc') (.slice da' s'.F.N dc') (.slice pa' ps' pc')) T12 rt re (.slice a2 rD k2)) (by have:=HTT.o;have:=HGB.o;omega));have HBM:=hD (BM.of (B:=True) (r:=⟨rt,re,rD⟩) (k2:=k2) (pc:=pc') HB6.o.mo HB6.o.bx HRM6.o HY6.o HRD6.o (λ_=>⟨HX6.o,HTT.o.2.2.2.2.1,HTT.o.2.2.2.1⟩) HB6.o.g (Nat.le_of_lt HTT.o.2.2.2.2.1) (Nat.le_of_lt HTT.o.2.2.2.1) HTT.o.2.2.2.2.2 HTT.o.2.2.1 HTT.o.1);have HSIM:=hD HB6.o.sim;have HFM:=hD HB6.o.fm;have HFG:=hD HB6.o.fg;clear hg4;refine rdy 9 λK hK=> ?_;go_simp;refine hK.out _ _ HC7.o (λhHeld=> ?_);clear hK K
    try simp only[Act.put,sp]
    clear e0 e1 e2 e3 e4 e5 e6 e7;have e0:=HY7.o.c0;have e1:=HY7.o.c1;have e2:=HY7.o.c2;have e4:=HY7.o.f0;have e5:=HY7.o.f1;have e6:=HY7.o.f2;refine rdy 10 λK hK=> ?_;go_simp;refine hK.out _ _ HC8.o (λhHeld=> ?_);clear hK K
    try simp only[Act.put,sp]
    refine wpAnyH_done kR ?_ _;clear e0 e1 e2 e4 e5 e6 HY7 HC7 HB6 HX6 HY6 HC6 HRM6 HRD6 HD6;go_wp2_with fail;go_meet;exact⟨_,g',va',vn',vc',da',dc',s',pa',pc',ps',a2,k2,rfl,HAPG,HBM,HC8,HSIM,HFM,HFG⟩
   case rest=>
    obtain⟨W9,g',va',vn',vc',da',dc',s',pa',pc',ps',a2,k2,rfl,HAPG,HBM,HC9,HSIM,HFM,HFG⟩:=hcut;go_upto_region 11 with fail;have HBd:=hD (HBM.o.aIx (bQ W9).drew);have HCd:=hD (HC9.o.keep (bQ W9).drew);have HRX:=hD (HRXA.o.keep HBd.o.g);refine wp_region_held_drew (S:=λW=>yC W gb go k ⟨⟨tag,kd,ao,af,vol,oth,cp,cn,data⟩,xa,xk⟩/\Bx3 W T12 44 rt re (.slice a2 rD k2)) kR ⟨HCd.o,HBd.o.yb⟩ (λhHeld=> ?_);generalize W9.drew=wd at *;clear HBM HC9;refine ftk 0 ?_;refine ftk 1 ?_;refine ftk 2 ?_;refine ftk 3 ?_;refine ftk 4 ?_;refine ftk 6 ?_;refine rdy 5 λK hK=> ?_;go_simp;refine(HMP.o _ HBd.o.mo HRX.o).m ?_;rintro e w6 ⟨a3,k3,m',rfl,hap,hmo,hrd,hgr⟩;have HAPM:=hD hap;have HB6:=hD (HBd.o.went hmo hgr);have HC6:=hD (HCd.o.grown hgr (by have h1:=HGB.o;have h2:=HBd.o.x1;omega));have HRD6:=hD hrd;clear hap hmo hrd hgr HBd HCd HMP;refine hK.out _ _ ⟨HC6.o,HB6.o.yb⟩ (λhHeld=> ?_);clear hK K
    try simp only[Act.put,sp]
    refine rdy 7 λK hK=> ?_;go_simp;refine(yF ⟨rt,re,rD⟩ a3 a2 k3 k2 _ HRD6.o HB6.o.dat).m ?_;rintro e w7 ⟨rfl,hb⟩;have HB7:=hD (HB6.o.aIx hb);have HC7:=hD (HC6.o.keep hb);clear hb HB6 HC6 HRD6;refine hK.out _ _ ⟨HC7.o,HB7.o.yb⟩ (λhHeld=> ?_);clear hK K
    try simp only[Act.put,sp]
    refine ftk 8 ?_;refine wpAnyH_done kR ?_ _;go_wp2_with fail;go_roundw
    case rel=>exact⟨k+1,m',g',va',vn',vc',da',dc',s',pa',pc',ps',oM,by go_num,hD (by have h1:=HAPM.o.past;have h2:=HPL.o;omega),hD ⟨HB7.o.mo,HB7.o.bx,HB7.o.rm,Ap.sim HSIM.o HFM.o HFG.o HAPM.o HAPG.o,HAPM.o.fine HFM.o (λe=>by have:=HFW.o.2 e;show cn<=255;omega),HAPG.o.fine HFG.o (λe=>by have:=HFW.o.2 e;show cn<=255;omega),HB7.o.g,by have:=HB7.o.x1;omega,by have:=HB7.o.t1;omega,HB7.o.n1⟩,hD (HB7.o.xb trivial).1⟩
    case measure=>simp[intOf];omega
  ·as_aux_lemma=>
   obtain rfl:k=L.length:=oM
   go_upto_region 13 with fail;have HSA:=hD (λW h1 h2=>Ev X m g ⟨va,vn,vc,da,dc,s⟩ pa pc ps W h1 h2 HBQ.o.sim HBQ.o.fm HBQ.o.fg);unfold rmV at HSA;simp only at HSA;have HBd:=hD (HBQ.o.aIx (bQ wr).drew);have HXd:=hD (HX3.o.aIx (bQ wr).drew);refine wp_region_held_drew (S:=λW=>Bx4 W T 34 s.F.N (.slice va vn vc) (.slice da s.F.N dc) (.slice pa ps pc)) kR HBd.o.bx (λhHeld=> ?_);generalize wr.drew=wd at *;clear HBQ HX3;refine gtk 0 ?_;refine gtk 1 ?_;refine gtk 2 ?_;refine gtk 3 ?_;refine rdy 4 λK hK=> ?_;go_simp;refine(HSA.o _ HBd.o.mo HBd.o.rm).m ?_;rintro e w6 ⟨rfl,hb⟩;have HB6:=hD (HBd.o.aIx hb);have HX6:=hD (HXd.o.aIx hb);clear hb HBd HXd HSA;refine hK.out _ _ HB6.o.bx (λhHeld=> ?_);clear hK K
   try simp only[Act.put,sp]
   refine gtk 5 ?_;have hg:=fK w6 w s.F.N (.slice va vn vc) (.slice da s.F.N dc) (.slice pa ps pc);have HBX:=hD (HB6.o.bx.grown hg (λe=>by injection e with e;have:=HT3.o;omega));have HRM9:=hD (HB6.o.rm.grownT (HX6.o.odN yG (λj d e=>by cases e) (λj d e=>by cases e)) HX6.o.ty NN hg);have HMO9:=hD (HB6.o.mo.aJm (HX6.o.odM yG aGs aGr) hg (by have:=HXG.o;omega));have HXR:=hD (HX6.o.rep s.F.N (.slice va vn vc) (.slice da s.F.N dc) (.slice pa ps pc));have HBE:Hid (Below w w (vT w6 w s.F.N (.slice va vn vc) (.slice da s.F.N dc) (.slice pa ps pc))):=hD ((((HB6.o.g.setCell (Ye _) _).setCell (Ye _) _).setCell (Ye _) _).setCell (Ye _) _);have e0:=HX6.o.c0;have e1:=HX6.o.c1;have e2:=HX6.o.c2;have e3:=HX6.o.c3;have e4:=HX6.o.f0;have e5:=HX6.o.f1;have e6:=HX6.o.f2;have e7:=HX6.o.f3;clear hg;refine rdy 6 λK hK=> ?_;go_simp;refine hK.out _ _ HBX.o (λhHeld=> ?_);clear hK K
   try simp only[Act.put,sp]
   clear e0 e1 e2 e3 e4 e5 e6 e7;refine gtk 7 ?_;refine wpAnyH_done kR ?_ _;have j0:=HXR.o.c0;have j1:=HXR.o.c1;have j2:=HXR.o.c2;have j3:=HXR.o.c3;go_wp2_with fail
   (try simp only[Exit.inBlock,Exit.then])
   refine Yg (v:= .tuple #[.pointer (cw X 0),.agg #[s.F.N,.slice va vn vc,.slice da s.F.N dc,.slice pa ps pc],true]) (by rw[KQ rfl];go_simp;done) rfl ?_;exact⟨X,m,g,⟨va,vn,vc,da,dc,s⟩,pa,pc,ps,rfl,HMO9.o,HRM9.o,HB6.o.sim,HB6.o.fm,HB6.o.fg,HPL.o,HB6.o.ge,HBE.o⟩
def awN:LU:=[97]
def awM:LU:=[98]
def bkO(x:Int):Bk:=⟨x,0,0,0,0,0,0,0⟩
def Vl:Cmd Bk:=⟨0,5,0,false,awN,[],0,4,[]⟩
def Dq:Cmd Bk:=⟨0,2,0,false,awN,[],1,1,[bkO 7]⟩
def Dp:Cmd Bk:=⟨0,6,0,false,awN,awM,0,0,[]⟩
def FD:Cmd Bk:=⟨0,2,0,false,awN,[],1,1,[bkO 8]⟩
def awV:Vol:=⟨awN,4,0,[]⟩
def Nh:Fam:=⟨10,[awV]⟩
def FB:MSt Bk:=⟨Nh,λ_=>Bk.zero⟩
def FC:Fam:=(aV Nh awN ⟨1,1,0⟩).1
def Ng:Fam:=(bJ FC awN awM).1
theorem aFi:Vl.valid=true:=kR
theorem aFh:Dq.valid=true:=kR
theorem aFg:Dp.valid=true:=kR
theorem aFf:FD.valid=true:=kR
theorem ZF:fE (pJ 10).cur.F Vl=0:=kR
theorem Sq:fE Nh Dq=0:=kR
theorem aFk:fE FC Dp=0:=kR
theorem aIr:fE Ng FD=0:=kR
theorem Sv{α:Type}{z:α}{m m':Mo α}{c:Cmd α}(h:Ap z m c m')(hv:c.valid=true)(he:fE m.cur.F c=0)(k1:c.kd≠1)(k4:c.kd≠4)(hf:c.af=false):Nx z m.cur c m'.cur/\m'.past=m.past++[m.cur]:=by
 unfold Ap at h;rw[Qf ⟨hv,he,k1⟩,Qe k4]at h;refine⟨h.1,?_⟩;rw[h.2,hf];rfl
theorem aAu{α:Type}{z:α}{s:MSt α}{c:Cmd α}(hv:c.valid=true)(he:fE s.F c=0):(kW z s c).err=0:=by
 unfold kW;rw[Qf hv];exact he
theorem ZC:Nh.sound:=by
 have:=Ba (Hf 10 oM) (nm:=awN) (n:=4) (r:=0) oM kR kR;exact this
theorem aFj:Nh.once:=λv hv=>by
 simp[Nh]at hv;subst hv;intro b c x hb;cases hb
theorem Sk:FB.fine:=⟨ZC,aFj⟩
theorem aCj:Sim (λi=>i) FB FB:=⟨⟨rfl,lM.id _,⟨⟨rfl,rfl,rfl,λb=>rfl⟩,trivial⟩⟩,λi _=>rfl⟩
theorem aHj:∃D,Nx Bk.zero FB Dq ⟨FC,D⟩:=by
 have hp:jO Nh awN 1 1=0:=Sq;obtain⟨v,p0,n0,k,hv,hnm,hp0,hn0,_,_,_,_,hpw⟩:=WT ZC aFj hp;rw[hnm]at hv;obtain rfl:awV=v:=Qv ((show aN Nh.vs awN=some awV by kernel_rfl).symm.trans hv);obtain rfl:p0=1:=oM
 obtain rfl:n0=1:=oM
 obtain ⟨G2,K2,g1,_,g3⟩:=(zL.start hpw).step (s:=0) oM kR dE kR;have hG:G2=FC:=g1.symm.trans rfl;subst hG;exact⟨_,λq=>absurd Sq q,λ_=>by
  rw[Qf (show Dq.kd=2 from rfl)]
  exact⟨awV,1,1,_,K2,rfl,rfl,rfl,g3.pw,g3.wr,rfl⟩⟩
theorem aw_1{m:Mo Bk}(h:Ap Bk.zero (pJ 10) Vl m):m.cur=FB/\m.past=[(pJ 10).cur]:=by
 obtain⟨h1,h2⟩:=Sv h aFi ZF dE dE rfl;have h3:=h1.2 ZF;rw[Qe dE]at h3;exact⟨h3.trans kR,h2⟩
theorem Sn{m:Mo Bk}(h:m.cur=FB):fE m.cur.F Dq=0:=by rw[h];exact Sq
theorem aw_2{m n:Mo Bk}(h:m.cur=FB)(h2:Ap Bk.zero m Dq n):(∃σ D,Sim σ n.cur ⟨FC,D⟩/\(⟨FC,D⟩:MSt Bk).fine)/\n.cur.fine/\n.past=m.past++[m.cur]/\obS n.cur=zW Bk.zero (obS FB) Dq:=by
 obtain⟨h3,h4⟩:=Sv h2 aFh (Sn h) dE dE rfl;rw[h]at h3;obtain⟨D,hDd⟩:=aHj;obtain⟨τ,hτ⟩:=Nx.sim aCj Sk Sk h3 hDd;exact⟨⟨τ,D,hτ,hDd.fine Sk dE⟩,h3.fine Sk dE,h4,Jj ZC.ok h3 Sq⟩
theorem Sm{n:Mo Bk}{σ:Nat->Nat}{D:Nat->Bk}(hs:Sim σ n.cur ⟨FC,D⟩)(hf:n.cur.fine)(hg:(⟨FC,D⟩:MSt Bk).fine):fE n.cur.F Dp=0:=by
 have:=wM hs.a hf.sound.ok hg.sound.ok Dp;exact this.symm.trans aFk
theorem aw_3{n k:Mo Bk}{σ:Nat->Nat}{D:Nat->Bk}(hs:Sim σ n.cur ⟨FC,D⟩)(hf:n.cur.fine)(hg:(⟨FC,D⟩:MSt Bk).fine)(h2:Ap Bk.zero n Dp k):(∃τ,Sim τ k.cur ⟨Ng,D⟩)/\(⟨Ng,D⟩:MSt Bk).fine/\k.cur.fine/\k.past=n.past++[n.cur]/\obS k.cur=zW Bk.zero (obS n.cur) Dp:=by
 have he:=Sm hs hf hg;obtain⟨h3,h4⟩:=Sv h2 aFg he dE dE rfl;have hN:Nx Bk.zero (⟨FC,D⟩:MSt Bk) Dp ⟨Ng,D⟩:=⟨λq=>absurd aFk q,λ_=>by
  rw[Qe dE]
  rfl⟩
 exact⟨Nx.sim hs hf hg h3 hN,hN.fine hg dE,h3.fine hf dE,h4,Jj hf.sound.ok h3 he⟩
theorem Sl{n:Mo Bk}{σ:Nat->Nat}{D:Nat->Bk}(hs:Sim σ n.cur ⟨Ng,D⟩)(hf:n.cur.fine)(hg:(⟨Ng,D⟩:MSt Bk).fine):fE n.cur.F FD=0:=by
 have:=wM hs.a hf.sound.ok hg.sound.ok FD;exact this.symm.trans aIr
theorem aw_4{n k:Mo Bk}{σ:Nat->Nat}{D:Nat->Bk}(hs:Sim σ n.cur ⟨Ng,D⟩)(hf:n.cur.fine)(hg:(⟨Ng,D⟩:MSt Bk).fine)(h2:Ap Bk.zero n FD k):k.cur.fine/\k.past=n.past++[n.cur]/\obS k.cur=zW Bk.zero (obS n.cur) FD:=by
 have he:=Sl hs hf hg;obtain⟨h3,h4⟩:=Sv h2 aFf he dE dE rfl;exact⟨h3.fine hf dE,h4,Jj hf.sound.ok h3 he⟩
theorem ZE{s2 s4:MSt Bk}(f2:s2.F.ok)(f4:s4.F.ok)(h2:obS s2=zW Bk.zero (obS FB) Dq)(h4:obS s4=zW Bk.zero (zW Bk.zero (zW Bk.zero (obS FB) Dq) Dp) FD):
  vF Bk.zero s4 awN 1=bkO 8/\(aX s4.F awN 1).2.2=0/\vF Bk.zero s4 awM 1=bkO 7/\(aX s4.F awM 1).2.2=0/\vF Bk.zero s2 awN 1=bkO 7/\(aX s2.F awN 1).2.2=0/\(aX s2.F awM 1).2.2=9:=by
 rw[JO f4 _ _ oM,JO f4 _ _ oM,JO f2 _ _ oM,Ay,Ay,Ay,Ay,h2,h4];exact⟨kR,kR,kR,kR,kR,kR,kR⟩
theorem uH(X:Nat)(m:Mo Bk)(c:Cmd Bk)(a:OA)(k:Nat)(w:Wd)(hm:MoB w X m)(hs:m.fine)(hpl:m.past.length<=10000)(hf:tN c)(hd:RdB w a c.data)(h5:c.kd=5->c.n<=255)(hv:c.valid=true)(he:fE m.cur.F c=0):
  ep 19 #[.pointer (cw X 0),cmV c a k] w λe w'=>∃t a2 n2 k2 m',e= .returned (.agg #[.int .i64 t,oo,.slice a2 n2 k2])/\Ap Bk.zero m c m'/\MoB w' X m'/\w.grownBy w' (some X):=by
 have h0:=aAu (z:=Bk.zero) hv he;refine(yX X m c a k w hm hs hpl hf hd h5).m ?_;rintro e w' ⟨a2,k2,m',rfl,h1,h2,_,h3⟩;exact⟨_,a2,_,k2,m',by rw[h0],h1,h2,h3⟩
theorem aCn:tN Vl:=⟨by unfold gJ;decide,by unfold gJ;decide,by unfold gJ;decide,by unfold gJ;decide,by unfold gJ;decide,dE,dE⟩
theorem aCm:tN Dq:=⟨by unfold gJ;decide,by unfold gJ;decide,by unfold gJ;decide,by unfold gJ;decide,by unfold gJ;decide,dE,dE⟩
theorem aCl:tN Dp:=⟨by unfold gJ;decide,by unfold gJ;decide,by unfold gJ;decide,by unfold gJ;decide,by unfold gJ;decide,dE,dE⟩
theorem aCk:tN FD:=⟨by unfold gJ;decide,by unfold gJ;decide,by unfold gJ;decide,by unfold gJ;decide,by unfold gJ;decide,dE,dE⟩
theorem RA(w:Wd)(a:OA):RdB w a ([]:List Bk):=⟨sM,.inl rfl⟩
def AwP(X:Nat)(m:Mo Bk)(c:Cmd Bk)(w:Wd)(e:Ending)(w':Wd):Prop:= ∃t a2 n2 k2 m',e= .returned (.agg #[.int .i64 t,oo,.slice a2 n2 k2])/\Ap Bk.zero m c m'/\MoB w' X m'/\w.grownBy w' (some X)
theorem aIq(X:Nat)(w:Wd)(hm:MoB w X (pJ 10)):
  ep 19 #[.pointer (cw X 0),.agg #[oo,.int .i64 5,oo,false,nmV [97],nmV [],oo,.int .i64 4,sn]] w (AwP X (pJ 10) Vl w):=
 uH X (pJ 10) Vl none 0 w hm (xD 10 oM) (by simp[pJ]) aCn (RA _ _) dE aFi ZF
theorem aIp(X:Nat)(m:Mo Bk)(a:OA)(w:Wd)(hm:MoB w X m)(hc:m.cur=FB)(hf:m.fine)(hl:m.past.length<=10000)(hd:RdB w a [⟨7,0,0,0,0,0,0,0⟩]):
  ep 19 #[.pointer (cw X 0),.agg #[oo,ow,oo,false,nmV [97],nmV [],ol,ol,.slice a 1 1]] w (AwP X m Dq w):=
 uH X m Dq a 1 w hm hf hl aCm hd dE aFh (Sn hc)
theorem aIo(X:Nat)(m:Mo Bk)(w:Wd)(hm:MoB w X m)(he:fE m.cur.F Dp=0)(hf:m.fine)(hl:m.past.length<=10000):
  ep 19 #[.pointer (cw X 0),.agg #[oo,.int .i64 6,oo,false,nmV [97],nmV [98],oo,oo,sn]] w (AwP X m Dp w):=
 uH X m Dp none 0 w hm hf hl aCl (RA _ _) dE aFg he
theorem aIn(X:Nat)(m:Mo Bk)(a:OA)(w:Wd)(hm:MoB w X m)(he:fE m.cur.F FD=0)(hf:m.fine)(hl:m.past.length<=10000)(hd:RdB w a [⟨8,0,0,0,0,0,0,0⟩]):
  ep 19 #[.pointer (cw X 0),.agg #[oo,ow,oo,false,nmV [97],nmV [],ol,ol,.slice a 1 1]] w (AwP X m FD w):=
 uH X m FD a 1 w hm hf hl aCk hd dE aFf he
theorem QZ(X:Nat)(m:Mo Bk)(nm:LU)(y er:Int)(w:Wd)(hm:MoB w X m)(hF:m.cur.F.ok)(hn:nm.length<=maxLen)(hx:vF Bk.zero m.cur nm 1=bkO y)(he:(aX m.cur.F nm 1).2.2=er):
  ep 20 #[.pointer (cw X 0),nmV nm,ol] w (RB w (.tuple #[.agg #[.int .u8 y,.int .u8 0,.int .u8 0,.int .u8 0,.int .u8 0,.int .u8 0,.int .u8 0,.int .u8 0],er])):=
 BI X m nm 1 w hm hF hn (by unfold gJ;omega) (bkO y) hx er he
theorem aIm(X:Nat)(m:Mo Bk)(a b c d:MSt Bk)(hl:m.past=[a,b,c,d])(w:Wd)(hm:MoB w X m):
  ep 15 #[.pointer (cw X 0),ow] w λe w'=>e= .returned (.int .i64 0)/\MoB w' X ⟨c,[]⟩/\w.grownBy w' (some X):=by
 have h:=RN X m 2 w hm (by unfold gJ;omega);have hc:lC m 2=(⟨c,[]⟩,0):=by unfold lC;rw[hl];rfl
 rwa [hc]at h
theorem MoB.lt{w:Wd}{X:Nat}{m:Mo Bk}(h:MoB w X m):X<w.heap.size:=by
 obtain⟨_,_,_,_,_,h1,_⟩:=h;exact h1.lt
theorem zM.far{w w':Wd}{b o k X:Nat}{x:Bk}(h:zM w b o k x)(hg:w.grownBy w' (some X))(hne:b≠X):zM w' b o k x:=by
 have hlt:b<w.heap.size:=Qj w (cw b (o+k*8)) h.c0;have hn:some b≠some X:=λe=>hne (by injection e);exact⟨(hg.cell_far ⟨b,_,none⟩ hlt hn).trans h.c0,(hg.cell_far ⟨b,_,none⟩ hlt hn).trans h.c1,(hg.cell_far ⟨b,_,none⟩ hlt hn).trans h.c2,(hg.cell_far ⟨b,_,none⟩ hlt hn).trans h.c3,(hg.cell_far ⟨b,_,none⟩ hlt hn).trans h.c4,(hg.cell_far ⟨b,_,none⟩ hlt hn).trans h.c5,(hg.cell_far ⟨b,_,none⟩ hlt hn).trans h.c6,(hg.cell_far ⟨b,_,none⟩ hlt hn).trans h.c7⟩
theorem Fz(w:Wd):ep 11 #[] w (RB w true):=by
 have hfl:∀(t e:Int) (v:Value) (W:Wd),(Instr.field 44 (.agg #[t,e,v]) 1).run prog W= .ok (.int .i64 e) W:=λ_ _ _ _=>by kernel_rfl
 go_enter func11,ntmps11;go_wp2_with fail;refine(Hl 10 _ oM).m ?_;rintro e w1 ⟨X,rfl,hX,hm,hb⟩;have HX:=hD hX;have HM:=hD hm;have HB:=hD hb;clear hX hm hb;go_wp2_with fail;refine(Pv [97] 4 0 _).m ?_;rintro e w2 ⟨rfl,hb⟩;have HM2:=hD (HM.o.aIx hb);have HB2:=hD (HB.o.on hb);clear hb HM HB;unfold cmV;simp only[List.length_nil];go_wp2_with fail;refine(aIq X _ HM2.o).m ?_;rintro e w3 ⟨t3,a3,n3,k3,m1,rfl,hap,hm,hg⟩;have HA1:=hD (aw_1 hap);have HF1:Hid m1.fine:=hD (hap.fine (xD 10 oM) dE);have HM3:=hD hm;have HB3:=hD (HB2.o.aJa hg (λj e=>by injection e with e;have:=HX.o;omega));clear hap hm hg HM2 HB2;go_wp2_with fail;refine(Hw [97] 1 7 _).m ?_;rintro e w4 ⟨a4,rfl,hd,hb⟩;have HM4:=hD (HM3.o.aIx hb);have HB4:=hD (HB3.o.on hb);have HD4:=hD hd;clear hb hd HM3 HB3;unfold cmV;simp only[List.length_nil,List.length_cons,Nat.zero_add];go_wp2_with fail;refine(aIp X m1 a4 _ HM4.o HA1.o.1 HF1.o (by rw[HA1.o.2];simp) HD4.o).m ?_;rintro e w5 ⟨t5,a5,n5,k5,m2,rfl,hap,hm,hg⟩;have HA2:=hD (aw_2 HA1.o.1 hap);have HF2:Hid m2.fine:=hD (hap.fine HF1.o dE);have HM5:=hD hm;have HB5:=hD (HB4.o.aJa hg (λj e=>by injection e with e;have:=HX.o;omega));have HL2:Hid (m2.past=[(pJ 10).cur,m1.cur]):=hD (by rw[HA2.o.2.2.1,HA1.o.2];rfl);clear hap hm hg HM4 HB4 HD4;obtain⟨⟨σ,D,hsim,hfd⟩,hf2,_,hob2⟩:=HA2.o;have HE3:=hD (Sm hsim hf2 hfd);have HS2:=hD hsim;have HD2:=hD hfd;have HO2:=hD hob2;clear hsim hfd hf2 hob2 HA2;go_wp2_with fail;refine(Uu [97] [98] _).m ?_;rintro e w6 ⟨rfl,hb⟩;have HM6:=hD (HM5.o.aIx hb);have HB6:=hD (HB5.o.on hb);clear hb HM5 HB5;unfold cmV;simp only[List.length_nil];go_wp2_with fail;refine(aIo X m2 _ HM6.o HE3.o HF2.o (by rw[HL2.o];simp)).m ?_;rintro e w7 ⟨t7,a7,n7,k7,m3,rfl,hap,hm,hg⟩;have HA3:=hD (aw_3 HS2.o HF2.o.cur HD2.o hap);have HF3:Hid m3.fine:=hD (hap.fine HF2.o dE);have HM7:=hD hm;have HB7:=hD (HB6.o.aJa hg (λj e=>by injection e with e;have:=HX.o;omega));have HL3:Hid (m3.past=[(pJ 10).cur,m1.cur,m2.cur]):=hD (by rw[HA3.o.2.2.2.1,HL2.o];rfl);clear hap hm hg HM6 HB6;obtain⟨⟨τ,hsim⟩,hfd,hf3,_,hob3⟩:=HA3.o;have HE4:=hD (Sl hsim hf3 hfd);have HS3:=hD hsim;have HD3:=hD hfd;have HO3:=hD hob3;clear hsim hfd hf3 hob3 HA3;go_wp2_with fail;refine(Hw [97] 1 8 _).m ?_;rintro e w8 ⟨a8,rfl,hd,hb⟩;have HM8:=hD (HM7.o.aIx hb);have HB8:=hD (HB7.o.on hb);have HD8:=hD hd;clear hb hd HM7 HB7;unfold cmV;simp only[List.length_nil,List.length_cons,Nat.zero_add];go_wp2_with fail;refine(aIn X m3 a8 _ HM8.o HE4.o HF3.o (by rw[HL3.o];simp) HD8.o).m ?_;rintro e w9 ⟨t9,a9,n9,k9,m4,rfl,hap,hm,hg⟩;have HA4:=hD (aw_4 HS3.o HF3.o.cur HD3.o hap);have HF4:Hid m4.fine:=hD (hap.fine HF3.o dE);have HM9:=hD hm;have HB9:=hD (HB8.o.aJa hg (λj e=>by injection e with e;have:=HX.o;omega));have HL4:Hid (m4.past=[(pJ 10).cur,m1.cur,m2.cur,m3.cur]):=hD (by rw[HA4.o.2.1,HL3.o];rfl);have HRD:=hD (ZE HF2.o.cur.sound.ok HF4.o.cur.sound.ok HO2.o (by rw[HA4.o.2.2,HO3.o,HO2.o]));clear hap hm hg HM8 HB8 HD8 HA4 HS2 HS3 HD2 HD3 HO2 HO3 HE3 HE4 HL2 HL3 HA1 HF1 HF3;have heq:∀(y:Int) (W:Wd),(Op.equalIn 10000 56 (.agg #[.int .u8 y,.int .u8 0,.int .u8 0,.int .u8 0,.int .u8 0,.int .u8 0,.int .u8 0,.int .u8 0]) (.agg #[.int .u8 y,.int .u8 0,.int .u8 0,.int .u8 0,.int .u8 0,.int .u8 0,.int .u8 0,.int .u8 0])).run prog W= .ok true W:=by
  intro y W;have h:=uY ⟨y,0,0,0,0,0,0,0⟩ ⟨y,0,0,0,0,0,0,0⟩ 9998 W;unfold Bk.v at h
  simpa only[Nat.reduceAdd,decide_true]using h
 have hq8:=heq 8;have hq7:=heq 7;go_wp2_with fail;refine(QZ X m4 [97] 8 0 _ HM9.o HF4.o.cur.sound.ok dE HRD.o.1 HRD.o.2.1).m ?_;rintro e w10 ⟨rfl,hb⟩;have hk:=hb.aIw (.cells (iW ⟨8,0,0,0,0,0,0,0⟩) 56);have HY10:=hD (RB8.new w10 w10 ⟨8,0,0,0,0,0,0,0⟩ 56 bR);have HM10:=hD (HM9.o.aIx hk);have HX10:=hD (HM9.o.aIx hb).lt;have HB10:=hD (HB9.o.on hk);clear hb hk HM9 HB9;go_upto_region 5 with fail;generalize w10.alloc (cq #[.int .u8 8,.int .u8 0,.int .u8 0,.int .u8 0,.int .u8 0,.int .u8 0,.int .u8 0,.int .u8 0] 56)=W10 at HY10 HM10 HB10 ⊢;have HN10:Hid (w10.heap.size≠X):=hD (by have:=HX10.o;omega);generalize w10.heap.size=T10 at HY10 HN10 ⊢;go_wp2_with fail;refine(QZ X m4 [98] 7 0 _ HM10.o HF4.o.cur.sound.ok dE HRD.o.2.2.1 HRD.o.2.2.2.1).m ?_;rintro e w11 ⟨rfl,hb⟩;have hk:=hb.aIw (.cells (iW ⟨7,0,0,0,0,0,0,0⟩) 56);have HY11:=hD (RB8.new w11 w11 ⟨7,0,0,0,0,0,0,0⟩ 56 bR);have HZ11:=hD (HY10.o.aIx hk);have HM11:=hD (HM10.o.aIx hk);have HX11:=hD (HM10.o.aIx hb).lt;have HB11:=hD (HB10.o.on hk);clear hb hk HM10 HB10 HY10;go_upto_region 6 with fail;generalize w11.alloc (cq #[.int .u8 7,.int .u8 0,.int .u8 0,.int .u8 0,.int .u8 0,.int .u8 0,.int .u8 0,.int .u8 0] 56)=W11 at HY11 HZ11 HM11 HB11 ⊢;have HN11:Hid (w11.heap.size≠X):=hD (by have:=HX11.o;omega);generalize w11.heap.size=T11 at HY11 HN11 ⊢;go_wp2_with fail;refine(Hg X m4 4 _ HM11.o (by rw[HL4.o];rfl)).m ?_;rintro e w12 ⟨rfl,hb⟩;have HY12:=hD (HY11.o.aIx hb);have HZ12:=hD (HZ11.o.aIx hb);have HM12:=hD (HM11.o.aIx hb);have HB12:=hD (HB11.o.on hb);clear hb HM11 HB11 HY11 HZ11;go_wp2_with fail;refine(aIm X m4 _ _ _ _ HL4.o _ HM12.o).m ?_;rintro e w13 ⟨rfl,hm,hg⟩;have HM13:=hD hm;have HB13:=hD (HB12.o.aJa hg (λj e=>by injection e with e;have:=HX.o;omega));have HY13:=hD (HY12.o.at'.far hg HN11.o);have HZ13:=hD (HZ12.o.at'.far hg HN10.o);clear hm hg HM12 HB12 HY12 HZ12;go_wp2_with fail;refine(QZ X ⟨m2.cur,[]⟩ [97] 7 0 _ HM13.o HF2.o.cur.sound.ok dE HRD.o.2.2.2.2.1 HRD.o.2.2.2.2.2.1).m ?_;rintro e w14 ⟨rfl,hb⟩;have hk:=hb.aIw (.cells (iW ⟨7,0,0,0,0,0,0,0⟩) 56);have HV14:=hD (RB8.new w14 w14 ⟨7,0,0,0,0,0,0,0⟩ 56 bR);have HY14:=hD (HY13.o.keep hk);have HZ14:=hD (HZ13.o.keep hk);have HM14:=hD (HM13.o.aIx hk);have HB14:=hD (HB13.o.on hk);clear hb hk HM13 HB13 HY13 HZ13;go_upto_region 9 with fail;generalize w14.alloc (cq #[.int .u8 7,.int .u8 0,.int .u8 0,.int .u8 0,.int .u8 0,.int .u8 0,.int .u8 0,.int .u8 0] 56)=W14 at HV14 HY14 HZ14 HM14 HB14 ⊢;generalize w14.heap.size=T14 at HV14 ⊢;obtain⟨y,hy⟩:∃y,vF Bk.zero m2.cur [98] 1=y:=⟨_,rfl⟩;have HRB:=hD (λW (h:MoB W X ⟨m2.cur,[]⟩)=>BI X ⟨m2.cur,[]⟩ [98] 1 W h HF2.o.cur.sound.ok dE (by unfold gJ;omega) y hy 9 HRD.o.2.2.2.2.2.2);clear hy;obtain⟨y0,y1,y2,y3,y4,y5,y6,y7⟩:=y;unfold Rh at HRB;unfold Bk.v at HRB;simp only at HRB;go_wp2_with fail;refine(HRB.o _ HM14.o).m ?_;rintro e w15 ⟨rfl,hb⟩;have hk:=hb.aIw (.cells (iW ⟨y0,y1,y2,y3,y4,y5,y6,y7⟩) 56);have HV15:=hD (HV14.o.at'.keep hk);have HY15:=hD (HY14.o.keep hk);have HZ15:=hD (HZ14.o.keep hk);have HB15:=hD (HB14.o.on hk);clear hb hk HM14 HB14 HY14 HZ14 HRB HV14;go_upto_region 10 with fail;generalize w15.alloc (cq #[.int .u8 y0,.int .u8 y1,.int .u8 y2,.int .u8 y3,.int .u8 y4,.int .u8 y5,.int .u8 y6,.int .u8 y7] 56)=W15 at HV15 HY15 HZ15 HB15 ⊢;generalize w15.heap.size=T15;obtain⟨g0,g1,g2,g3,g4,g5,g6,g7⟩:=HV15.o;obtain⟨h0,h1,h2,h3,h4,h5,h6,h7⟩:=HY15.o;obtain⟨j0,j1,j2,j3,j4,j5,j6,j7⟩:=HZ15.o;simp only[Nat.zero_mul,Nat.zero_add]at g0 g1 g2 g3 g4 g5 g6 g7 h0 h1 h2 h3 h4 h5 h6 h7 j0 j1 j2 j3 j4 j5 j6 j7;go_wp2_with fail;go_ret;exact⟨rfl,HB15.o⟩
end Go.Proofs.YtphfgbbbejloaaaGreatDoor
