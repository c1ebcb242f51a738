/- package model: Apply. Conditions: as each theorem says. -/
import Derived.Test.YtphfgbbbejloaaaGreatDoorMeKp
import Derived.Deep.AppendLies
set_option linter.unusedSimpArgs false
set_option linter.unusedVariables false
set_option linter.unusedSectionVars false
set_option maxRecDepth 100000
set_option maxHeartbeats 16000000
namespace Go.Proofs.YtphfgbbbejloaaaGreatDoor
open Go.RowKit Go.Maps
open Go.Proofs.Tryz
open Go.Shelf
variable[Gst]
theorem aDu{P:Prop}(h:P:=by
  clear q hpl;go_enter func15,ntmps15;go_wp2_with fail;go_ret;exact⟨rfl,HMO.o,World.grownBy.refl _ _⟩
  ):P:=h
theorem AY.mo{w W:Wd}{X:Nat}{c:Cmd Bk}{a:OA}{k:Nat}{M b:Nat}{pa:OA}{pc:Nat}{ps:List PS}{er:Int}{dv:Value}{m:Mo Bk}(h:AY w W X c a k (.pointer (cw M 0)) (.map (some b)) (.slice pa ps pc) er dv)(hX:MX w X)(h1:StM w M b m.cur)(h2:oU w pa ps)(h3:LPa w ps)(h4:ps.map PS.s=m.past):MoB W X m:=
 ⟨M,b,pa,pc,ps,h.mb,h1.grown hX h.g,h2.grown hX h.g,h3.grown hX h.g,h4⟩
section
variable(X:Nat)(m:Mo Bk)(tag kd ao:Int)(af:Bool)(vol oth:LU)(p n:Int)(data:List Bk)(a:OA)(k:Nat)(w:Wd)(hm:MoB w X m)(hf:tN ⟨tag,kd,ao,af,vol,oth,p,n,data⟩)(hd:RdB w a data)
include hm hf hd
theorem Pj(hv:(⟨tag,kd,ao,af,vol,oth,p,n,data⟩:Cmd Bk).valid=false):
  ep 19 #[.pointer (cw X 0),cmV ⟨tag,kd,ao,af,vol,oth,p,n,data⟩ a k] w (JY m ⟨tag,kd,ao,af,vol,oth,p,n,data⟩ X w):=by
 have HR:Hid (kW Bk.zero m.cur ⟨tag,kd,ao,af,vol,oth,p,n,data⟩=⟨tag,1,[]⟩):=hD (by unfold kW;rw[Qe (by rw[hv];decide)]);have HP:Hid (Ap Bk.zero m ⟨tag,kd,ao,af,vol,oth,p,n,data⟩ m):=hD (by unfold Ap;rw[Qe (λq=>by rw[hv]at q;cases q.1)]);have HMO:=hD hm;obtain⟨M,b,pa,pc,ps,hb3,hst,hpa,hlp,hpp⟩:=hm;have HMX:=hD (hb3.mx (λk c e=>by cases e) (λk c e=>by cases e) (λk c e=>by cases e));have HA:=hD (AY.init w X ⟨tag,kd,ao,af,vol,oth,p,n,data⟩ a k _ _ _ hb3 _ rfl);have HST:=hD hst;have HPA:=hD hpa;have HLP:=hD hlp;have HPP:=hD hpp;have HVA:=hD (λW h=>xM ⟨tag,kd,ao,af,vol,oth,p,n,data⟩ a k W hf h);have HRD:=hD hd;clear hb3 hst hpa hlp hpp hd;unfold cmV;unfold bB at HA;simp only at HA ⊢;go_enter func19,ntmps19;have q0:((w.alloc (cq #[tag,kd,ao,.bool af,nmV vol,nmV oth,p,n,.slice a data k] 48)).alloc (cq #[oo,oo,sn] 44)).cell? (cw w 0)=tag:=by
  rw[Ya _ _ _ sM];simp
 go_upto_region 9 with fail;clear q0;generalize ((w.alloc (cq #[tag,kd,ao,.bool af,nmV vol,nmV oth,p,n,.slice a data k] 48)).alloc (cq #[oo,oo,sn] 44)).alloc (cq #[tag,oo,sn] 44)=W at HA ⊢;obtain⟨⟨c0,c1,c2,c3,c4,c5,c6,c7,c8⟩,⟨r0,r1,r2,h0,h1,h2,-,-⟩,⟨y0,y1,y2,g0,g1,g2,-,-⟩,⟨m0,m1,m2,n0,n1,n2,-,-⟩,-,-⟩:=HA.o;simp only at c0 c1 c2 c3 c4 c5 c6 c7 c8 y0;rw[hv]at HVA;go_wp2_with fail;refine(HVA.o _ (HRD.o.aJh HMX.o HA.o.g)).m ?_;rintro e w1 ⟨rfl,hb⟩;have HA1:=hD (HA.o.aIx hb);clear hb;clear c0 c1 c2 c3 c4 c5 c6 c7 c8 y0 y1 y2 g0 g1 g2 r0 r1 r2 h0 h1 h2 m0 m1 m2 n0 n1 n2;obtain⟨⟨c0,c1,c2,c3,c4,c5,c6,c7,c8⟩,⟨r0,r1,r2,h0,h1,h2,-,-⟩,⟨y0,y1,y2,g0,g1,g2,-,-⟩,⟨m0,m1,m2,n0,n1,n2,-,-⟩,-,-⟩:=HA1.o;simp only at c0 c1 c2 c3 c4 c5 c6 c7 c8 y0;have HA2:=hD (HA1.o.err 1);have y0':=HA2.o.yb.c0;have y1':=HA2.o.yb.c1;have y2':=HA2.o.yb.c2;simp only at y0';go_wp2_with fail;clear c0 c1 c2 c3 c4 c5 c6 c7 c8 y0 y1 y2 g0 g1 g2 r0 r1 r2 h0 h1 h2 m0 m1 m2 n0 n1 n2;clear y0' y1' y2';generalize w1.setCell (cw (ch w) 1) ol=w2 at *;have j0:=(HA2.o.rb.rep tag ol sn).c0;have j1:=(HA2.o.rb.rep tag ol sn).c1;have j2:=(HA2.o.rb.rep tag ol sn).c2;refine br (.agg #[tag,ol,(.slice none 0 0)]) ?_;exact AY.done (D:=[]) HA2.o (HA2.o.mo HMX.o HST.o HPA.o HLP.o HPP.o) ⟨sM,.inl rfl⟩ HP.o HR.o
end
section
variable(X:Nat)(m:Mo Bk)(tag ao:Int)(af:Bool)(vol oth:LU)(p n:Int)(data:List Bk)(a:OA)(k:Nat)(w:Wd)(hm:MoB w X m)
include hm
theorem XO(hf:tN ⟨tag,4,ao,af,vol,oth,p,n,data⟩)(hd:RdB w a data)(hv:(⟨tag,4,ao,af,vol,oth,p,n,data⟩:Cmd Bk).valid=true):
  ep 19 #[.pointer (cw X 0),cmV ⟨tag,4,ao,af,vol,oth,p,n,data⟩ a k] w (JY m ⟨tag,4,ao,af,vol,oth,p,n,data⟩ X w):=by
 have he:fE m.cur.F (⟨tag,4,ao,af,vol,oth,p,n,data⟩:Cmd Bk)=0:=rfl;have HR:Hid (kW Bk.zero m.cur ⟨tag,4,ao,af,vol,oth,p,n,data⟩=⟨tag,0,[]⟩):=hD (by unfold kW;rw[Qf hv,he,Qe (by rintro⟨h,_⟩;cases h)]);have HP:Hid (Ap Bk.zero m ⟨tag,4,ao,af,vol,oth,p,n,data⟩ ⟨m.cur,[]⟩):=hD (by unfold Ap;rw[Qf ⟨hv,he,by show ¬(4:Int)=1;decide⟩,Qf rfl]);clear he;obtain⟨M,b,pa,pc,ps,hb3,hst,hpa,hlp,hpp⟩:=hm;have HMX:=hD (hb3.mx (λk c e=>by cases e) (λk c e=>by cases e) (λk c e=>by cases e));have HA:=hD (AY.init w X ⟨tag,4,ao,af,vol,oth,p,n,data⟩ a k _ _ _ hb3 _ rfl);have HST:=hD hst;have HPA:=hD hpa;have HLP:=hD hlp;have HPP:=hD hpp;have HVA:=hD (λW h=>xM ⟨tag,4,ao,af,vol,oth,p,n,data⟩ a k W hf h);have HRD:=hD hd;clear hb3 hst hpa hlp hpp hd;unfold cmV;unfold bB at HA;simp only at HA ⊢;go_enter func19,ntmps19;have q0:((w.alloc (cq #[tag,.int .i64 4,ao,.bool af,nmV vol,nmV oth,p,n,.slice a data k] 48)).alloc (cq #[oo,oo,sn] 44)).cell? (cw w 0)=tag:=by
  rw[Ya _ _ _ sM];simp
 go_upto_region 9 with fail;clear q0;generalize ((w.alloc (cq #[tag,.int .i64 4,ao,.bool af,nmV vol,nmV oth,p,n,.slice a data k] 48)).alloc (cq #[oo,oo,sn] 44)).alloc (cq #[tag,oo,sn] 44)=W at HA ⊢;obtain⟨⟨c0,c1,c2,c3,c4,c5,c6,c7,c8⟩,⟨r0,r1,r2,h0,h1,h2,-,-⟩,⟨y0,y1,y2,g0,g1,g2,-,-⟩,⟨m0,m1,m2,n0,n1,n2,-,-⟩,-,-⟩:=HA.o;simp only at c0 c1 c2 c3 c4 c5 c6 c7 c8 y0;rw[hv]at HVA;go_wp2_with fail;refine(HVA.o _ (HRD.o.aJh HMX.o HA.o.g)).m ?_;rintro e w1 ⟨rfl,hb⟩;have HA1:=hD (HA.o.aIx hb);clear hb HVA;clear c0 c1 c2 c3 c4 c5 c6 c7 c8 y0 y1 y2 g0 g1 g2 r0 r1 r2 h0 h1 h2 m0 m1 m2 n0 n1 n2;obtain⟨⟨c0,c1,c2,c3,c4,c5,c6,c7,c8⟩,⟨r0,r1,r2,h0,h1,h2,-,-⟩,⟨y0,y1,y2,g0,g1,g2,-,-⟩,⟨m0,m1,m2,n0,n1,n2,-,-⟩,-,-⟩:=HA1.o;simp only at c0 c1 c2 c3 c4 c5 c6 c7 c8 y0;have HA2:=hD (HA1.o.pm2 sn);have y0':=HA2.o.yb.c0;have y1':=HA2.o.yb.c1;have y2':=HA2.o.yb.c2;have r0':=HA2.o.rb.c0;have r1':=HA2.o.rb.c1;have r2':=HA2.o.rb.c2;simp only at y0';go_wp2_with fail;clear c0 c1 c2 c3 c4 c5 c6 c7 c8 y0 y1 y2 g0 g1 g2 r0 r1 r2 h0 h1 h2 m0 m1 m2 n0 n1 n2;clear y0' y1' y2' r0' r1' r2';generalize w1.setCell (cw X 2) sn=w2 at *;have j0:=(HA2.o.rb.rep tag oo sn).c0;have j1:=(HA2.o.rb.rep tag oo sn).c1;have j2:=(HA2.o.rb.rep tag oo sn).c2;refine br (.agg #[tag,oo,(.slice none 0 0)]) ?_;exact AY.done (D:=[]) HA2.o (AY.mo (ps:=[]) (m:=⟨m.cur,[]⟩) HA2.o HMX.o HST.o (oU.nil _ _) (by intro p hp;simp at hp) rfl) ⟨sM,.inl rfl⟩ HP.o HR.o
theorem XP(hF:m.cur.F.ok)(hf:tN ⟨tag,1,ao,af,vol,oth,p,n,data⟩)(hd:RdB w a data)(hv:(⟨tag,1,ao,af,vol,oth,p,n,data⟩:Cmd Bk).valid=true):
    ep 19 #[.pointer (cw X 0),cmV ⟨tag,1,ao,af,vol,oth,p,n,data⟩ a k] w (JY m ⟨tag,1,ao,af,vol,oth,p,n,data⟩ X w):=by
  obtain ⟨v0,v1,v2⟩:=DV hv rfl;obtain⟨x0,hx0⟩:∃x0,(dP m.cur.F vol p n).2=x0:=⟨_,rfl⟩;have he:fE m.cur.F (⟨tag,1,ao,af,vol,oth,p,n,data⟩:Cmd Bk)=x0:=hx0;obtain⟨D,hDd⟩:∃D,(if x0=0 then vD Bk.zero m.cur vol p n else [])=D:=⟨_,rfl⟩;have HR:Hid (kW Bk.zero m.cur ⟨tag,1,ao,af,vol,oth,p,n,data⟩=⟨tag,x0,D⟩):=hD (by
    unfold kW;rw[Qf hv,he,<-hDd];by_cases h0:x0=0
    · rw[Qf ⟨rfl,h0⟩,Qf h0]
    · rw[Qe (λq=>h0 q.2),Qe h0])
  have HP:Hid (Ap Bk.zero m ⟨tag,1,ao,af,vol,oth,p,n,data⟩ m):=hD (by unfold Ap;rw[Qe (λq=>q.2.2 rfl)]);have hvl:=vI hv (by show ¬(1:Int)=4;decide);simp only at v0 v1 v2 hvl;have hpn:p<=65536:=by
    have hin:=hv;unfold Cmd.valid at hin;simp only[Qd]at hin;have:=hin.2.2;rw[Px rfl]at this;simp only[Qd,lK,Qc]at this;omega
  obtain ⟨nn,hnn⟩:=Qr (show 0<=n by omega);have HRR:=hD (λM b W (h:StM W M b m.cur)=>XC M b m.cur tag 1 ao af vol oth p nn data a k W hF h hf.vol ⟨v0,hpn⟩ oM x0 (by rw[<-hnn];exact hx0));rw[<-hnn,hDd]at HRR;clear he hDd hx0 v0 v1 v2 hvl hpn hnn hF;obtain⟨M,b,pa,pc,ps,hb3,hst,hpa,hlp,hpp⟩:=hm;have HMX:=hD (hb3.mx (λk c e=>by cases e) (λk c e=>by cases e) (λk c e=>by cases e));have HA:=hD (AY.init w X ⟨tag,1,ao,af,vol,oth,p,n,data⟩ a k _ _ _ hb3 _ rfl);have HST:=hD hst;have HPA:=hD hpa;have HLP:=hD hlp;have HPP:=hD hpp;have HVA:=hD (λW h=>xM ⟨tag,1,ao,af,vol,oth,p,n,data⟩ a k W hf h);have HRD:=hD hd;clear hb3 hst hpa hlp hpp hd;unfold cmV;unfold bB at HA;simp only at HA ⊢;go_enter func19,ntmps19;have q0:((w.alloc (cq #[tag,ol,ao,.bool af,nmV vol,nmV oth,p,n,.slice a data k] 48)).alloc (cq #[oo,oo,sn] 44)).cell? (cw w 0)=tag:=by
    rw[Ya _ _ _ sM];simp
  go_upto_region 9 with fail;clear q0;generalize ((w.alloc (cq #[tag,ol,ao,.bool af,nmV vol,nmV oth,p,n,.slice a data k] 48)).alloc (cq #[oo,oo,sn] 44)).alloc (cq #[tag,oo,sn] 44)=W at HA ⊢;obtain⟨⟨c0,c1,c2,c3,c4,c5,c6,c7,c8⟩,⟨r0,r1,r2,h0,h1,h2,-,-⟩,⟨y0,y1,y2,g0,g1,g2,-,-⟩,⟨m0,m1,m2,n0,n1,n2,-,-⟩,-,-⟩:=HA.o;simp only at c0 c1 c2 c3 c4 c5 c6 c7 c8 y0;unfold cmV at HRR;simp only at HRR;rw[hv]at HVA;go_wp2_with fail;refine(HVA.o _ (HRD.o.aJh HMX.o HA.o.g)).m ?_;rintro e w1 ⟨rfl,hb⟩;have HA1:=hD (HA.o.aIx hb);clear hb HVA;clear c0 c1 c2 c3 c4 c5 c6 c7 c8 y0 y1 y2 g0 g1 g2 r0 r1 r2 h0 h1 h2 m0 m1 m2 n0 n1 n2;obtain⟨⟨c0,c1,c2,c3,c4,c5,c6,c7,c8⟩,⟨r0,r1,r2,h0,h1,h2,-,-⟩,⟨y0,y1,y2,g0,g1,g2,-,-⟩,⟨m0,m1,m2,n0,n1,n2,-,-⟩,-,-⟩:=HA1.o;simp only at c0 c1 c2 c3 c4 c5 c6 c7 c8 y0;go_upto_region 14 with fail;clear c0 c1 c2 c3 c4 c5 c6 c7 c8 y0 y1 y2 g0 g1 g2 r0 r1 r2 h0 h1 h2 m0 m1 m2 n0 n1 n2;have HD:=hD (HA1.o.aIx bR.drew);have hst1:=HST.o.grown HMX.o HD.o.g;have HSD:=hD hst1;clear hst1;have y0:=HD.o.yb.c0;simp only at y0
  go_region_held3 (λw'=>w' (cw X 0)=some (.pointer (cw M 0))/\w' (cw X 1)=some (.map (some b))/\w' (cw w 0)=tag/\w' (cw w 1)=ol/\w' (cw w 2)=ao/\w' (cw w 3)=some (.bool af)/\w' (cw w 4)=some (nmV vol)/\w' (cw w 5)=some (nmV oth)/\w' (cw w 6)=p/\w' (cw w 7)=n/\w' (cw w 8)=some (.slice a data k))
      (first
        |with_reducible exact⟨HD.o.mb.c0,HD.o.mb.c1,HD.o.cb.c0,HD.o.cb.c1,HD.o.cb.c2,HD.o.cb.c3,HD.o.cb.c4,HD.o.cb.c5,HD.o.cb.c6,HD.o.cb.c7,HD.o.cb.c8⟩
        |with_reducible exact⟨H2.o.mb.c0,H2.o.mb.c1,H2.o.cb.c0,H2.o.cb.c1,H2.o.cb.c2,H2.o.cb.c3,H2.o.cb.c4,H2.o.cb.c5,H2.o.cb.c6,H2.o.cb.c7,H2.o.cb.c8⟩
        |with_reducible exact⟨H3.o.mb.c0,H3.o.mb.c1,H3.o.cb.c0,H3.o.cb.c1,H3.o.cb.c2,H3.o.cb.c3,H3.o.cb.c4,H3.o.cb.c5,H3.o.cb.c6,H3.o.cb.c7,H3.o.cb.c8⟩
        |with_reducible exact⟨H4.o.mb.c0,H4.o.mb.c1,H4.o.cb.c0,H4.o.cb.c1,H4.o.cb.c2,H4.o.cb.c3,H4.o.cb.c4,H4.o.cb.c5,H4.o.cb.c6,H4.o.cb.c7,H4.o.cb.c8⟩)
      (first
        |(go_at_call 41;(with_reducible refine(HRR.o M b _ HSD.o).m ?_);rintro e w2 ⟨a2,k2,rfl,hrd2,hb⟩;have H2:=hD (HD.o.aIx hb);have H3:=hD (H2.o.dat (.slice a2 D.length k2));have H4:=hD (H3.o.err x0);have HRB:=hD hrd2;clear hb hrd2;have y1:=H2.o.yb.c1;have y2:=H2.o.yb.c2;have g1:=H2.o.yb.f1;have g2:=H2.o.yb.f2;have y1':=H3.o.yb.c1;have g1':=H3.o.yb.f1))
  all_goals
    have HG3:=hD ((HRB.o.aJk (H2.o.od ⟨_,_,_,rfl⟩) (aJ _ (cw (ch w) 2) (.slice a2 D.length k2))).aJk (H3.o.od ⟨_,_,_,rfl⟩) (aJ _ (cw (ch w) 1) (.int .i64 x0)));clear y0 y1 y2 g1 g2 y1' g1';generalize (w2.setCell (cw (ch w) 2) (.slice a2 D.length k2)).setCell (cw (ch w) 1) (.int .i64 x0)=W9 at *;obtain⟨⟨c0,c1,c2,c3,c4,c5,c6,c7,c8⟩,⟨r0,r1,r2,h0,h1,h2,-,-⟩,⟨y0,y1,y2,g0,g1,g2,-,-⟩,⟨m0,m1,m2,n0,n1,n2,-,-⟩,-,-⟩:=H4.o;simp only at c0 c1 c2 c3 c4 c5 c6 c7 c8 y0;go_wp2_with fail;clear c0 c1 c2 c3 c4 c5 c6 c7 c8 y0 y1 y2 g0 g1 g2 r0 r1 r2 h0 h1 h2 m0 m1 m2 n0 n1 n2;have j0:=(H4.o.rb.rep tag (.int .i64 x0) (.slice a2 D.length k2)).c0;have j1:=(H4.o.rb.rep tag (.int .i64 x0) (.slice a2 D.length k2)).c1;have j2:=(H4.o.rb.rep tag (.int .i64 x0) (.slice a2 D.length k2)).c2;refine br (.agg #[tag,.int .i64 x0,(.slice a2 D.length k2)]) ?_;exact AY.done (D:=D) H4.o (H4.o.mo HMX.o HST.o HPA.o HLP.o HPP.o) HG3.o HP.o HR.o
end
theorem AY.row{w W W':Wd}{X:Nat}{c:Cmd Bk}{a:OA}{k:Nat}{m0 m1 m2:Value}{er:Int}{dv:Value}{r:Nat}(h:AY w W X c a k m0 m1 m2 er dv)(hg:W.grownBy W' (some r))(hr:w.heap.size+1+1<r):AY w W' X c a k m0 m1 m2 er dv:=by
 have hx:=h.x;exact⟨h.cb.grown hg oM,h.rb.grown hg (λe=>by have:=Qv e;omega),h.yb.grown hg (λe=>by have:=Qv e;omega),h.mb.grown hg (λe=>by have:=Qv e;omega),h.x,qC h.g hg oM⟩
theorem gW.mono{w:Wd}{B B':Nat}{v:Value}{ps:List PS}(h:gW w B v ps)(hB:B'<=B):gW w B' v ps:=
 ⟨h.1,h.2.imp id λ⟨g,cap,cur,hv,hg,r⟩=>⟨g,cap,cur,hv,Nat.le_trans hB hg,r⟩⟩
theorem gW.sl{w:Wd}{B:Nat}{v:Value}{ps:List PS}(h:gW w B v ps):∃a n c,v= .slice a n c:=by
 unfold gW World.ownsRow at h;rcases h.2 with h|⟨g,cap,cur,h,_⟩
 ·exact⟨_,_,_,h.1⟩
 ·exact⟨_,_,_,h⟩
section
variable(X:Nat)(m:Mo Bk)(tag kd ao:Int)(af:Bool)(vol oth:LU)(p n:Int)(data:List Bk)(a:OA)(k:Nat)(w:Wd)(hm:MoB w X m)
include hm
theorem XN(hs:m.cur.fine)(hpl:m.past.length<=10000)(hf:tN ⟨tag,kd,ao,af,vol,oth,p,n,data⟩)(hd:RdB w a data)(hv:(⟨tag,kd,ao,af,vol,oth,p,n,data⟩:Cmd Bk).valid=true)(h5:kd=5->n<=255)(hk1:(kd==1)=false)(hk4:(kd==4)=false):
  ep 19 #[.pointer (cw X 0),cmV ⟨tag,kd,ao,af,vol,oth,p,n,data⟩ a k] w (JY m ⟨tag,kd,ao,af,vol,oth,p,n,data⟩ X w):=by
 have hk1':kd≠1:=by simpa using hk1
 have hk4':kd≠4:=by simpa using hk4
 obtain ⟨x0,he⟩:∃x0,fE m.cur.F (⟨tag,kd,ao,af,vol,oth,p,n,data⟩:Cmd Bk)=x0:=⟨_,rfl⟩;have HR:Hid (kW Bk.zero m.cur ⟨tag,kd,ao,af,vol,oth,p,n,data⟩=⟨tag,x0,[]⟩):=hD (by
  unfold kW
  rw[Qf hv,he,Qe (λq=>hk1' q.1)])
 have HPN:Hid (x0≠0->Ap Bk.zero m ⟨tag,kd,ao,af,vol,oth,p,n,data⟩ m):=hD (λh=>by unfold Ap;rw[Qe (λq=>h (he.symm.trans q.2.1))]);have HPY:Hid (x0=0-> ∀s2,Nx Bk.zero m.cur ⟨tag,kd,ao,af,vol,oth,p,n,data⟩ s2-> ∀m':Mo Bk,m'.cur=s2->(m'.past=if af=true then []else m.past++[m.cur])->Ap Bk.zero m ⟨tag,kd,ao,af,vol,oth,p,n,data⟩ m'):=hD (λh s2 hn m' e1 e2=>by
  unfold Ap;rw[Qf ⟨hv,he.trans h,hk1'⟩,Qe hk4',e1]
  exact⟨hn,e2⟩)
 have HAF:=hD (λM b W h hdd=>Tw M b m.cur ⟨tag,kd,ao,af,vol,oth,p,n,data⟩ a k W hs h hv hdd h5 ⟨hk1',hk4'⟩);unfold aCy at HAF;rw[he]at HAF;have HPL:=hD hpl;clear he h5 hs hpl hk1' hk4';obtain⟨M,b,pa,pc,ps,hb3,hst,hpa,hlp,hpp⟩:=hm;have HMX:=hD (hb3.mx (λk c e=>by cases e) (λk c e=>by cases e) (λk c e=>by cases e));have HA:=hD (AY.init w X ⟨tag,kd,ao,af,vol,oth,p,n,data⟩ a k _ _ _ hb3 _ rfl);have HST:=hD hst;have HPA:=hD hpa;have HLP:=hD hlp;have HPP:=hD hpp;have HVA:=hD (λW h=>xM ⟨tag,kd,ao,af,vol,oth,p,n,data⟩ a k W hf h);have HRD:=hD hd;clear hb3 hst hpa hlp hpp hd;unfold cmV;unfold bB at HA;simp only at HA ⊢;go_enter func19,ntmps19;have q0:((w.alloc (cq #[tag,kd,ao,.bool af,nmV vol,nmV oth,p,n,.slice a data k] 48)).alloc (cq #[oo,oo,sn] 44)).cell? (cw w 0)=tag:=by
  rw[Ya _ _ _ sM];simp
 go_upto_region 9 with fail;clear q0;generalize ((w.alloc (cq #[tag,kd,ao,.bool af,nmV vol,nmV oth,p,n,.slice a data k] 48)).alloc (cq #[oo,oo,sn] 44)).alloc (cq #[tag,oo,sn] 44)=W at HA ⊢;obtain⟨⟨c0,c1,c2,c3,c4,c5,c6,c7,c8⟩,⟨r0,r1,r2,h0,h1,h2,-,-⟩,⟨y0,y1,y2,g0,g1,g2,-,-⟩,⟨m0,m1,m2,n0,n1,n2,-,-⟩,-,-⟩:=HA.o;simp only at c0 c1 c2 c3 c4 c5 c6 c7 c8 y0;unfold cmV at HAF;simp only at HAF;rw[hv]at HVA;go_wp2_with fail;refine(HVA.o _ (HRD.o.aJh HMX.o HA.o.g)).m ?_;rintro e w1 ⟨rfl,hb⟩;have HA1:=hD (HA.o.aIx hb);clear hb HVA;clear c0 c1 c2 c3 c4 c5 c6 c7 c8 y0 y1 y2 g0 g1 g2 r0 r1 r2 h0 h1 h2 m0 m1 m2 n0 n1 n2;obtain⟨⟨c0,c1,c2,c3,c4,c5,c6,c7,c8⟩,⟨r0,r1,r2,h0,h1,h2,-,-⟩,⟨y0,y1,y2,g0,g1,g2,-,-⟩,⟨m0,m1,m2,n0,n1,n2,-,-⟩,-,-⟩:=HA1.o;simp only at c0 c1 c2 c3 c4 c5 c6 c7 c8 y0;have HA3:=hD (HA1.o.aIx ((bQ w1).aIw (cq #[.pointer none,.map none] 87)));have HT3:=hD (Bx.new w1 _ rfl (.pointer none) (.map none) 87);have hT6:w.heap.size+1+1<w1.heap.size:=HA1.o.yb.lt;go_upto_region 3 with fail;clear c0 c1 c2 c3 c4 c5 c6 c7 c8 y0 y1 y2 g0 g1 g2 r0 r1 r2 h0 h1 h2 m0 m1 m2 n0 n1 n2;generalize w1.alloc (cq #[.pointer none,.map none] 87)=W3 at *;generalize w1.heap.size=T6 at*
 go_cut [] from 10 to 19 (λwx=>∃W9 M2 b2 s2,W9=wx/\Hid (AY w W9 X ⟨tag,kd,ao,af,vol,oth,p,n,data⟩ a k (.pointer (cw M 0)) (.map (some b)) (.slice pa ps pc) x0 sn)/\Hid (Bx W9 T6 87 (.pointer (cw M2 0)) (.map (some b2)))/\Hid (StM W9 M2 b2 s2)/\Hid (Nx Bk.zero m.cur ⟨tag,kd,ao,af,vol,oth,p,n,data⟩ s2))
 case first=>
  have HD:=hD (HA3.o.aIx bR.drew);have HTD:=hD (HT3.o.aIx bR.drew);have HSD:=hD (HST.o.grown HMX.o HD.o.g);have HRDD:=hD (HRD.o.aJh HMX.o HD.o.g);have y0:=HD.o.yb.c0;simp only at y0
  go_region_held3 (λw'=>w' (cw X 0)=some (.pointer (cw M 0))/\w' (cw X 1)=some (.map (some b))/\w' (cw w 0)=tag/\w' (cw w 1)=kd/\w' (cw w 2)=ao/\w' (cw w 3)=some (.bool af)/\w' (cw w 4)=some (nmV vol)/\w' (cw w 5)=some (nmV oth)/\w' (cw w 6)=p/\w' (cw w 7)=n/\w' (cw w 8)=some (.slice a data k))
   (first
    |with_reducible exact⟨HD.o.mb.c0,HD.o.mb.c1,HD.o.cb.c0,HD.o.cb.c1,HD.o.cb.c2,HD.o.cb.c3,HD.o.cb.c4,HD.o.cb.c5,HD.o.cb.c6,HD.o.cb.c7,HD.o.cb.c8⟩
    |with_reducible exact⟨H2.o.mb.c0,H2.o.mb.c1,H2.o.cb.c0,H2.o.cb.c1,H2.o.cb.c2,H2.o.cb.c3,H2.o.cb.c4,H2.o.cb.c5,H2.o.cb.c6,H2.o.cb.c7,H2.o.cb.c8⟩
    |with_reducible exact⟨H3.o.mb.c0,H3.o.mb.c1,H3.o.cb.c0,H3.o.cb.c1,H3.o.cb.c2,H3.o.cb.c3,H3.o.cb.c4,H3.o.cb.c5,H3.o.cb.c6,H3.o.cb.c7,H3.o.cb.c8⟩
    |with_reducible exact⟨H4.o.mb.c0,H4.o.mb.c1,H4.o.cb.c0,H4.o.cb.c1,H4.o.cb.c2,H4.o.cb.c3,H4.o.cb.c4,H4.o.cb.c5,H4.o.cb.c6,H4.o.cb.c7,H4.o.cb.c8⟩)
   (first
    |(go_at_call 42;(with_reducible refine(HAF.o M b _ HSD.o HRDD.o).m ?_);rintro e w2 ⟨M2,b2,s2,rfl,hnx,hst2,hb⟩;have H2:=hD (HD.o.aIx hb);have HT2:=hD (HTD.o.aIx hb);have HS2:=hD hst2;have HNX:=hD hnx;have HG2:=hD (iE w2 T6 (.pointer (some ⟨M2,0,none⟩)) (.map (some b2)));have H3:=hD (H2.o.row HG2.o hT6);have HT3':=hD (HT2.o.put (.pointer (some ⟨M2,0,none⟩)) (.map (some b2)));have H4:=hD (H3.o.err x0);clear hb hst2 hnx;have z0:=HT2.o.c0;have z1:=HT2.o.c1;have z2:=HT2.o.f0;have z3:=HT2.o.f1;have y1':=H3.o.yb.c1;have g1':=H3.o.yb.f1))
  all_goals
   have HS3:=hD (HS2.o.box HT2.o (λc e=>by cases e) (λc e=>by cases e) HG2.o);have HS4:=hD (HS3.o.aJk (H3.o.od ⟨_,_,_,rfl⟩) (aJ _ (cw (ch w) 1) (.int .i64 x0)));have HT4:=hD (HT3'.o.grown (aJ _ (cw (ch w) 1) (.int .i64 x0)) (λe=>by have:=Qv e;simp only at this;omega));clear z0 z1 z2 z3 y1' g1';go_wp2_with fail;go_meet;exact⟨_,M2,b2,s2,rfl,H4,HT4,HS4,HNX⟩
 case rest=>
  obtain⟨W9,M2,b2,s2,rfl,hA9,hT9,hS9,hN9⟩:=hcut;clear HAF HA1 HA3 HT3;by_cases h0:x0=0
  ·subst h0;obtain⟨⟨c0,c1,c2,c3,c4,c5,c6,c7,c8⟩,⟨r0,r1,r2,h0,h1,h2,-,-⟩,⟨y0,y1,y2,g0,g1,g2,-,-⟩,⟨m0,m1,m2,n0,n1,n2,-,-⟩,-,-⟩:=hA9.o;simp only at c0 c1 c2 c3 c4 c5 c6 c7 c8 y0;go_upto_region 5 with fail;clear c0 c1 c2 c3 c4 c5 c6 c7 c8 y0 y1 y2 g0 g1 g2 r0 r1 r2 h0 h1 h2 m0 m1 m2 n0 n1 n2;obtain⟨i0,hi,hz0,hz1,hz2⟩:=info_parts YD;have HPL2:Hid (ps.length<=10000):=hD (by have:=HPL.o;rw[<-HPP.o,Yy]at this;exact this);have hpl:=HPL2.o;have hfl:(ps.flatMap PS.cells).length=ps.length*2:=kM PS.cells 2 (λ_=>rfl) ps;have HP9:=hD (HPA.o.grown HMX.o hA9.o.g);have HKa:=hD ((bQ W9).aIw (cq #[.pointer (cw M 0),.map (some b)] 87)).drew;have HBd:=hD (bQ W9).drew;have HAd:=hD (hA9.o.aIx HBd.o);have HAa:=hD (hA9.o.aIx HKa.o);have HPd:=hD (HP9.o.keep HBd.o);have HPa:=hD (HP9.o.keep HKa.o);have HNW:=hD (aFb W9 _ rfl ⟨M,b,m.cur⟩ 87);have q0:=HAd.o.mb.c0;have q1:=HAd.o.mb.c1;have q2:=HAd.o.mb.c2;have q0':=HAa.o.mb.c0;have q1':=HAa.o.mb.c1;have q2':=HAa.o.mb.c2
   go_cut [] from 23 to 36 (λwx=>∃W5 v1,W5=wx/\Hid (AY w W5 X ⟨tag,kd,ao,af,vol,oth,p,n,data⟩ a k (.pointer (cw M 0)) (.map (some b)) v1 0 sn)/\Hid (gW W5 W9.heap.size v1 (ps++[⟨M,b,m.cur⟩]))/\Hid (Bx W5 T6 87 (.pointer (cw M2 0)) (.map (some b2)))/\Hid (StM W5 M2 b2 s2))
   case first=>
    go_region_law (first
     |(refine eH _ (by rfl) (.tmp 28) (.tmp 33) 88 (by rfl) W9.heap.size 87 i0 (.agg #[.pointer none,.map none]) 2 16 underlying88 hi hz0 hz1 hz2 rfl dE _ ps.length (ps.flatMap PS.cells) (by rfl) (Qu HO3.o _) ⟨w3.heap.size,0,none⟩ 1 1 (PS.cells ⟨M,b,m.cur⟩) (by rfl) rfl (aFb w3 _ rfl ⟨M,b,m.cur⟩ 87) (PS.one _) oM (by simp only[maxLen];omega) (by have:=HB3.o.size;simp only[World.size_alloc];omega) ?_;intro v1 w4 hown1 hgrow1 hwhere1;have HB4:=hD ((HB3.o.aIw (.cells #[.pointer (some ⟨M,0,none⟩),.map (some b)] 87)).aJa hgrow1 λj hj=>(HO3.o.lt j hj).1);have HO4:=hD (gW.snoc hown1 sM);clear hown1;obtain⟨a1,n1,k1,rfl⟩:=HO4.o.sl;have HX4:=hD (hA9.o.aIx HB4.o);have t2:=HX4.o.mb.c2;have t3:=HX4.o.mb.f2)
     |(refine eH _ (by rfl) (.tmp 28) (.tmp 33) 88 (by rfl) W9.heap.size 87 i0 (.agg #[.pointer none,.map none]) 2 16 underlying88 hi hz0 hz1 hz2 rfl dE _ ps.length (ps.flatMap PS.cells) (by rfl) HO3.o ⟨W9.heap.size,0,none⟩ 1 1 (PS.cells ⟨M,b,m.cur⟩) (by rfl) rfl (λj u hj=>HBa.o.keep (HNW.o j u hj)) (PS.one _) oM (by simp only[maxLen];omega) (by have:=HB3.o.size;omega) ?_;intro v1 w4 hown1 hgrow1 hwhere1;have HB4:=hD (HB3.o.aJa hgrow1 λj hj=>(HO3.o.lt j hj).1);have HO4:=hD (gW.snoc hown1 sM);clear hown1;obtain⟨a1,n1,k1,rfl⟩:=HO4.o.sl;have HX4:=hD (hA9.o.aIx HB4.o);have t2:=HX4.o.mb.c2;have t3:=HX4.o.mb.f2)
     |(go_simp;go_at_call 43;(with_reducible refine(Iw ps pa pc _ HPd.o).m ?_);rintro e w3 ⟨v,rfl,ho,hb⟩;have HO3:Hid (gW w3 W9.heap.size v ps):=hD ho;have HB3:=hD (HBd.o.on hb);clear ho hb;have HX3:=hD (hA9.o.aIx HB3.o);have HX3a:=hD (HX3.o.aIx ((bQ w3).aIw (.cells #[.pointer (some ⟨M,0,none⟩),.map (some b)] 87)));have s0:=HX3.o.mb.c0;have s1:=HX3.o.mb.c1;have s2':=HX3.o.mb.c2;have s0':=HX3a.o.mb.c0;have s1':=HX3a.o.mb.c1)
     |(go_simp;go_at_call 43;(with_reducible refine(Iw ps pa pc _ HPa.o).m ?_);rintro e w3 ⟨v,rfl,ho,hb⟩;have HO3:Hid (gW w3 W9.heap.size v ps):=hD (ho.mono (by have:=HKa.o.size;omega));have HBa:=hD hb;have HB3:=hD (HKa.o.on hb);clear ho hb;have HX3:=hD (hA9.o.aIx HB3.o);have s0:=HX3.o.mb.c0;have s1:=HX3.o.mb.c1;have s2':=HX3.o.mb.c2))
    all_goals
     have HX5:=hD (HX4.o.pm2 (.slice a1 n1 k1));have hx:=hA9.o.x;have hg9:=hA9.o.g.size;have HO5:Hid (gW (w4.setCell (cw X 2) (.slice a1 n1 k1)) W9.heap.size (.slice a1 n1 k1) (ps++[⟨M,b,m.cur⟩])):=hD (World.ownsRow.kept HO4.o (aJ w4 (cw X 2) (.slice a1 n1 k1)) (by
      right
      intro e;have:=(HO4.o.lt X e).1
      omega))
     have HT5:=hD ((hT9.o.aIx HB4.o).grown (aJ w4 (cw X 2) (.slice a1 n1 k1)) (λe=>by have:=Qv e;simp only at this;omega));have HS5:=hD ((hS9.o.aIx HB4.o).grown (HX4.o.mb.mx (λk c e=>by cases e) (λk c e=>by cases e) (λk c e=>by cases e)) (aJ w4 (cw X 2) (.slice a1 n1 k1)));go_wp2_with fail;go_meet;exact⟨_,.slice a1 n1 k1,rfl,HX5,HO5,HT5,HS5⟩
   case rest=>
    obtain⟨W5,v1,rfl,hX5,hO5,hT5,hS5⟩:=hcut;clear HKa HBd HAd HAa HPd HPa HNW q0 q1 q2 q0' q1' q2' hA9 hT9 hS9 HP9;have hlast:(ps++[(⟨M,b,m.cur⟩:PS)]).length<=1000000:=by rw[Qg];simp only[List.length_singleton];omega
    obtain ⟨a1,k1,rfl,hrd1⟩:=hO5.o.rd hlast;have HR1:=hD hrd1;clear hrd1 hO5 hlast;have t6:=hT5.o.c0;have t7:=hT5.o.c1;obtain⟨⟨c0,c1,c2,c3,c4,c5,c6,c7,c8⟩,⟨r0,r1,r2,h0,h1,h2,-,-⟩,⟨y0,y1,y2,g0,g1,g2,-,-⟩,⟨m0,m1,m2,n0,n1,n2,-,-⟩,-,-⟩:=hX5.o;simp only at c0 c1 c2 c3 c4 c5 c6 c7 c8 y0;have HX6:=hD ((hX5.o.pm0 (.pointer (cw M2 0))).pm1 (.map (some b2)));have HMX5:=hD (hX5.o.mb.mx (λk c e=>by cases e) (λk c e=>by cases e) (λk c e=>by cases e));have HG6:=hD (World.grownBy.next (aJ W5 (cw X 0) (.pointer (cw M2 0))) (aJ (W5.setCell (cw X 0) (.pointer (cw M2 0))) (cw X 1) (.map (some b2))));have HS6:=hD (hS5.o.grown HMX5.o HG6.o);have HL6:Hid (LPa _ (ps++[(⟨M,b,m.cur⟩:PS)])):=hD (by
     intro p hp;rcases Qn.1 hp with hp|hp
     ·exact(HLP.o p hp).grown HMX.o HX6.o.g
     ·obtain rfl:=List.mem_singleton.1 hp
      exact HST.o.grown HMX.o HX6.o.g)
    have HR6:=hD (HR1.o.grown HMX5.o HG6.o);have HPP1:Hid ((ps++[(⟨M,b,m.cur⟩:PS)]).map PS.s=m.past++[m.cur]):=hD (by rw[Yz,HPP.o];rfl);clear HG6 hS5 hT5 HR1;cases af
    ·have u0:=HX6.o.yb.c0;have u1:=HX6.o.yb.c1;have u2:=HX6.o.yb.c2;have u3:=HX6.o.rb.c0;have u4:=HX6.o.rb.c1;have u5:=HX6.o.rb.c2;have u6:=HX6.o.rb.f0;have u7:=HX6.o.rb.f1;have u8:=HX6.o.rb.f2;simp only at u0;go_wp2_with fail;clear u0 u1 u2 u3 u4 u5 u6 u7 u8;clear c0 c1 c2 c3 c4 c5 c6 c7 c8 y0 y1 y2 g0 g1 g2 r0 r1 r2 h0 h1 h2 m0 m1 m2 n0 n1 n2;have j0:=(HX6.o.rb.rep tag oo sn).c0;have j1:=(HX6.o.rb.rep tag oo sn).c1;have j2:=(HX6.o.rb.rep tag oo sn).c2;refine br (.agg #[tag,oo,(.slice none 0 0)]) ?_;exact AY.done (m':=⟨s2,m.past++[m.cur]⟩) (D:=[]) HX6.o ⟨M2,b2,a1,k1,ps++[⟨M,b,m.cur⟩],HX6.o.mb,HS6.o,HR6.o,HL6.o,HPP1.o⟩ ⟨sM,.inl rfl⟩ (HPY.o trivial s2 hN9.o _ rfl (Qe dE).symm) HR.o
    ·have HX7:=hD (HX6.o.pm2 sn);have HMX6:=hD (HX6.o.mb.mx (λk c e=>by cases e) (λk c e=>by cases e) (λk c e=>by cases e));have HS7:=hD (HS6.o.grown HMX6.o (aJ _ (cw X 2) sn));have u0:=HX7.o.yb.c0;have u1:=HX7.o.yb.c1;have u2:=HX7.o.yb.c2;have u3:=HX7.o.rb.c0;have u4:=HX7.o.rb.c1;have u5:=HX7.o.rb.c2;have u6:=HX7.o.rb.f0;have u7:=HX7.o.rb.f1;have u8:=HX7.o.rb.f2;simp only at u0;go_wp2_with fail;clear u0 u1 u2 u3 u4 u5 u6 u7 u8;clear c0 c1 c2 c3 c4 c5 c6 c7 c8 y0 y1 y2 g0 g1 g2 r0 r1 r2 h0 h1 h2 m0 m1 m2 n0 n1 n2;have j0:=(HX7.o.rb.rep tag oo sn).c0;have j1:=(HX7.o.rb.rep tag oo sn).c1;have j2:=(HX7.o.rb.rep tag oo sn).c2;refine br (.agg #[tag,oo,(.slice none 0 0)]) ?_;exact AY.done (m':=⟨s2,[]⟩) (D:=[]) HX7.o ⟨M2,b2,none,0,[],HX7.o.mb,HS7.o,oU.nil _ _,λp hp=>by simp at hp,rfl⟩ ⟨sM,.inl rfl⟩ (HPY.o trivial s2 hN9.o _ rfl (Qf trivial).symm) HR.o
  ·have hx2:(x0 != 0)=true:=by simpa using h0
   obtain⟨⟨c0,c1,c2,c3,c4,c5,c6,c7,c8⟩,⟨r0,r1,r2,h0,h1,h2,-,-⟩,⟨y0,y1,y2,g0,g1,g2,-,-⟩,⟨m0,m1,m2,n0,n1,n2,-,-⟩,-,-⟩:=hA9.o;simp only at c0 c1 c2 c3 c4 c5 c6 c7 c8 y0;go_wp2_with fail;clear c0 c1 c2 c3 c4 c5 c6 c7 c8 y0 y1 y2 g0 g1 g2 r0 r1 r2 h0 h1 h2 m0 m1 m2 n0 n1 n2;have j0:=(hA9.o.rb.rep tag (.int .i64 x0) sn).c0;have j1:=(hA9.o.rb.rep tag (.int .i64 x0) sn).c1;have j2:=(hA9.o.rb.rep tag (.int .i64 x0) sn).c2;refine br (.agg #[tag,.int .i64 x0,(.slice none 0 0)]) ?_;exact AY.done (D:=[]) hA9.o (hA9.o.mo HMX.o HST.o HPA.o HLP.o HPP.o) ⟨sM,.inl rfl⟩ (HPN.o h0) HR.o
end
theorem yX(X:Nat)(m:Mo Bk)(c:Cmd Bk)(a:OA)(k:Nat)(w:Wd)(hm:MoB w X m)(hs:m.fine)(hpl:m.past.length<=10000)(hf:tN c)(hd:RdB w a c.data)(h5:c.kd=5->c.n<=255):
  ep 19 #[.pointer (cw X 0),cmV c a k] w (JY m c X w):=by
 obtain⟨tag,kd,ao,af,vol,oth,p,n,data⟩:=c;by_cases hv:(⟨tag,kd,ao,af,vol,oth,p,n,data⟩:Cmd Bk).valid=true
 ·by_cases h1:kd=1
  ·subst h1;exact XP X m tag ao af vol oth p n data a k w hm hs.cur.sound.ok hf hd hv
  ·by_cases h4:kd=4
   ·subst h4;exact XO X m tag ao af vol oth p n data a k w hm hf hd hv
   ·exact XN X m tag kd ao af vol oth p n data a k w hm hs.cur hpl hf hd hv h5 (by simpa using h1) (by simpa using h4)
 ·exact Pj X m tag kd ao af vol oth p n data a k w hm hf hd (by simpa using hv)
def pJ(n:Nat):Mo Bk:=⟨⟨⟨n,[]⟩,λ_=>Bk.zero⟩,[]⟩
theorem oV.new(w:Wd):oV (w.alloc (.map #[] 0)) w λ_=>Bk.zero:=
 ⟨[],World.ownsMap_made w _ _ _,sM,sM,λ_=>rfl⟩
theorem Hl(n:Nat)(w:Wd)(hn:n<=65536)(hG:Gst.g=none):
  ep 23 #[n] w λe w'=>∃X,e= .returned (.tuple #[.pointer (cw X 0),oo])/\w.heap.size<=X/\MoB w' X (pJ n)/\Below w w w':=by
 have hmm:= @run_makeMap prog;go_enter func23,ntmps23;go_wp2_with fail;refine(XF n w hn hG).m ?_;rintro e w1 ⟨M,rfl,hle,hM,hb⟩;have hk:=(bQ w1).aIw (.map #[] 0);have hk2:=hk.aIw (cq #[.pointer (cw M 0),.map (some w1.heap.size),sn] 90);have hk3:=(Below.refl (w1.alloc (.map #[] 0)).heap.size (w1.alloc (.map #[] 0))).aIw (cq #[.pointer (cw M 0),.map (some w1.heap.size),sn] 90);have HM:Hid (MoB ((w1.alloc (.map #[] 0)).alloc (cq #[.pointer (cw M 0),.map (some w1.heap.size),sn] 90)) (cf w1) (pJ n)):=hD
  ⟨M,w1.heap.size,none,0,[],Bx3.new _ _ sM _ _ _ _,⟨hM.aIx hk2,(oV.new w1).aIx hk3⟩,oU.nil _ _,by intro p hp;simp at hp,rfl⟩
 have HB:=hD (hb.on hk2);have hle:=hb.size;clear hM hb hk hk2 hk3;go_wp2_with fail;go_ret2;exact⟨_,rfl,oM,HM.o,HB.o⟩
theorem Pb(X:Nat)(m:Mo Bk)(w:Wd)(hm:MoB w X m):
  ep 24 #[.pointer (cw X 0)] w λe w'=>e= .returned (.int .i64 m.past.length)/\w'=w:=by
 obtain⟨M,b,pa,pc,ps,hb3,hst,hpa,hlp,hpp⟩:=hm;have m2:=hb3.c2;rw[<-hpp,Yy];clear hst hpa hlp hpp hb3;go_enter func24,ntmps24;go_wp2_with fail;go_ret;exact⟨rfl,rfl⟩
theorem RN(X:Nat)(m:Mo Bk)(k:Int)(w:Wd)(hm:MoB w X m)(hk:gJ k):
  ep 15 #[.pointer (cw X 0),k] w λe w'=>e= .returned (.int .i64 (lC m k).2)/\MoB w' X (lC m k).1/\w.grownBy w' (some X):=by
 have HMO:=hD hm;obtain⟨M,b,pa,pc,ps,hb3,hst,hpa,hlp,hpp⟩:=hm;have HMX:=hD (hb3.mx (λk c e=>by cases e) (λk c e=>by cases e) (λk c e=>by cases e));have hpl:ps.length=m.past.length:=by rw[<-hpp,Yy]
 have HB:=hD hb3;have HST:=hD hst;have HPA:=hD hpa;have HLP:=hD hlp;have HPP:=hD hpp;have m0:=hb3.c0;have m1:=hb3.c1;have m2:=hb3.c2;have n0:=hb3.f0;have n1:=hb3.f1;have n2:=hb3.f2;have HPL:=hD hpl;have HK:=hD hk;clear hst hpa hlp hpp hb3 hk;by_cases q:k<0∨(m.past.length:Int)<k
 ·have hc:lC m k=(m,2):=by unfold lC;rw[Qf q]
  rw[hc];clear hc;by_cases q1:k<0
  ·have q2:decide (k<0)=true:=Qo q1;exact aDu
  ·have q2:decide (k<0)=false:=Qp q1;have q3:decide (k>(ps.length:Int))=true:=Qo oM;exact aDu
 ·have q2:decide (k<0)=false:=Qp oM;have q3:decide (k>(ps.length:Int))=false:=Qp oM;obtain⟨j,rfl⟩:=Qr (show 0<=k by omega);have hc:lC m j=(⟨(m.past[j]?).getD m.cur,[]⟩,0):=by unfold lC;rw[Qe q];rfl
  rw[hc];clear hc;by_cases hj:j<ps.length
  ·have q4:decide ((j:Int)<(ps.length:Int))=true:=Qo oM;obtain⟨p,hp⟩:∃p,ps[j]? =some p:=⟨ps[j],Qa hj⟩;obtain⟨g,o,rfl,hat⟩:=HPA.o.at (show 0<ps.length by omega);have hc:=hat j p hp;have p0:=hc.m;have p1:=hc.b;have hpast:(m.past[j]?).getD m.cur=p.s:=by rw[<-HPP.o,Yw,hp];rfl
   rw[hpast];have HSP:=hD (HLP.o p (List.mem_of_getElem? hp));have HA:=hD (((HB.o.put0 (.pointer (cw p.M 0))).put1 (.map (some p.b))).put2 sn);have HG:=hD ((aJ w (cw X 0) (.pointer (cw p.M 0))).next ((aJ (w.setCell (cw X 0) (.pointer (cw p.M 0))) (cw X 1) (.map (some p.b))).next (aJ ((w.setCell (cw X 0) (.pointer (cw p.M 0))).setCell (cw X 1) (.map (some p.b))) (cw X 2) sn)));have HS2:=hD (HSP.o.grown HMX.o HG.o);have e1:=((HB.o.put0 (.pointer (cw p.M 0))).put1 (.map (some p.b))).c2;have e2:=((HB.o.put0 (.pointer (cw p.M 0))).put1 (.map (some p.b))).f2;clear q hpl hat hc hp hpast;go_enter func15,ntmps15;go_wp2_with fail;go_ret;exact⟨rfl,⟨p.M,p.b,none,0,[],HA.o,HS2.o,oU.nil _ _,by intro p hp;simp at hp,rfl⟩,HG.o⟩
  ·have q4:decide ((j:Int)<(ps.length:Int))=false:=Qp oM;have hj2:¬ ps.length<j:=oM
   have hpast:(m.past[j]?).getD m.cur=m.cur:=by rw[List.getElem?_eq_none oM];rfl
   rw[hpast];have HA:=hD (HB.o.put2 sn);have HS2:=hD (HST.o.grown HMX.o (aJ w (cw X 2) sn));clear q hpl hpast;go_enter func15,ntmps15;go_wp2_with fail;go_ret;exact⟨rfl,⟨M,b,none,0,[],HA.o,HS2.o,oU.nil _ _,by intro p hp;simp at hp,rfl⟩,aJ _ _ _⟩
theorem Ul(X:Nat)(m:Mo Bk)(w:Wd)(hm:MoB w X m)(hF:m.cur.F.ok):
  ep 34 #[.pointer (cw X 0)] w λe w'=>∃v,e= .returned v/\Ri w' w v (m.cur.F.vs.map (·.nm))/\Below w w w':=by
 obtain⟨M,b,pa,pc,ps,hb3,hst,hpa,hlp,hpp⟩:=hm;have m0:=hb3.c0;have m1:=hb3.c1;have HST:=hD hst;clear hst hpa hlp hpp hb3;go_enter func34,ntmps34;go_wp2_with fail;refine(Jn M b m.cur w HST.o).m ?_;rintro e w1 ⟨fv,rfl,hf,hb⟩;have HB:=hD hb;have HF1:=hD hf;clear hb hf;go_wp2_with fail;refine(Io m.cur.F fv w1 hF HF1.o).m ?_;rintro e w2 ⟨v,rfl,ho,hb⟩;have HO:=hD (ho.mono HB.o.size);have HB2:=hD (HB.o.on hb);clear ho hb;go_wp2_with fail;go_ret;exact⟨_,rfl,HO.o,HB2.o⟩
theorem Um(X:Nat)(m:Mo Bk)(nm:LU)(w:Wd)(hm:MoB w X m)(hs:m.cur.F.sound)(hn:nm.length<=maxLen)(i:oW)(e0:Int)(hi:dW m.cur.F nm=(i,e0)):
  ep 35 #[.pointer (cw X 0),nmV nm] w (Bn w i e0):=by
 obtain⟨M,b,pa,pc,ps,hb3,hst,hpa,hlp,hpp⟩:=hm;have hR0:=RI.new w w 94 bR;have hk:=(bQ w).aIw (cq #[nmV [],oo,oo,oo,oo] 94);have m0:=hk.keep hb3.c0;have m1:=hk.keep hb3.c1;have HST:=hD (hst.aIx hk);have HR:=hD hR0;have HIN:=hD (λfv W hf=>Ms m.cur.F fv nm W hs.ok hs.short hf hn);rw[hi]at HIN;simp only at HIN;clear hst hpa hlp hpp hb3 hk hR0;obtain⟨i1,i2,i3,i4,i5⟩:=i;unfold Bn at HIN ⊢;unfold aFc at HIN ⊢;simp only at HIN ⊢;go_enter func35,ntmps35;go_wp2_with fail;refine(Jn M b m.cur _ HST.o).m ?_;rintro e w1 ⟨fv,rfl,hf,hb⟩;have HR1:=hD (HR.o.aIx hb);have HF1:=hD hf;clear hb hf HR HST m0 m1;go_wp2_with fail;refine(HIN.o _ _ HF1.o).m ?_;rintro e w2 ⟨rfl,hb⟩;have HI:=hD (HR1.o.aIx hb);clear hb HR1 HF1 HIN;have r0:=HI.o.r0;have r1:=HI.o.r1;have r2:=HI.o.r2;have r3:=HI.o.r3;have r4:=HI.o.r4;have f0:=HI.o.f0;have f1:=HI.o.f1;have f2:=HI.o.f2;have f3:=HI.o.f3;have f4:=HI.o.f4;go_wp2_with fail;have hj:=HI.o.cells ⟨i1,i2,i3,i4,i5⟩;have hbl:=HI.o.below ⟨i1,i2,i3,i4,i5⟩;show bodyPost _ _ _ _ _ (pK w2 w ⟨i1,i2,i3,i4,i5⟩);clear r0 r1 r2 r3 r4 f0 f1 f2 f3 f4;generalize pK w2 w ⟨i1,i2,i3,i4,i5⟩=W at hj hbl ⊢;obtain⟨j0,j1,j2,j3,j4⟩:=hj;simp only at j0 j1 j2 j3 j4;refine br (.tuple #[.agg #[nmV i1,i2,i3,i4,i5],e0]) ?_;exact⟨rfl,hbl⟩
def Rh(x:Bk)(e0:Int)(w:Wd)(e:Ending)(w':Wd):Prop:=e= .returned (.tuple #[x.v,e0])/\Below w w w'
theorem BI(X:Nat)(m:Mo Bk)(nm:LU)(p:Int)(w:Wd)(hm:MoB w X m)(hF:m.cur.F.ok)(hn:nm.length<=maxLen)(hp:gJ p)(x:Bk)(hx:vF Bk.zero m.cur nm p=x)(e0:Int)(he:(aX m.cur.F nm p).2.2=e0):
  ep 20 #[.pointer (cw X 0),nmV nm,p] w (Rh x e0 w):=by
 obtain⟨M,b,pa,pc,ps,hb3,hst,hpa,hlp,hpp⟩:=hm;have hk:=(bQ w).aIw (.cells (iW Bk.zero) 56);have m0:=hk.keep hb3.c0;have m1:=hk.keep hb3.c1;have HST:=hD (hst.aIx hk);have HR:=hD (RB8.new w w Bk.zero 56 bR);have HBL:=hD (λW h=>Hr M b m.cur nm p W hF h hn hp x hx);rw[he]at HBL;generalize (aX m.cur.F nm p).2.1=b0 at HBL;clear hst hpa hlp hpp hb3 hk hx he;obtain⟨y0,y1,y2,y3,y4,y5,y6,y7⟩:=x;unfold Rh;unfold aHu at HBL;unfold Bk.v at HBL ⊢;simp only at HBL ⊢;go_enter func20,ntmps20;go_upto_region 1 with fail;obtain⟨W0,hW0⟩:∃W0,w.alloc (.cells (iW Bk.zero) 56)=W0:=⟨_,rfl⟩;rw[hW0]at HR HST m0 m1;have hW1:w.alloc (cq #[.int .u8 0,.int .u8 0,.int .u8 0,.int .u8 0,.int .u8 0,.int .u8 0,.int .u8 0,.int .u8 0] 56)=W0:=hW0
 try rw[hW1]
 clear hW0 hW1;go_wp2_with fail;refine(HBL.o _ HST.o).m ?_;rintro e w1 ⟨rfl,hb⟩;have HR1:=hD ((HR.o.aIx hb).aIx ((bQ w1).aIw (.cells (iW ⟨y0,y1,y2,y3,y4,y5,y6,y7⟩) 56)));have HN1:=hD (RB8.new w1 w1 ⟨y0,y1,y2,y3,y4,y5,y6,y7⟩ 56 bR);clear hb HR HST m0 m1 HBL;go_upto_region 4 with fail;generalize w1.alloc (cq #[.int .u8 y0,.int .u8 y1,.int .u8 y2,.int .u8 y3,.int .u8 y4,.int .u8 y5,.int .u8 y6,.int .u8 y7] 56)=W2 at HR1 HN1 ⊢;obtain⟨g0,g1,g2,g3,g4,g5,g6,g7⟩:=HR1.o.at';simp only[Nat.zero_mul,Nat.zero_add]at g0 g1 g2 g3 g4 g5 g6 g7;have gf:=HR1.o.f;obtain⟨h0,h1,h2,h3,h4,h5,h6,h7⟩:=HN1.o.at';simp only[Nat.zero_mul,Nat.zero_add]at h0 h1 h2 h3 h4 h5 h6 h7;go_wp2_with fail;have HP:=hD (HR1.o.put ⟨y0,y1,y2,y3,y4,y5,y6,y7⟩);show bodyPost _ _ _ _ _ (yQ W2 w ⟨y0,y1,y2,y3,y4,y5,y6,y7⟩);clear g0 g1 g2 g3 g4 g5 g6 g7 gf;clear h0 h1 h2 h3 h4 h5 h6 h7;generalize yQ W2 w ⟨y0,y1,y2,y3,y4,y5,y6,y7⟩=w3 at *;obtain⟨g0,g1,g2,g3,g4,g5,g6,g7⟩:=HP.o.at';simp only[Nat.zero_mul,Nat.zero_add]at g0 g1 g2 g3 g4 g5 g6 g7;have gf:=HP.o.f;refine br (.tuple #[.agg #[.int .u8 y0,.int .u8 y1,.int .u8 y2,.int .u8 y3,.int .u8 y4,.int .u8 y5,.int .u8 y6,.int .u8 y7],e0]) ?_;exact⟨rfl,HP.o.g⟩
end Go.Proofs.YtphfgbbbejloaaaGreatDoor
