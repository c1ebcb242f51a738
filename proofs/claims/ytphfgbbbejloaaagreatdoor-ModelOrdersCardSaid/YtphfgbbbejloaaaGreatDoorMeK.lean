/- package command: Valid as a whole; the model in Apply's midst. Conditions: as each theorem says. -/
import Derived.Test.YtphfgbbbejloaaaGreatDoorMeE
import Derived.Test.YtphfgbbbejloaaaGreatDoorMeF
set_option linter.unusedSimpArgs false
set_option linter.unusedVariables false
set_option maxRecDepth 100000
set_option maxHeartbeats 16000000
namespace Go.Proofs.YtphfgbbbejloaaaGreatDoor
open Go.RowKit Go.Maps
open Go.Proofs.Tryz
theorem aDv{P:Prop}(h:P:=by rw[HQ.o];first|(simp[hoe,HDE.o,HDL.o, *];done)|(simp[hoe,HDE.o,HDL.o, *];omega)):P:=h
theorem aDw{P:Prop}(h:P:=by
  go_enter func37,ntmps37;go_wp2;go_ret;exact⟨rfl,bL⟩
  ):P:=h
theorem VR{P:Prop}(h:P:=by
  unfold Cmd.aJj;dsimp only;rw[Qe oM,Qe oM,Qe oM,Qe oM,Qe oM,Qe oM,Qe oM]
  ):P:=h
theorem xM(c:Cmd Bk)(a:OA)(k:Nat)(w:Wd)(hf:tN c)(hd:RdB w a c.data):ep 40 #[cmV c a k] w (RB w (.bool c.valid)):=by
 by_cases hh:vE c.tag c.ao
 ·rw [DU hh];obtain⟨tag,kd,ao,af,vol,oth,p,n,data⟩:=c;simp only at hh hd;by_cases hk:1<=kd/\kd<=7
  ·exact Zp tag kd ao af vol oth p n data a k w hh hf hd hk _ rfl
  ·have:Cmd.aJj (⟨tag,kd,ao,af,vol,oth,p,n,data⟩:Cmd Bk)=false:=by
    exact VR
   rw[this];exact Zo tag kd ao af vol oth p n data a k w hh hf hk
 ·rw[Gp hh];exact QA c.tag c.kd c.ao c.af c.vol c.oth c.p c.n c.data.length a k w hh
theorem WK:3≠44:=dE
theorem WJ:157≠44:=dE
theorem WI:87≠44:=dE
structure AY(w W:Wd)(X:Nat)(c:Cmd Bk)(a:OA)(k:Nat)(m0 m1 m2:Value)(er:Int)(dv:Value):Prop where
 cb:CB W w c a k
 rb:Bx3 W (cf w) 44 oo oo sn
 yb:Bx3 W (ch w) 44 c.tag er dv
 mb:Bx3 W X 90 m0 m1 m2
 x:X<w.heap.size
 g:w.grownBy W (some X)
section
variable{w W W':Wd}{X:Nat}{c:Cmd Bk}{a:OA}{k:Nat}{m0 m1 m2:Value}{er:Int}{dv:Value}
theorem AY.aIx(h:AY w W X c a k m0 m1 m2 er dv)(hb:Below W W W'):AY w W' X c a k m0 m1 m2 er dv:=
 ⟨h.cb.aIx hb,h.rb.aIx hb,h.yb.aIx hb,h.mb.aIx hb,h.x,World.grownBy.next h.g (dD hb _)⟩
theorem AY.init(w:Wd)(X:Nat)(c:Cmd Bk)(a:OA)(k:Nat)(m0 m1 m2:Value)(h:Bx3 w X 90 m0 m1 m2)(W:Wd)(hW:W=((w.alloc (.cells (bB c a k) 48)).alloc (cq #[oo,oo,sn] 44)).alloc (cq #[c.tag,oo,sn] 44)):AY w W X c a k m0 m1 m2 0 sn:=by
 subst hW;have h1:=(bQ w).aIw (.cells (bB c a k) 48);have h2:=(Below.refl (w.alloc (.cells (bB c a k) 48)).heap.size (w.alloc (.cells (bB c a k) 48))).aIw (cq #[oo,oo,sn] 44);have h3:=(Below.refl ((w.alloc (.cells (bB c a k) 48)).alloc (cq #[oo,oo,sn] 44)).heap.size ((w.alloc (.cells (bB c a k) 48)).alloc (cq #[oo,oo,sn] 44))).aIw (cq #[c.tag,oo,sn] 44);have hb:=(h1.on h2).on h3;exact⟨((CB.new w _ rfl c a k _).aIx h2).aIx h3,(Bx3.new _ _ sM _ _ _ _).aIx h3,Bx3.new _ _ sM _ _ _ _,h.aIx hb,h.lt,dD hb _⟩
theorem AY.od(h:AY w W X c a k m0 m1 m2 er dv)(hd:∃a n c,dv= .slice a n c):Od3 W (w.heap.size+1+1):=by
 obtain⟨_,_,_,rfl⟩:=hd;exact h.yb.od3 WK WJ WI (λk c e=>by cases e)
theorem AY.odR(h:AY w W X c a k m0 m1 m2 er dv):Od3 W (w.heap.size+1):=h.rb.od3 WK WJ WI (λk c e=>by cases e)
theorem AY.err(h:AY w W X c a k m0 m1 m2 er dv)(y:Int):AY w (W.setCell (cw (ch w) 1) y) X c a k m0 m1 m2 y dv:=by
 have hg:=aJ W (cw (ch w) 1) y;have hx:=h.x;exact⟨h.cb.grown hg (by show w.heap.size≠w.heap.size+1+1;omega),h.rb.grown hg (λe=>by have:=Qv e;simp only at this;omega),h.yb.put1 _,h.mb.grown hg (λe=>by injection e with e;simp only at e;omega),h.x,qC h.g hg sO⟩
theorem AY.dat(h:AY w W X c a k m0 m1 m2 er dv)(y:Value):AY w (W.setCell (cw (ch w) 2) y) X c a k m0 m1 m2 er y:=by
 have hg:=aJ W (cw (ch w) 2) y;have hx:=h.x;exact⟨h.cb.grown hg (by show w.heap.size≠w.heap.size+1+1;omega),h.rb.grown hg (λe=>by have:=Qv e;simp only at this;omega),h.yb.put2 _,h.mb.grown hg (λe=>by injection e with e;simp only at e;omega),h.x,qC h.g hg sO⟩
theorem AY.pm0(h:AY w W X c a k m0 m1 m2 er dv)(y:Value):AY w (W.setCell (cw X 0) y) X c a k y m1 m2 er dv:=by
 have hg:=aJ W (cw X 0) y;have hx:=h.x;exact⟨h.cb.grown hg sO,h.rb.grown hg (λe=>by injection e with e;simp only at e;omega),h.yb.grown hg (λe=>by injection e with e;simp only at e;omega),h.mb.put0 _,h.x,World.grownBy.next h.g hg⟩
theorem AY.pm1(h:AY w W X c a k m0 m1 m2 er dv)(y:Value):AY w (W.setCell (cw X 1) y) X c a k m0 y m2 er dv:=by
 have hg:=aJ W (cw X 1) y;have hx:=h.x;exact⟨h.cb.grown hg sO,h.rb.grown hg (λe=>by injection e with e;simp only at e;omega),h.yb.grown hg (λe=>by injection e with e;simp only at e;omega),h.mb.put1 _,h.x,World.grownBy.next h.g hg⟩
theorem AY.pm2(h:AY w W X c a k m0 m1 m2 er dv)(y:Value):AY w (W.setCell (cw X 2) y) X c a k m0 m1 y er dv:=by
 have hg:=aJ W (cw X 2) y;have hx:=h.x;exact⟨h.cb.grown hg sO,h.rb.grown hg (λe=>by injection e with e;simp only at e;omega),h.yb.grown hg (λe=>by injection e with e;simp only at e;omega),h.mb.put2 _,h.x,World.grownBy.next h.g hg⟩
end
abbrev xX(W:Wd)(R:Nat)(u v x:Value):Wd:=((W.setCell (cw R 0) u).setCell (cw R 1) v).setCell (cw R 2) x
theorem dY(W:Wd)(R:Nat)(u v x:Value):W.grownBy (xX W R u v x) (some R):=
 World.grownBy.next (World.grownBy.next (aJ W (cw R 0) u) (aJ _ (cw R 1) v)) (aJ _ (cw R 2) x)
theorem Bx3.rep{W:Wd}{R:Nat}{t:TypeId}{u v x:Value}(h:Bx3 W R t u v x)(u' v' x':Value):Bx3 (xX W R u' v' x') R t u' v' x':=((h.put0 u').put1 v').put2 x'
def JY(m:Mo Bk)(c:Cmd Bk)(X:Nat)(w:Wd)(e:Ending)(w':Wd):Prop:=
 ∃a2 k2 m',e= .returned (.agg #[.int .i64 (kW Bk.zero m.cur c).tag,.int .i64 (kW Bk.zero m.cur c).err,.slice a2 (kW Bk.zero m.cur c).data.length k2])/\Ap Bk.zero m c m'/\MoB w' X m'/\RdB w' a2 (kW Bk.zero m.cur c).data/\w.grownBy w' (some X)
theorem AY.done{w W:Wd}{X:Nat}{c:Cmd Bk}{a:OA}{k:Nat}{m0 m1 m2:Value}{er:Int}{m m':Mo Bk}{a2:OA}{k2:Nat}{D:List Bk}(h:AY w W X c a k m0 m1 m2 er (.slice a2 D k2))(hm:MoB W X m')(hd:RdB W a2 D)(ha:Ap Bk.zero m c m')(hr:kW Bk.zero m.cur c=⟨c.tag,er,D⟩):
  JY m c X w (.returned (.agg #[c.tag,er,.slice a2 D k2])) (xX W (cf w) c.tag er (.slice a2 D k2)):=by
 have hg:=dY W (cf w) c.tag er (.slice a2 D k2);have hx:=h.x;unfold JY;rw[hr];refine⟨a2,k2,m',rfl,ha,?_,hd.aJk h.odR hg,qC h.g hg oM⟩;obtain⟨M,b,a,c,ps,h1,h2,h3,h4,h5⟩:=hm;exact⟨M,b,a,c,ps,h1.grown hg (λe=>by injection e with e;omega),h2.aJk h.odR hg,h3.aJk h.odR hg,h4.aJk h.odR hg,h5⟩
theorem Od(tag kd ao:Int)(af:Bool)(vol oth:LU)(p n:Int)(m:Nat)(a:OA)(k:Nat)(w:Wd)(h:¬ vE tag ao):
  ep 37 #[.agg #[tag,kd,ao,.bool af,nmV vol,nmV oth,p,n,.slice a m k]] w (RB w false):=by
 have hc:tag<0∨(0<=tag/\2147483648<=tag)∨(0<=tag/\tag<=2147483647/\ ¬ao=0/\ ¬ao=1):=by unfold vE at h;omega
 clear h;rcases hc with h1|⟨h1,h2⟩|⟨h1,h2,h3,h4⟩
 ·exact aDw
 ·exact aDw
 ·have h5:(ao != 0)=true:=by simpa using h3
  have h6:(ao != 1)=true:=by simpa using h4
  exact aDw
theorem Wh(tag kd ao:Int)(af:Bool)(vol oth:LU)(p n:Int)(data:List Bk)(a:OA)(k:Nat)(w:Wd)(h:vE tag ao)(hf:tN ⟨tag,kd,ao,af,vol,oth,p,n,data⟩)(hk:1<=kd/\kd<=7)(q:Bool)(hq:Cmd.aJj (⟨tag,kd,ao,af,vol,oth,p,n,data⟩:Cmd Bk)=q):
  ep 37 #[.agg #[tag,kd,ao,.bool af,nmV vol,nmV oth,p,n,.slice a data k]] w (RB w (.bool q)):=by
 have hNM:=hD (λW=>yR vol W hf.vol);have hNO:=hD (λW=>yR oth W hf.oth);have HIN:=hD (λW=>Oc p n W hf.p hf.n);obtain⟨h1,h2,h3⟩:=h;obtain⟨nb,hnb⟩:∃b,bC vol=b:=⟨_,rfl⟩;obtain⟨ob,hob⟩:∃b,bC oth=b:=⟨_,rfl⟩;obtain⟨ib,hib⟩:∃b,lK p n=b:=⟨_,rfl⟩;rw[hnb]at hNM;rw[hob]at hNO;rw[hib]at HIN;have h2':¬ (2147483648:Int)<=tag:=oM
 have h1':¬ tag<0:=oM
 have hl1:(ByteArray.mk vol.toArray).toList=vol:=by rw[Yx]
 have hl2:(ByteArray.mk oth.toArray).toList=oth:=by rw[Yx]
 have hl3:(ByteArray.mk #[]).toList=[]:=by rw[Yx]
 obtain⟨m,hm⟩:∃m,data.length=m:=⟨_,rfl⟩;have HDE:Hid (data.isEmpty=decide (m=0)):=hD (by rw[<-hm];cases data <;> simp);have HDL:Hid (data.length=m):=hD hm;rw[hm];have HC0:=hD (CB.new w _ rfl ⟨tag,kd,ao,af,vol,oth,p,n,data⟩ a k 48);have HB0:=hD ((bQ w).aIw (cq #[tag,kd,ao,.bool af,nmV vol,nmV oth,p,n,.slice a m k] 48));unfold bB at HC0;simp only[hm]at HC0;have HQ0:=hD hq;have HNB:=hD hnb;have HOB:=hD hob;have HIB:=hD hib;have HK:Hid (kd=1∨kd=2∨kd=3∨kd=4∨kd=5∨kd=6∨kd=7):=hD oM;clear hf hnb hob hib h1 h2 hq hm hk;rcases h3 with rfl|rfl
 all_goals cases hoe:oth.isEmpty <;> by_cases hm:m=0
 all_goals
  try subst hm
  go_enter func37,ntmps37;go_wp2_with fail;refine(hNM.o _).m ?_;rintro e w1 ⟨rfl,hb⟩;have HC:=hD (HC0.o.aIx hb);have HB1:=hD (HB0.o.on hb);clear hb hNM HC0 HB0;obtain⟨-,c1,-,c3,c4,c5,c6,c7,c8⟩:=HC.o;simp only[HDL.o]at c1 c3 c4 c5 c6 c7 c8;rcases HK.o with rfl|rfl|rfl|rfl|rfl|rfl|rfl
  all_goals
   as_aux_lemma=>
   have hq:=HQ0.o
   first|rw[Px rfl]at hq|rw[XX rfl]at hq|rw[XW rfl]at hq|rw[XV rfl]at hq|rw[XU rfl]at hq|rw[XT rfl]at hq|rw[XR rfl]at hq
   simp only[HNB.o,HOB.o,HIB.o]at hq;have HQ:=hD hq.symm;clear hq HQ0;cases nb <;> cases af
   all_goals
    go_wp2_with fail
    all_goals first
    |(go_ret;exact⟨aU aDv,by first|exact HB2.o|exact HB1.o⟩)
    |(refine(HIN.o _).m ?_;rintro e w4 ⟨rfl,rfl⟩;cases ib <;> (go_wp2_with fail;all_goals (go_ret;exact⟨aU aDv,by first|exact HB2.o|exact HB1.o⟩)))
    |(refine(hNO.o _).m ?_;rintro e w4 ⟨rfl,hb⟩;have HC2:=hD (HC.o.aIx hb);have HB2:=hD (HB1.o.on hb);clear hb c1 c3 c4 c5 c6 c7 c8;obtain⟨-,c1,-,c3,c4,c5,c6,c7,c8⟩:=HC2.o;simp only[HDL.o]at c1 c3 c4 c5 c6 c7 c8;cases ob <;> (go_wp2_with fail;all_goals (go_ret;exact⟨aU aDv,by first|exact HB2.o|exact HB1.o⟩)))
theorem We(tag kd ao:Int)(af:Bool)(vol oth:LU)(p n:Int)(m:Nat)(a:OA)(k:Nat)(w:Wd)(h:vE tag ao)(hv:vol.length<=maxLen)(hk:¬ (1<=kd/\kd<=7)):
  ep 37 #[.agg #[tag,kd,ao,.bool af,nmV vol,nmV oth,p,n,.slice a m k]] w (RB w false):=by
 have hNM:=hD (λW=>yR vol W hv);obtain⟨h1,h2,h3⟩:=h;generalize bC vol=nb at hNM;have h2':¬ (2147483648:Int)<=tag:=oM
 have h1':¬ tag<0:=oM
 have hl2:(ByteArray.mk oth.toArray).toList=oth:=by rw[Yx]
 have hl3:(ByteArray.mk #[]).toList=[]:=by rw[Yx]
 have k1:¬ kd=1:=oM
 have k2:¬ kd=2:=oM
 have k3:¬ kd=3:=oM
 have k4:¬ kd=4:=oM
 have k5:¬ kd=5:=oM
 have k6:¬ kd=6:=oM
 have k7:¬ kd=7:=oM
 have HC:Hid ((w.alloc (cq #[tag,kd,ao,.bool af,nmV vol,nmV oth,p,n,.slice a m k] 48)).cell? (cw w 1)=kd/\(w.alloc (cq #[tag,kd,ao,.bool af,nmV vol,nmV oth,p,n,.slice a m k] 48)).cell? (cw w 5)=some (nmV oth)/\(w.alloc (cq #[tag,kd,ao,.bool af,nmV vol,nmV oth,p,n,.slice a m k] 48)).cell? (cw w 8)=some (.slice a m k)):=hD ⟨sM,sM,sM⟩;have HB:=hD ((bQ w).aIw (cq #[tag,kd,ao,.bool af,nmV vol,nmV oth,p,n,.slice a m k] 48));clear h1 h2 hk;rcases h3 with rfl|rfl
 all_goals
  cases hoe:oth.isEmpty
  all_goals
   go_enter func37,ntmps37;go_wp2_with fail;refine(hNM.o _).m ?_;rintro e w1 ⟨rfl,hb⟩;have HB1:=hD (HB.o.on hb);have c1:=hb.keep HC.o.1;have c5:=hb.keep HC.o.2.1;have c8:=hb.keep HC.o.2.2;clear hb;go_wp2_with fail;go_ret;exact⟨rfl,HB1.o⟩
theorem Cw(c:Cmd Bk)(a:OA)(k:Nat)(w:Wd)(hf:tN c):ep 37 #[cmV c a k] w (RB w (.bool c.valid)):=by
 by_cases hh:vE c.tag c.ao
 ·rw [DU hh];obtain⟨tag,kd,ao,af,vol,oth,p,n,data⟩:=c;simp only at hh;by_cases hk:1<=kd/\kd<=7
  ·exact Wh tag kd ao af vol oth p n data a k w hh hf hk _ rfl
  ·have:Cmd.aJj (⟨tag,kd,ao,af,vol,oth,p,n,data⟩:Cmd Bk)=false:=by
    exact VR
   rw[this];exact We tag kd ao af vol oth p n data.length a k w hh hf.vol hk
 ·rw[Gp hh];exact Od c.tag c.kd c.ao c.af c.vol c.oth c.p c.n c.data.length a k w hh
end Go.Proofs.YtphfgbbbejloaaaGreatDoor
