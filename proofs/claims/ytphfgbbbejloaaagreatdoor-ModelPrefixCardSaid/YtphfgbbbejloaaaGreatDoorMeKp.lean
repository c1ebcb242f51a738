/- package command: Valid as a whole; the model in Apply's midst. Conditions: as each theorem says. -/
import Derived.Test.YtphfgbbbejloaaaGreatDoorMeEp
import Derived.Test.YtphfgbbbejloaaaGreatDoorMeFp
set_option linter.unusedSimpArgs false
set_option linter.unusedVariables false
set_option linter.unusedSectionVars false
set_option maxRecDepth 100000
set_option maxHeartbeats 16000000
namespace Go.Proofs.YtphfgbbbejloaaaGreatDoor
open Go.RowKit Go.Maps
open Go.Proofs.Tryz
variable[Gst]
theorem aDv{P:Prop}(h:P:=by rw[HQ.o];first|(simp[hoe,HDE.o,HDL.o, *];done)|(simp[hoe,HDE.o,HDL.o, *];omega)):P:=h
theorem aDw{P:Prop}(h:P:=by
  go_enter func37,ntmps37;go_wp2;go_ret;exact⟨rfl,bL⟩
  ):P:=h
theorem VR{P:Prop}(h:P:=by
  unfold Cmd.aJj;dsimp only;rw[Qe oM,Qe oM,Qe oM,Qe oM,Qe oM,Qe oM,Qe oM]
  ):P:=h
theorem xM(c:Cmd Bk)(a:OA)(k:Nat)(w:Wd)(hf:tN c)(hd:RdB w a c.data):ep 40 #[cmV c a k] w (RB w (.bool c.valid)):=by
 by_cases hh:vE c.tag c.ao
 ·rw [DU hh];obtain⟨tag,kd,ao,af,vol,oth,p,n,data⟩:=c;simp only at hh hd;by_cases hk:1<=kd/\kd<=7
  ·exact Zp tag kd ao af vol oth p n data a k w hh hf hd hk _ rfl
  ·have:Cmd.aJj (⟨tag,kd,ao,af,vol,oth,p,n,data⟩:Cmd Bk)=false:=by
    exact VR
   rw[this];exact Zo tag kd ao af vol oth p n data a k w hh hf hk
 ·rw[Gp hh];exact QA c.tag c.kd c.ao c.af c.vol c.oth c.p c.n c.data.length a k w hh
theorem WK:3≠44:=dE
theorem WJ:157≠44:=dE
theorem WI:87≠44:=dE
structure AY(w W:Wd)(X:Nat)(c:Cmd Bk)(a:OA)(k:Nat)(m0 m1 m2:Value)(er:Int)(dv:Value):Prop where
 cb:CB W w c a k
 rb:Bx3 W (cf w) 44 oo oo sn
 yb:Bx3 W (ch w) 44 c.tag er dv
 mb:Bx3 W X 90 m0 m1 m2
 x:X<w.heap.size
 g:w.grownBy W (some X)
section
variable{w W W':Wd}{X:Nat}{c:Cmd Bk}{a:OA}{k:Nat}{m0 m1 m2:Value}{er:Int}{dv:Value}
theorem AY.aIx(h:AY w W X c a k m0 m1 m2 er dv)(hb:Below W W W'):AY w W' X c a k m0 m1 m2 er dv:=
 ⟨h.cb.aIx hb,h.rb.aIx hb,h.yb.aIx hb,h.mb.aIx hb,h.x,World.grownBy.next h.g (dD hb _)⟩
theorem AY.init(w:Wd)(X:Nat)(c:Cmd Bk)(a:OA)(k:Nat)(m0 m1 m2:Value)(h:Bx3 w X 90 m0 m1 m2)(W:Wd)(hW:W=((w.alloc (.cells (bB c a k) 48)).alloc (cq #[oo,oo,sn] 44)).alloc (cq #[c.tag,oo,sn] 44)):AY w W X c a k m0 m1 m2 0 sn:=by
 subst hW;have h1:=(bQ w).aIw (.cells (bB c a k) 48);have h2:=(Below.refl (w.alloc (.cells (bB c a k) 48)).heap.size (w.alloc (.cells (bB c a k) 48))).aIw (cq #[oo,oo,sn] 44);have h3:=(Below.refl ((w.alloc (.cells (bB c a k) 48)).alloc (cq #[oo,oo,sn] 44)).heap.size ((w.alloc (.cells (bB c a k) 48)).alloc (cq #[oo,oo,sn] 44))).aIw (cq #[c.tag,oo,sn] 44);have hb:=(h1.on h2).on h3;exact⟨((CB.new w _ rfl c a k _).aIx h2).aIx h3,(Bx3.new _ _ sM _ _ _ _).aIx h3,Bx3.new _ _ sM _ _ _ _,h.aIx hb,h.lt,dD hb _⟩
theorem AY.od(h:AY w W X c a k m0 m1 m2 er dv)(hd:∃a n c,dv= .slice a n c):Od3 W (w.heap.size+1+1):=by
 obtain⟨_,_,_,rfl⟩:=hd;exact h.yb.od3 WK WJ WI (λk c e=>by cases e)
theorem AY.odR(h:AY w W X c a k m0 m1 m2 er dv):Od3 W (w.heap.size+1):=h.rb.od3 WK WJ WI (λk c e=>by cases e)
theorem AY.err(h:AY w W X c a k m0 m1 m2 er dv)(y:Int):AY w (W.setCell (cw (ch w) 1) y) X c a k m0 m1 m2 y dv:=by
 have hg:=aJ W (cw (ch w) 1) y;have hx:=h.x;exact⟨h.cb.grown hg (by show w.heap.size≠w.heap.size+1+1;omega),h.rb.grown hg (λe=>by have:=Qv e;simp only at this;omega),h.yb.put1 _,h.mb.grown hg (λe=>by injection e with e;simp only at e;omega),h.x,qC h.g hg sO⟩
theorem AY.dat(h:AY w W X c a k m0 m1 m2 er dv)(y:Value):AY w (W.setCell (cw (ch w) 2) y) X c a k m0 m1 m2 er y:=by
 have hg:=aJ W (cw (ch w) 2) y;have hx:=h.x;exact⟨h.cb.grown hg (by show w.heap.size≠w.heap.size+1+1;omega),h.rb.grown hg (λe=>by have:=Qv e;simp only at this;omega),h.yb.put2 _,h.mb.grown hg (λe=>by injection e with e;simp only at e;omega),h.x,qC h.g hg sO⟩
theorem AY.pm0(h:AY w W X c a k m0 m1 m2 er dv)(y:Value):AY w (W.setCell (cw X 0) y) X c a k y m1 m2 er dv:=by
 have hg:=aJ W (cw X 0) y;have hx:=h.x;exact⟨h.cb.grown hg sO,h.rb.grown hg (λe=>by injection e with e;simp only at e;omega),h.yb.grown hg (λe=>by injection e with e;simp only at e;omega),h.mb.put0 _,h.x,World.grownBy.next h.g hg⟩
theorem AY.pm1(h:AY w W X c a k m0 m1 m2 er dv)(y:Value):AY w (W.setCell (cw X 1) y) X c a k m0 y m2 er dv:=by
 have hg:=aJ W (cw X 1) y;have hx:=h.x;exact⟨h.cb.grown hg sO,h.rb.grown hg (λe=>by injection e with e;simp only at e;omega),h.yb.grown hg (λe=>by injection e with e;simp only at e;omega),h.mb.put1 _,h.x,World.grownBy.next h.g hg⟩
theorem AY.pm2(h:AY w W X c a k m0 m1 m2 er dv)(y:Value):AY w (W.setCell (cw X 2) y) X c a k m0 m1 y er dv:=by
 have hg:=aJ W (cw X 2) y;have hx:=h.x;exact⟨h.cb.grown hg sO,h.rb.grown hg (λe=>by injection e with e;simp only at e;omega),h.yb.grown hg (λe=>by injection e with e;simp only at e;omega),h.mb.put2 _,h.x,World.grownBy.next h.g hg⟩
end
abbrev xX(W:Wd)(R:Nat)(u v x:Value):Wd:=((W.setCell (cw R 0) u).setCell (cw R 1) v).setCell (cw R 2) x
theorem dY(W:Wd)(R:Nat)(u v x:Value):W.grownBy (xX W R u v x) (some R):=
 World.grownBy.next (World.grownBy.next (aJ W (cw R 0) u) (aJ _ (cw R 1) v)) (aJ _ (cw R 2) x)
theorem Bx3.rep{W:Wd}{R:Nat}{t:TypeId}{u v x:Value}(h:Bx3 W R t u v x)(u' v' x':Value):Bx3 (xX W R u' v' x') R t u' v' x':=((h.put0 u').put1 v').put2 x'
def JY(m:Mo Bk)(c:Cmd Bk)(X:Nat)(w:Wd)(e:Ending)(w':Wd):Prop:=
 ∃a2 k2 m',e= .returned (.agg #[.int .i64 (kW Bk.zero m.cur c).tag,.int .i64 (kW Bk.zero m.cur c).err,.slice a2 (kW Bk.zero m.cur c).data.length k2])/\Ap Bk.zero m c m'/\MoB w' X m'/\RdB w' a2 (kW Bk.zero m.cur c).data/\w.grownBy w' (some X)
theorem AY.done{w W:Wd}{X:Nat}{c:Cmd Bk}{a:OA}{k:Nat}{m0 m1 m2:Value}{er:Int}{m m':Mo Bk}{a2:OA}{k2:Nat}{D:List Bk}(h:AY w W X c a k m0 m1 m2 er (.slice a2 D k2))(hm:MoB W X m')(hd:RdB W a2 D)(ha:Ap Bk.zero m c m')(hr:kW Bk.zero m.cur c=⟨c.tag,er,D⟩):
  JY m c X w (.returned (.agg #[c.tag,er,.slice a2 D k2])) (xX W (cf w) c.tag er (.slice a2 D k2)):=by
 have hg:=dY W (cf w) c.tag er (.slice a2 D k2);have hx:=h.x;unfold JY;rw[hr];refine⟨a2,k2,m',rfl,ha,?_,hd.aJk h.odR hg,qC h.g hg oM⟩;obtain⟨M,b,a,c,ps,h1,h2,h3,h4,h5⟩:=hm;exact⟨M,b,a,c,ps,h1.grown hg (λe=>by injection e with e;omega),h2.aJk h.odR hg,h3.aJk h.odR hg,h4.aJk h.odR hg,h5⟩
end Go.Proofs.YtphfgbbbejloaaaGreatDoor
