/- model, the example of chapter 48, Copy, Same: what ModelPrefix wants. A block may be forbidden to the.. Conditions: as each theorem says. -/
import Derived.Test.YtphfgbbbejloaaaGreatDoorMeNp
import Derived.Shelf.Slices.Empties2
set_option linter.unusedSimpArgs false
set_option linter.unusedVariables false
set_option maxRecDepth 100000
set_option maxHeartbeats 16000000
set_option linter.unusedSectionVars false
namespace Go.Proofs.YtphfgbbbejloaaaGreatDoor
open Go.RowKit Go.Maps
open Go.Proofs.Tryz
theorem sy0{P:Prop}(h:P:=by
  go_wp2_with fail;refine wpr ?_
  repeat(go_big_quiet_step (fail))
  refine wqn λnq=> ?_;replace hB:=hB.on (World.aIy wr nq);go_wp2_with fail;go_ret;exact⟨aU (by rw[<-HQ.o,HBad.o (by first|(simp only[PT,HSM.o,Yo,Qy,Bool.not_eq_false',Qd,Qc];omega)|(simp[PT,HSM.o];omega))];rfl),hB⟩
  ):P:=h
theorem sy1{P:Prop}(h:P:=by
  go_wp2_with fail;refine wpr ?_
  repeat(go_big_quiet_step (fail))
  refine wqn λnq=> ?_;replace hB:=hB.on (World.aIy wr nq);go_wp2_with fail;go_roundw
  case rel=>exact⟨k+1,oM,by go_num,by rw[HV.o,HP.o];simp only[PT,HSM.o,Bool.true_and,Qd,Qc,Bool.not_eq_true',Yo,Qy];omega,hB⟩
  case measure=>simp[intOf];omega
  ):P:=h
theorem sy2{P:Prop}(h:P:=by
  exact⟨rfl,by first|exact(bQ w).aIw _|((repeat(first|exact bR|assumption|refine Below.aJd ?_ _|refine Below.aIw ?_ _|refine Below.setCell ?_ sM _|refine Below.drew ?_));done)⟩
  ):P:=h
theorem sy3{P:Prop}(h:P:=by
  go_wp2_with fail;go_ret;exact⟨aU (by rw[<-HQ.o,HP.o];simp[h20]),hB⟩
  ):P:=h
theorem sy4{P:Prop}(h:P:=by
  exact hc.mono λe w' ⟨q1,q2⟩=>⟨q1,by subst q2;exact bR⟩
  ):P:=h
variable[Gst]
def PT(x:CV):Bool:=decide (x.c.data.length<=40)&&(decide (IntKind.i64.wrap ((x.c.vol.length:Int)+x.c.oth.length)<=100)&& !(decide (x.c.kd=5)&&decide (40<x.c.n)))
def Dk(L:List CV):Bool:=L.all PT
theorem UN(L:List CV)(k:Nat)(h:k<L.length):Dk (L.take (k+1))=(Dk (L.take k)&&PT L[k]):=by
 rw[Qh h];simp only[Dk,List.all_append,List.all_cons,List.all_nil,Bool.and_true]
theorem Zb(L:List CV)(k:Nat)(h:k<L.length)(hx:PT L[k]=false):Dk L=false:=by
 cases hp:Dk L
 ·rfl
 ·rw[List.all_eq_true.1 hp _ (Qm h)]at hx;cases hx
theorem MB{L:List CV}(h:Dk L=true){x:CV}(hx:x∈L):x.c.data.length<=40/\(x.c.kd=5->x.c.n<=40):=by
 have:=List.all_eq_true.1 h x hx;simp only[PT,Qd,Qc,Bool.not_eq_true',Yo,Qy]at this;omega
theorem GM(L:List CV)(a:OA)(c:Nat)(most:Nat)(w:Wd)(hr:FM w a L)(hm:most<=100)(q:Bool)(hq:(Dk L&&decide (L.length<=most))=q):
  ep 12 #[.slice a L c,most] w (RB w (.bool q)):=by
 have hlen:=hr.1;have HQ:=hD hq;clear hq;go_enter func12,ntmps12;go_wp2_with fail;go_loopw [5] (λi wr=>∃k:Nat,k<=L.length/\i= .int .i64 k/\Dk (L.take k)=true/\Below w w wr) (λi _=>L.length-(intOf i).toNat)
 case atStart=>exact⟨0,Yf _,rfl,rfl,bR⟩
 case round=>
  obtain⟨k,hk,rfl,hp,hB⟩:=hrel;by_cases hlt:k<L.length
  ·obtain ⟨b,o,rfl,hat⟩:=(hr.keep hB).at oM;obtain⟨_,h1,_,_,h4,h5,_,h7,h8⟩:=hat k _ (Qa hlt);have hfit:=(hr.2.1 _ (Qm hlt)).fit;have HV:=hD (UN L k hlt);have HBad:=hD (Zb L k hlt);have HP:=hD hp;have hk0:(0:Int)<=k:=oM
   have hk1:(k:Int)<L.length:=oM
   generalize L[k]=x at *;obtain⟨⟨tg,kd,ao,af,vol,oth,p,n,dt⟩,da,dk⟩:=x;simp only at h1 h4 h5 h7 h8;clear hat hr hp hfit;obtain⟨sm,hsm⟩:∃y,IntKind.i64.wrap ((vol.length:Int)+oth.length)=y:=⟨_,rfl⟩;have HSM:=hD hsm;by_cases d1:40<dt.length
   ·have e1:decide ((40:Int)<dt.length)=true:=Qo oM;exact sy0
   ·have e1:decide ((40:Int)<dt.length)=false:=Qp oM;by_cases d2:100<sm
    ·have e2:decide ((100:Int)<sm)=true:=Qo oM;exact sy0
    ·have e2:decide ((100:Int)<sm)=false:=Qp oM;by_cases d3:kd=5
     ·subst d3;by_cases d4:40<n
      ·have e4:decide ((40:Int)<n)=true:=Qo d4;exact sy0
      ·have e4:decide ((40:Int)<n)=false:=Qp d4;exact sy1
     ·have e3:(kd==5)=false:=by simpa using d3
      exact sy1
  ·have HP:Hid (Dk L=true):=by
    rw[Qq oM]at hp;exact hD hp
   clear hp;by_cases h20:L.length<=most
   ·have e1:decide ((L.length:Int)<=most)=true:=Qo oM;exact sy3
   ·have e1:decide ((L.length:Int)<=most)=false:=Qp oM;exact sy3
omit [Gst] in
theorem bG.swap(G1 G2:Gst){w w':Wd}(hb:Below w w w')(hG:∀g,G2.g=some g->w.heap.size<=g/\g<w'.heap.size){v:Value}{F:Fam}(h: @bG G1 w v F): @bG G2 w' v F:=by
 letI:=G1
 obtain⟨a,c,mb,h1,⟨h2,_⟩,h3⟩:=h;refine⟨a,c,mb,h1,⟨h2.keep hb,λg e=> ?_⟩,h3.keep hb⟩;obtain⟨p,q⟩:=hG g e;rcases h2.2 with e|⟨b,o,ha,⟨cs,s,ht⟩,hat⟩
 ·exact .inl e
 ·refine .inr ⟨q,λb' o' s' ha'=> ?_⟩;rw[ha]at ha';cases ha';have:=(Array.getElem?_eq_some_iff.1 ht).1;omega
omit [Gst] in
theorem MoB.swap(G1 G2:Gst){w w':Wd}(hb:Below w w w')(hG:∀g,G2.g=some g->w.heap.size<=g/\g<w'.heap.size){X:Nat}{m:Mo Bk}(h: @MoB G1 w X m): @MoB G2 w' X m:=by
 letI:=G1
 have st:∀{M b:Nat} {s:MSt Bk},@StM G1 w M b s-> @StM G2 w' M b s:=λ⟨⟨x,y,h1,h2⟩,h3⟩=>⟨⟨x,y,h1.aIx hb,bG.swap G1 G2 hb hG h2⟩,h3.aIx hb⟩;obtain⟨M,b,a,c,ps,h1,h2,h3,h4,h5⟩:=h;exact⟨M,b,a,c,ps,h1.aIx hb,st h2,h3.keep hb,λp hp=>st (h4 p hp),h5⟩
variable[Gst]
theorem Hg(X:Nat)(m:Mo Bk)(n:Nat)(w:Wd)(hm:MoB w X m)(hn:m.past.length=n):
  ep 24 #[.pointer (cw X 0)] w (RB w n):=by
 subst hn;refine(Pb X m w hm).m ?_;rintro e w' ⟨rfl,rfl⟩;exact⟨rfl,bR⟩
theorem xD(n:Nat)(hn:n<=65536):(pJ n).fine:=⟨⟨Hf n hn,λv hv=>by simp[pJ]at hv⟩,λs hs=>by simp[pJ]at hs⟩
structure OdM(W:Wd)(X:Nat):Prop where
 nod:∀x p vr d n m,¬JV W X x (.pointer p) vr d n m
 int:(∃t,3≠t/\jH W X t)∨Gst.g=some X
 ty:∃t,157≠t/\87≠t/\jH W X t
theorem Bx3.odM{W:Wd}{X:Nat}{t:TypeId}{u v x:Value}(h:Bx3 W X t u v x)(h1:3≠t)(h2:157≠t)(h3:87≠t):OdM W X:=⟨λx p vr d n m hn=>(by have e:=hn.m;rw[h.c3 7 oM]at e;cases e),.inl ⟨t,h1,h.ty⟩,t,h2,h3,h.ty⟩
section
variable{W W':Wd}{X:Nat}(hX:OdM W X)(hg:W.grownBy W' (some X))
include hX hg
theorem RdG.aJm{a:OA}{C:List Int}(h:RdG W a C):RdG W' a C:=by
 refine⟨⟨h.1.1,?_⟩,h.2.le hg.size⟩;rcases h.1.2 with e|⟨b,o,ha,ht,hat⟩
 ·exact .inl e
 ·have fin:b≠X->C=[]∨ ∃b o,a=cw b o/\jH W' b 3/\ ∀k c,C[k]? =some c->W' (cw b (o+k))=some (.int .i64 c):=λhne=> .inr ⟨b,o,ha,ht.grown hg hne,λk c hk=>aA hg (hat k c hk) hne⟩;rcases hX.int with ⟨t,h1,h4⟩|hG
  ·exact fin (ht.ne h4 h1)
  ·rcases h.2 X hG with e|⟨_,q⟩
   ·exact .inl e
   ·exact fin (q b o none ha)
theorem aD.aJm(t:Tr):∀{v:Value},aD W v t->aD W' v t:=by
 induction t with
 |nil=>exactλhv=>hv
 | node l x r ihl ihr=>
  rintro v ⟨b,vl,vr,hv,hn,hl,hr⟩;have hne:b≠X:=λe=>by
   subst e;obtain⟨p,rfl⟩:=hl.form;exact hX.nod _ _ _ _ _ _ hn
  have k:∀{j u},W (cw b j)=some u->W' (cw b j)=some u:=λh=>aA hg h hne;exact⟨b,vl,vr,hv,⟨k hn.a,k hn.n,k hn.s,k hn.l,k hn.r,k hn.d,k hn.c,k hn.m⟩,ihl hl,ihr hr⟩
theorem bG.aJm{fv:Value}{F:Fam}(hf:bG W fv F):bG W' fv F:=by
 obtain⟨a,c,mb,h1,h2,ts,h3,h4,h5⟩:=hf;refine⟨a,c,mb,h1,h2.aJm hX hg,ts,h3,λp hp=>aD.aJm hX hg p.t (h4 p hp),h5.elim .inl λ⟨b,q1,q2⟩=> .inr ⟨b,q1,?_⟩⟩;refine World.ownsMap.kept q2 hg ?_;obtain⟨es,clock,hb,r⟩:=q2;obtain⟨t,_,_,cs,s,hty⟩:=hX.ty;intro e;injection e with e;subst e;rw[hb]at hty;cases hty
theorem StM.aJm{M b:Nat}{s:MSt Bk}(h:StM W M b s):StM W' M b s:=by
 obtain⟨⟨x,y,h1,h2⟩,h3⟩:=h;obtain⟨t,t2,_,ht⟩:=hX.ty;refine⟨⟨x,y,h1.grown hg (λe=> ?_),h2.aJm hX hg⟩,h3.grown hg λe=> ?_⟩
 ·injection e with e;subst e;exact h1.ty.ne ht t2 rfl
 ·injection e with e;subst e;obtain⟨es,⟨cs,clock,hb,_⟩,_⟩:=h3;obtain⟨cs,s,hty⟩:=ht;rw[hb]at hty;cases hty
theorem MoB.aJm{Y:Nat}{m:Mo Bk}(h:MoB W Y m)(hne:Y≠X):MoB W' Y m:=by
 obtain⟨M,b,a,c,ps,h1,h2,h3,h4,h5⟩:=h;obtain⟨t,_,t3,ht⟩:=hX.ty;refine⟨M,b,a,c,ps,h1.grown hg (λe=>hne (Qv e).symm),h2.aJm hX hg,⟨h3.1,h3.2.imp id λ⟨g,o,e1,hty,e2⟩=> ?_⟩,λp hp=>(h4 p hp).aJm hX hg,h5⟩;have hn:g≠X:=hty.ne ht t3;exact⟨g,o,e1,hty.grown hg hn,λk p hk=>⟨aA hg (e2 k p hk).m hn,aA hg (e2 k p hk).b hn⟩⟩
end
theorem Ap.past{α:Type}{z:α}{m m':Mo α}{c:Cmd α}(h:Ap z m c m'):m'.past.length<=m.past.length+1:=by
 unfold Ap at h
 split at h
 ·split at h
  ·rw[h];simp
  ·rw[h.2]
   split <;> simp
 ·rw[h];omega
theorem Pv(nm:LU)(n r:Int)(w:Wd):
  ep 30 #[nmV nm,n,r] w (RB w (cmV ⟨0,5,0,false,nm,[],r,n,[]⟩ none 0)):=by
 go_enter func30,ntmps30;go_wp2_with fail;refine br (.agg #[oo,.int .i64 5,oo,false,nmV nm,nmV [],r,n,sn]) ?_;exact sy2
theorem Uu(nm ot:LU)(w:Wd):
  ep 32 #[nmV nm,nmV ot] w (RB w (cmV ⟨0,6,0,false,nm,ot,0,0,[]⟩ none 0)):=by
 go_enter func32,ntmps32;go_wp2_with fail;refine br (.agg #[oo,.int .i64 6,oo,false,nmV nm,nmV ot,oo,oo,sn]) ?_;exact sy2
theorem Hw(nm:LU)(p x:Int)(w:Wd):
  ep 31 #[nmV nm,p,.int .u8 x] w λe w'=>∃a,e= .returned (cmV ⟨0,2,0,false,nm,[],p,1,[⟨x,0,0,0,0,0,0,0⟩]⟩ a 1)/\RdB w' a [⟨x,0,0,0,0,0,0,0⟩]/\Below w w w':=by
 go_enter func31,ntmps31;go_wp2_with fail;have hsz:(w.alloc (cq #[oo,ow,oo,false,.string ⟨nm.toArray⟩,.string ⟨#[]⟩,p,ol,.slice (cw (cf w) 0) 1 1] 48)).heap.size=w.heap.size+1:=by simp
 refine br (.agg #[oo,ow,oo,false,nmV nm,nmV [],p,ol,.slice (cw (cf w) 0) 1 1]) ?_;refine⟨some (cw (cf w) 0),rfl,⟨sM,.inr ⟨w.heap.size+1,0,rfl,λk y hk=> ?_⟩⟩,by first|exact((bQ w).aIw _).aIw _|((repeat(first|exact bR|assumption|refine Below.aJd ?_ _|refine Below.aIw ?_ _|refine Below.setCell ?_ sM _|refine Below.drew ?_));done)⟩
 cases k with
 | zero=>
  simp at hk;subst hk;have:=(RB8.new _ _ ⟨x,0,0,0,0,0,0,0⟩ 56 (Below.refl (w.alloc (cq #[oo,ow,oo,false,.string ⟨nm.toArray⟩,.string ⟨#[]⟩,p,ol,.slice (cw (cf w) 0) 1 1] 48)).heap.size (w.alloc (cq #[oo,ow,oo,false,.string ⟨nm.toArray⟩,.string ⟨#[]⟩,p,ol,.slice (cw (cf w) 0) 1 1] 48)))).at';rw[hsz]at this;exact this
 |succ k=>simp at hk
def awN:LU:=[97]
def awM:LU:=[98]
def bkO(x:Int):Bk:=⟨x,0,0,0,0,0,0,0⟩
def Vl:Cmd Bk:=⟨0,5,0,false,awN,[],0,4,[]⟩
def Dq:Cmd Bk:=⟨0,2,0,false,awN,[],1,1,[bkO 7]⟩
def Dp:Cmd Bk:=⟨0,6,0,false,awN,awM,0,0,[]⟩
def FD:Cmd Bk:=⟨0,2,0,false,awN,[],1,1,[bkO 8]⟩
def awV:Vol:=⟨awN,4,0,[]⟩
def Nh:Fam:=⟨10,[awV]⟩
def FB:MSt Bk:=⟨Nh,λ_=>Bk.zero⟩
def FC:Fam:=(aV Nh awN ⟨1,1,0⟩).1
def Ng:Fam:=(bJ FC awN awM).1
theorem aFi:Vl.valid=true:=kR
theorem aFh:Dq.valid=true:=kR
theorem aFg:Dp.valid=true:=kR
theorem aFf:FD.valid=true:=kR
theorem ZF:fE (pJ 10).cur.F Vl=0:=kR
theorem Sq:fE Nh Dq=0:=kR
theorem aFk:fE FC Dp=0:=kR
theorem aIr:fE Ng FD=0:=kR
theorem Sv{α:Type}{z:α}{m m':Mo α}{c:Cmd α}(h:Ap z m c m')(hv:c.valid=true)(he:fE m.cur.F c=0)(k1:c.kd≠1)(k4:c.kd≠4)(hf:c.af=false):Nx z m.cur c m'.cur/\m'.past=m.past++[m.cur]:=by
 unfold Ap at h;rw[Qf ⟨hv,he,k1⟩,Qe k4]at h;refine⟨h.1,?_⟩;rw[h.2,hf];rfl
theorem aAu{α:Type}{z:α}{s:MSt α}{c:Cmd α}(hv:c.valid=true)(he:fE s.F c=0):(kW z s c).err=0:=by
 unfold kW;rw[Qf hv];exact he
theorem ZC:Nh.sound:=by
 have:=Ba (Hf 10 oM) (nm:=awN) (n:=4) (r:=0) oM kR kR;exact this
theorem aFj:Nh.once:=λv hv=>by
 simp[Nh]at hv;subst hv;intro b c x hb;cases hb
theorem Sk:FB.fine:=⟨ZC,aFj⟩
theorem aCj:Sim (λi=>i) FB FB:=⟨⟨rfl,lM.id _,⟨⟨rfl,rfl,rfl,λb=>rfl⟩,trivial⟩⟩,λi _=>rfl⟩
theorem aHj:∃D,Nx Bk.zero FB Dq ⟨FC,D⟩:=by
 have hp:jO Nh awN 1 1=0:=Sq;obtain⟨v,p0,n0,k,hv,hnm,hp0,hn0,_,_,_,_,hpw⟩:=WT ZC aFj hp;rw[hnm]at hv;obtain rfl:awV=v:=Qv ((show aN Nh.vs awN=some awV by kernel_rfl).symm.trans hv);obtain rfl:p0=1:=oM
 obtain rfl:n0=1:=oM
 obtain ⟨G2,K2,g1,_,g3⟩:=(zL.start hpw).step (s:=0) oM kR dE kR;have hG:G2=FC:=g1.symm.trans rfl;subst hG;exact⟨_,λq=>absurd Sq q,λ_=>by
  rw[Qf (show Dq.kd=2 from rfl)]
  exact⟨awV,1,1,_,K2,rfl,rfl,rfl,g3.pw,g3.wr,rfl⟩⟩
theorem aw_1{m:Mo Bk}(h:Ap Bk.zero (pJ 10) Vl m):m.cur=FB/\m.past=[(pJ 10).cur]:=by
 obtain⟨h1,h2⟩:=Sv h aFi ZF dE dE rfl;have h3:=h1.2 ZF;rw[Qe dE]at h3;exact⟨h3.trans kR,h2⟩
theorem Sn{m:Mo Bk}(h:m.cur=FB):fE m.cur.F Dq=0:=by rw[h];exact Sq
theorem aw_2{m n:Mo Bk}(h:m.cur=FB)(h2:Ap Bk.zero m Dq n):(∃σ D,Sim σ n.cur ⟨FC,D⟩/\(⟨FC,D⟩:MSt Bk).fine)/\n.cur.fine/\n.past=m.past++[m.cur]/\obS n.cur=zW Bk.zero (obS FB) Dq:=by
 obtain⟨h3,h4⟩:=Sv h2 aFh (Sn h) dE dE rfl;rw[h]at h3;obtain⟨D,hDd⟩:=aHj;obtain⟨τ,hτ⟩:=Nx.sim aCj Sk Sk h3 hDd;exact⟨⟨τ,D,hτ,hDd.fine Sk dE⟩,h3.fine Sk dE,h4,Jj ZC.ok h3 Sq⟩
theorem Sm{n:Mo Bk}{σ:Nat->Nat}{D:Nat->Bk}(hs:Sim σ n.cur ⟨FC,D⟩)(hf:n.cur.fine)(hg:(⟨FC,D⟩:MSt Bk).fine):fE n.cur.F Dp=0:=by
 have:=wM hs.a hf.sound.ok hg.sound.ok Dp;exact this.symm.trans aFk
theorem aw_3{n k:Mo Bk}{σ:Nat->Nat}{D:Nat->Bk}(hs:Sim σ n.cur ⟨FC,D⟩)(hf:n.cur.fine)(hg:(⟨FC,D⟩:MSt Bk).fine)(h2:Ap Bk.zero n Dp k):(∃τ,Sim τ k.cur ⟨Ng,D⟩)/\(⟨Ng,D⟩:MSt Bk).fine/\k.cur.fine/\k.past=n.past++[n.cur]/\obS k.cur=zW Bk.zero (obS n.cur) Dp:=by
 have he:=Sm hs hf hg;obtain⟨h3,h4⟩:=Sv h2 aFg he dE dE rfl;have hN:Nx Bk.zero (⟨FC,D⟩:MSt Bk) Dp ⟨Ng,D⟩:=⟨λq=>absurd aFk q,λ_=>by
  rw[Qe dE]
  rfl⟩
 exact⟨Nx.sim hs hf hg h3 hN,hN.fine hg dE,h3.fine hf dE,h4,Jj hf.sound.ok h3 he⟩
theorem Sl{n:Mo Bk}{σ:Nat->Nat}{D:Nat->Bk}(hs:Sim σ n.cur ⟨Ng,D⟩)(hf:n.cur.fine)(hg:(⟨Ng,D⟩:MSt Bk).fine):fE n.cur.F FD=0:=by
 have:=wM hs.a hf.sound.ok hg.sound.ok FD;exact this.symm.trans aIr
theorem aw_4{n k:Mo Bk}{σ:Nat->Nat}{D:Nat->Bk}(hs:Sim σ n.cur ⟨Ng,D⟩)(hf:n.cur.fine)(hg:(⟨Ng,D⟩:MSt Bk).fine)(h2:Ap Bk.zero n FD k):k.cur.fine/\k.past=n.past++[n.cur]/\obS k.cur=zW Bk.zero (obS n.cur) FD:=by
 have he:=Sl hs hf hg;obtain⟨h3,h4⟩:=Sv h2 aFf he dE dE rfl;exact⟨h3.fine hf dE,h4,Jj hf.sound.ok h3 he⟩
theorem ZE{s2 s4:MSt Bk}(f2:s2.F.ok)(f4:s4.F.ok)(h2:obS s2=zW Bk.zero (obS FB) Dq)(h4:obS s4=zW Bk.zero (zW Bk.zero (zW Bk.zero (obS FB) Dq) Dp) FD):
  vF Bk.zero s4 awN 1=bkO 8/\(aX s4.F awN 1).2.2=0/\vF Bk.zero s4 awM 1=bkO 7/\(aX s4.F awM 1).2.2=0/\vF Bk.zero s2 awN 1=bkO 7/\(aX s2.F awN 1).2.2=0/\(aX s2.F awM 1).2.2=9:=by
 rw[JO f4 _ _ oM,JO f4 _ _ oM,JO f2 _ _ oM,Ay,Ay,Ay,Ay,h2,h4];exact⟨kR,kR,kR,kR,kR,kR,kR⟩
theorem uH(X:Nat)(m:Mo Bk)(c:Cmd Bk)(a:OA)(k:Nat)(w:Wd)(hm:MoB w X m)(hs:m.fine)(hpl:m.past.length<=10000)(hf:tN c)(hd:RdB w a c.data)(h5:c.kd=5->c.n<=255)(hv:c.valid=true)(he:fE m.cur.F c=0):
  ep 19 #[.pointer (cw X 0),cmV c a k] w λe w'=>∃t a2 n2 k2 m',e= .returned (.agg #[.int .i64 t,oo,.slice a2 n2 k2])/\Ap Bk.zero m c m'/\MoB w' X m'/\w.grownBy w' (some X):=by
 have h0:=aAu (z:=Bk.zero) hv he;refine(yX X m c a k w hm hs hpl hf hd h5).m ?_;rintro e w' ⟨a2,k2,m',rfl,h1,h2,_,h3⟩;exact⟨_,a2,_,k2,m',by rw[h0],h1,h2,h3⟩
theorem aCn:tN Vl:=⟨by unfold gJ;decide,by unfold gJ;decide,by unfold gJ;decide,by unfold gJ;decide,by unfold gJ;decide,dE,dE⟩
theorem aCm:tN Dq:=⟨by unfold gJ;decide,by unfold gJ;decide,by unfold gJ;decide,by unfold gJ;decide,by unfold gJ;decide,dE,dE⟩
theorem aCl:tN Dp:=⟨by unfold gJ;decide,by unfold gJ;decide,by unfold gJ;decide,by unfold gJ;decide,by unfold gJ;decide,dE,dE⟩
theorem aCk:tN FD:=⟨by unfold gJ;decide,by unfold gJ;decide,by unfold gJ;decide,by unfold gJ;decide,by unfold gJ;decide,dE,dE⟩
theorem RA(w:Wd)(a:OA):RdB w a ([]:List Bk):=⟨sM,.inl rfl⟩
def AwP(X:Nat)(m:Mo Bk)(c:Cmd Bk)(w:Wd)(e:Ending)(w':Wd):Prop:= ∃t a2 n2 k2 m',e= .returned (.agg #[.int .i64 t,oo,.slice a2 n2 k2])/\Ap Bk.zero m c m'/\MoB w' X m'/\w.grownBy w' (some X)
theorem aIq(X:Nat)(w:Wd)(hm:MoB w X (pJ 10)):
  ep 19 #[.pointer (cw X 0),.agg #[oo,.int .i64 5,oo,false,nmV [97],nmV [],oo,.int .i64 4,sn]] w (AwP X (pJ 10) Vl w):=
 uH X (pJ 10) Vl none 0 w hm (xD 10 oM) (by simp[pJ]) aCn (RA _ _) dE aFi ZF
theorem aIp(X:Nat)(m:Mo Bk)(a:OA)(w:Wd)(hm:MoB w X m)(hc:m.cur=FB)(hf:m.fine)(hl:m.past.length<=10000)(hd:RdB w a [⟨7,0,0,0,0,0,0,0⟩]):
  ep 19 #[.pointer (cw X 0),.agg #[oo,ow,oo,false,nmV [97],nmV [],ol,ol,.slice a 1 1]] w (AwP X m Dq w):=
 uH X m Dq a 1 w hm hf hl aCm hd dE aFh (Sn hc)
theorem aIo(X:Nat)(m:Mo Bk)(w:Wd)(hm:MoB w X m)(he:fE m.cur.F Dp=0)(hf:m.fine)(hl:m.past.length<=10000):
  ep 19 #[.pointer (cw X 0),.agg #[oo,.int .i64 6,oo,false,nmV [97],nmV [98],oo,oo,sn]] w (AwP X m Dp w):=
 uH X m Dp none 0 w hm hf hl aCl (RA _ _) dE aFg he
theorem aIn(X:Nat)(m:Mo Bk)(a:OA)(w:Wd)(hm:MoB w X m)(he:fE m.cur.F FD=0)(hf:m.fine)(hl:m.past.length<=10000)(hd:RdB w a [⟨8,0,0,0,0,0,0,0⟩]):
  ep 19 #[.pointer (cw X 0),.agg #[oo,ow,oo,false,nmV [97],nmV [],ol,ol,.slice a 1 1]] w (AwP X m FD w):=
 uH X m FD a 1 w hm hf hl aCk hd dE aFf he
theorem QZ(X:Nat)(m:Mo Bk)(nm:LU)(y er:Int)(w:Wd)(hm:MoB w X m)(hF:m.cur.F.ok)(hn:nm.length<=maxLen)(hx:vF Bk.zero m.cur nm 1=bkO y)(he:(aX m.cur.F nm 1).2.2=er):
  ep 20 #[.pointer (cw X 0),nmV nm,ol] w (RB w (.tuple #[.agg #[.int .u8 y,.int .u8 0,.int .u8 0,.int .u8 0,.int .u8 0,.int .u8 0,.int .u8 0,.int .u8 0],er])):=
 BI X m nm 1 w hm hF hn (by unfold gJ;omega) (bkO y) hx er he
theorem aIm(X:Nat)(m:Mo Bk)(a b c d:MSt Bk)(hl:m.past=[a,b,c,d])(w:Wd)(hm:MoB w X m):
  ep 15 #[.pointer (cw X 0),ow] w λe w'=>e= .returned (.int .i64 0)/\MoB w' X ⟨c,[]⟩/\w.grownBy w' (some X):=by
 have h:=RN X m 2 w hm (by unfold gJ;omega);have hc:lC m 2=(⟨c,[]⟩,0):=by unfold lC;rw[hl];rfl
 rwa [hc]at h
theorem MoB.lt{w:Wd}{X:Nat}{m:Mo Bk}(h:MoB w X m):X<w.heap.size:=by
 obtain⟨_,_,_,_,_,h1,_⟩:=h;exact h1.lt
theorem zM.far{w w':Wd}{b o k X:Nat}{x:Bk}(h:zM w b o k x)(hg:w.grownBy w' (some X))(hne:b≠X):zM w' b o k x:=by
 have hlt:b<w.heap.size:=Qj w (cw b (o+k*8)) h.c0;have hn:some b≠some X:=λe=>hne (by injection e);exact⟨(hg.cell_far ⟨b,_,none⟩ hlt hn).trans h.c0,(hg.cell_far ⟨b,_,none⟩ hlt hn).trans h.c1,(hg.cell_far ⟨b,_,none⟩ hlt hn).trans h.c2,(hg.cell_far ⟨b,_,none⟩ hlt hn).trans h.c3,(hg.cell_far ⟨b,_,none⟩ hlt hn).trans h.c4,(hg.cell_far ⟨b,_,none⟩ hlt hn).trans h.c5,(hg.cell_far ⟨b,_,none⟩ hlt hn).trans h.c6,(hg.cell_far ⟨b,_,none⟩ hlt hn).trans h.c7⟩
theorem Fz(w:Wd):ep 11 #[] w (RB w true):=by
 have hfl:∀(t e:Int) (v:Value) (W:Wd),(Instr.field 44 (.agg #[t,e,v]) 1).run prog W= .ok (.int .i64 e) W:=λ_ _ _ _=>by kernel_rfl
 go_enter func11,ntmps11
 letI:Gst:=⟨none⟩
 go_wp2_with fail;refine(Hl 10 _ oM rfl).m ?_;rintro e w1 ⟨X,rfl,hX,hm,hb⟩;have HX:=hD hX;have HM:=hD hm;have HB:=hD hb;clear hX hm hb;go_wp2_with fail;refine(Pv [97] 4 0 _).m ?_;rintro e w2 ⟨rfl,hb⟩;have HM2:=hD (HM.o.aIx hb);have HB2:=hD (HB.o.on hb);clear hb HM HB;unfold cmV;simp only[List.length_nil];go_wp2_with fail;refine(aIq X _ HM2.o).m ?_;rintro e w3 ⟨t3,a3,n3,k3,m1,rfl,hap,hm,hg⟩;have HA1:=hD (aw_1 hap);have HF1:Hid m1.fine:=hD (hap.fine (xD 10 oM) dE);have HM3:=hD hm;have HB3:=hD (HB2.o.aJa hg (λj e=>by injection e with e;have:=HX.o;omega));clear hap hm hg HM2 HB2;go_wp2_with fail;refine(Hw [97] 1 7 _).m ?_;rintro e w4 ⟨a4,rfl,hd,hb⟩;have HM4:=hD (HM3.o.aIx hb);have HB4:=hD (HB3.o.on hb);have HD4:=hD hd;clear hb hd HM3 HB3;unfold cmV;simp only[List.length_nil,List.length_cons,Nat.zero_add];go_wp2_with fail;refine(aIp X m1 a4 _ HM4.o HA1.o.1 HF1.o (by rw[HA1.o.2];simp) HD4.o).m ?_;rintro e w5 ⟨t5,a5,n5,k5,m2,rfl,hap,hm,hg⟩;have HA2:=hD (aw_2 HA1.o.1 hap);have HF2:Hid m2.fine:=hD (hap.fine HF1.o dE);have HM5:=hD hm;have HB5:=hD (HB4.o.aJa hg (λj e=>by injection e with e;have:=HX.o;omega));have HL2:Hid (m2.past=[(pJ 10).cur,m1.cur]):=hD (by rw[HA2.o.2.2.1,HA1.o.2];rfl);clear hap hm hg HM4 HB4 HD4;obtain⟨⟨σ,D,hsim,hfd⟩,hf2,_,hob2⟩:=HA2.o;have HE3:=hD (Sm hsim hf2 hfd);have HS2:=hD hsim;have HD2:=hD hfd;have HO2:=hD hob2;clear hsim hfd hf2 hob2 HA2;go_wp2_with fail;refine(Uu [97] [98] _).m ?_;rintro e w6 ⟨rfl,hb⟩;have HM6:=hD (HM5.o.aIx hb);have HB6:=hD (HB5.o.on hb);clear hb HM5 HB5;unfold cmV;simp only[List.length_nil];go_wp2_with fail;refine(aIo X m2 _ HM6.o HE3.o HF2.o (by rw[HL2.o];simp)).m ?_;rintro e w7 ⟨t7,a7,n7,k7,m3,rfl,hap,hm,hg⟩;have HA3:=hD (aw_3 HS2.o HF2.o.cur HD2.o hap);have HF3:Hid m3.fine:=hD (hap.fine HF2.o dE);have HM7:=hD hm;have HB7:=hD (HB6.o.aJa hg (λj e=>by injection e with e;have:=HX.o;omega));have HL3:Hid (m3.past=[(pJ 10).cur,m1.cur,m2.cur]):=hD (by rw[HA3.o.2.2.2.1,HL2.o];rfl);clear hap hm hg HM6 HB6;obtain⟨⟨τ,hsim⟩,hfd,hf3,_,hob3⟩:=HA3.o;have HE4:=hD (Sl hsim hf3 hfd);have HS3:=hD hsim;have HD3:=hD hfd;have HO3:=hD hob3;clear hsim hfd hf3 hob3 HA3;go_wp2_with fail;refine(Hw [97] 1 8 _).m ?_;rintro e w8 ⟨a8,rfl,hd,hb⟩;have HM8:=hD (HM7.o.aIx hb);have HB8:=hD (HB7.o.on hb);have HD8:=hD hd;clear hb hd HM7 HB7;unfold cmV;simp only[List.length_nil,List.length_cons,Nat.zero_add];go_wp2_with fail;refine(aIn X m3 a8 _ HM8.o HE4.o HF3.o (by rw[HL3.o];simp) HD8.o).m ?_;rintro e w9 ⟨t9,a9,n9,k9,m4,rfl,hap,hm,hg⟩;have HA4:=hD (aw_4 HS3.o HF3.o.cur HD3.o hap);have HF4:Hid m4.fine:=hD (hap.fine HF3.o dE);have HM9:=hD hm;have HB9:=hD (HB8.o.aJa hg (λj e=>by injection e with e;have:=HX.o;omega));have HL4:Hid (m4.past=[(pJ 10).cur,m1.cur,m2.cur,m3.cur]):=hD (by rw[HA4.o.2.1,HL3.o];rfl);have HRD:=hD (ZE HF2.o.cur.sound.ok HF4.o.cur.sound.ok HO2.o (by rw[HA4.o.2.2,HO3.o,HO2.o]));clear hap hm hg HM8 HB8 HD8 HA4 HS2 HS3 HD2 HD3 HO2 HO3 HE3 HE4 HL2 HL3 HA1 HF1 HF3;have heq:∀(y:Int) (W:Wd),(Op.equalIn 10000 56 (.agg #[.int .u8 y,.int .u8 0,.int .u8 0,.int .u8 0,.int .u8 0,.int .u8 0,.int .u8 0,.int .u8 0]) (.agg #[.int .u8 y,.int .u8 0,.int .u8 0,.int .u8 0,.int .u8 0,.int .u8 0,.int .u8 0,.int .u8 0])).run prog W= .ok true W:=by
  intro y W;have h:=uY ⟨y,0,0,0,0,0,0,0⟩ ⟨y,0,0,0,0,0,0,0⟩ 9998 W;unfold Bk.v at h
  simpa only[Nat.reduceAdd,decide_true]using h
 have hq8:=heq 8;have hq7:=heq 7;go_wp2_with fail;refine(QZ X m4 [97] 8 0 _ HM9.o HF4.o.cur.sound.ok dE HRD.o.1 HRD.o.2.1).m ?_;rintro e w10 ⟨rfl,hb⟩;have hk:=hb.aIw (.cells (iW ⟨8,0,0,0,0,0,0,0⟩) 56);have HY10:=hD (RB8.new w10 w10 ⟨8,0,0,0,0,0,0,0⟩ 56 bR);have HM10:=hD (HM9.o.aIx hk);have HX10:=hD (HM9.o.aIx hb).lt;have HB10:=hD (HB9.o.on hk);clear hb hk HM9 HB9;go_upto_region 5 with fail;generalize w10.alloc (cq #[.int .u8 8,.int .u8 0,.int .u8 0,.int .u8 0,.int .u8 0,.int .u8 0,.int .u8 0,.int .u8 0] 56)=W10 at HY10 HM10 HB10 ⊢;have HN10:Hid (w10.heap.size≠X):=hD (by have:=HX10.o;omega);generalize w10.heap.size=T10 at HY10 HN10 ⊢;go_wp2_with fail;refine(QZ X m4 [98] 7 0 _ HM10.o HF4.o.cur.sound.ok dE HRD.o.2.2.1 HRD.o.2.2.2.1).m ?_;rintro e w11 ⟨rfl,hb⟩;have hk:=hb.aIw (.cells (iW ⟨7,0,0,0,0,0,0,0⟩) 56);have HY11:=hD (RB8.new w11 w11 ⟨7,0,0,0,0,0,0,0⟩ 56 bR);have HZ11:=hD (HY10.o.aIx hk);have HM11:=hD (HM10.o.aIx hk);have HX11:=hD (HM10.o.aIx hb).lt;have HB11:=hD (HB10.o.on hk);clear hb hk HM10 HB10 HY10;go_upto_region 6 with fail;generalize w11.alloc (cq #[.int .u8 7,.int .u8 0,.int .u8 0,.int .u8 0,.int .u8 0,.int .u8 0,.int .u8 0,.int .u8 0] 56)=W11 at HY11 HZ11 HM11 HB11 ⊢;have HN11:Hid (w11.heap.size≠X):=hD (by have:=HX11.o;omega);generalize w11.heap.size=T11 at HY11 HN11 ⊢;go_wp2_with fail;refine(Hg X m4 4 _ HM11.o (by rw[HL4.o];rfl)).m ?_;rintro e w12 ⟨rfl,hb⟩;have HY12:=hD (HY11.o.aIx hb);have HZ12:=hD (HZ11.o.aIx hb);have HM12:=hD (HM11.o.aIx hb);have HB12:=hD (HB11.o.on hb);clear hb HM11 HB11 HY11 HZ11;go_wp2_with fail;refine(aIm X m4 _ _ _ _ HL4.o _ HM12.o).m ?_;rintro e w13 ⟨rfl,hm,hg⟩;have HM13:=hD hm;have HB13:=hD (HB12.o.aJa hg (λj e=>by injection e with e;have:=HX.o;omega));have HY13:=hD (HY12.o.at'.far hg HN11.o);have HZ13:=hD (HZ12.o.at'.far hg HN10.o);clear hm hg HM12 HB12 HY12 HZ12;go_wp2_with fail;refine(QZ X ⟨m2.cur,[]⟩ [97] 7 0 _ HM13.o HF2.o.cur.sound.ok dE HRD.o.2.2.2.2.1 HRD.o.2.2.2.2.2.1).m ?_;rintro e w14 ⟨rfl,hb⟩;have hk:=hb.aIw (.cells (iW ⟨7,0,0,0,0,0,0,0⟩) 56);have HV14:=hD (RB8.new w14 w14 ⟨7,0,0,0,0,0,0,0⟩ 56 bR);have HY14:=hD (HY13.o.keep hk);have HZ14:=hD (HZ13.o.keep hk);have HM14:=hD (HM13.o.aIx hk);have HB14:=hD (HB13.o.on hk);clear hb hk HM13 HB13 HY13 HZ13;go_upto_region 9 with fail;generalize w14.alloc (cq #[.int .u8 7,.int .u8 0,.int .u8 0,.int .u8 0,.int .u8 0,.int .u8 0,.int .u8 0,.int .u8 0] 56)=W14 at HV14 HY14 HZ14 HM14 HB14 ⊢;generalize w14.heap.size=T14 at HV14 ⊢;obtain⟨y,hy⟩:∃y,vF Bk.zero m2.cur [98] 1=y:=⟨_,rfl⟩;have HRB:=hD (λW (h:MoB W X ⟨m2.cur,[]⟩)=>BI X ⟨m2.cur,[]⟩ [98] 1 W h HF2.o.cur.sound.ok dE (by unfold gJ;omega) y hy 9 HRD.o.2.2.2.2.2.2);clear hy;obtain⟨y0,y1,y2,y3,y4,y5,y6,y7⟩:=y;unfold Rh at HRB;unfold Bk.v at HRB;simp only at HRB;go_wp2_with fail;refine(HRB.o _ HM14.o).m ?_;rintro e w15 ⟨rfl,hb⟩;have hk:=hb.aIw (.cells (iW ⟨y0,y1,y2,y3,y4,y5,y6,y7⟩) 56);have HV15:=hD (HV14.o.at'.keep hk);have HY15:=hD (HY14.o.keep hk);have HZ15:=hD (HZ14.o.keep hk);have HB15:=hD (HB14.o.on hk);clear hb hk HM14 HB14 HY14 HZ14 HRB HV14;go_upto_region 10 with fail;generalize w15.alloc (cq #[.int .u8 y0,.int .u8 y1,.int .u8 y2,.int .u8 y3,.int .u8 y4,.int .u8 y5,.int .u8 y6,.int .u8 y7] 56)=W15 at HV15 HY15 HZ15 HB15 ⊢;generalize w15.heap.size=T15;obtain⟨g0,g1,g2,g3,g4,g5,g6,g7⟩:=HV15.o;obtain⟨h0,h1,h2,h3,h4,h5,h6,h7⟩:=HY15.o;obtain⟨j0,j1,j2,j3,j4,j5,j6,j7⟩:=HZ15.o;simp only[Nat.zero_mul,Nat.zero_add]at g0 g1 g2 g3 g4 g5 g6 g7 h0 h1 h2 h3 h4 h5 h6 h7 j0 j1 j2 j3 j4 j5 j6 j7;go_wp2_with fail;go_ret;exact⟨rfl,HB15.o⟩
section
open Go.Shelf
shelf_lay Lays.n193 Nm 193 at Tryz as Tryz.lays193
end
section
section
variable{α:Type}
theorem ob_rel{σ:Nat->Nat}{s t:MSt α}:∀{vs ws:List Vol},kQ σ vs ws->(∀v∈vs,∀b x,aF v.l b=some x->t.D (σ x.toNat)=s.D x.toNat)->ws.map (obV t)=vs.map (obV s)
 | [],[],_,_=>rfl
 | v::vs,w::ws,h,hd=>by
  rw[List.map_cons,List.map_cons,ob_rel h.2 λu hu=>hd u (by simp[hu])];congr 1;unfold obV;rw[h.1.nm,h.1.n,h.1.r];congr 1
  funext i
  rw[h.1.at' i]
  cases hq:aF v.l i with
  |none=>rfl
  | some x=>
   simp only[Eu,Option.map_some,Int.toNat_natCast];exact congrArg some (hd v sM i x hq)
 | [],_::_,h,_=>h.elim
 |_::_,[],h,_=>h.elim
theorem ob_same{σ:Nat->Nat}{s t:MSt α}(h:Sim σ s t):obS t=obS s:=ob_rel h.a.vs λv hv b x hx=>h.d _ ⟨v,hv,b,x,hx,rfl⟩
end
section
variable{α:Type}{z:α}{s s' t:MSt α}{c:Cmd α}{m m':Mo α}
variable[DecidableEq α]
def sameC(v w:OV α)(k:Nat):Bool:=(List.range k).all λi=>decide (v.c i=w.c i)
def sameV(v w:OV α):Bool:=decide (v.nm=w.nm)&&(decide (v.n=w.n)&&(decide (v.r=w.r)&&sameC v w v.n.toNat))
def sameK(A B:List (OV α))(k:Nat):Bool:=(List.range k).all λi=>match A[i]?,B[i]? with
 |some v,some w=>sameV v w
 |_,_=>false
def sameO(A B:List (OV α)):Bool:=decide (A.length=B.length)&&sameK A B A.length
theorem sameC_bad{v w:OV α}{k n:Nat}(hk:k<n)(h:v.c k≠w.c k):sameC v w n=false:=by
 cases hq:sameC v w n
 ·rfl
 ·exact absurd (Qt (List.all_eq_true.1 hq k (List.mem_range.2 hk))) h
theorem sameK_bad{A B:List (OV α)}{k n:Nat}{v w:OV α}(hk:k<n)(h1:A[k]? =some v)(h2:B[k]? =some w)(h:sameV v w=false):sameK A B n=false:=by
 cases hq:sameK A B n
 ·rfl
 ·have:=List.all_eq_true.1 hq k (List.mem_range.2 hk);rw[h1,h2]at this;simp only at this;rw[h]at this;cases this
theorem sameO_refl(A:List (OV α)):sameO A A=true:=by
 unfold sameO sameK sameV sameC;simp only[decide_true,Bool.true_and,List.all_eq_true,List.mem_range];intro i hi;rw[Qa hi];simp
end
open Go.Shelf
theorem mmcopy_is(X:Nat)(m:Mo Bk)(w:Wd)(hm:MoB w X m)(hl:m.past.length<=10000):
  ep 22 #[.pointer (cw X 0)] w λe w'=>∃X2,e= .returned (.pointer (cw X2 0))/\MoB w' X2 m/\w.heap.size<=X2/\Below w w w':=by
 obtain⟨M,b,pa,pc,ps,hb3,hst,hpa,hlp,hpp⟩:=hm;have hpl:ps.length<=1000000:=by rw[<-hpp,Yy]at hl;omega
 have HBd:=hD (bQ w).drew;have m0:=HBd.o.keep hb3.c0;have m1:=HBd.o.keep hb3.c1;have m2:=HBd.o.keep hb3.c2;have HPA:=hD (hpa.keep HBd.o);have HB3:=hD hb3;have FIN:=hD (λ(w3:Wd) (v:Value) (hb:Below w w w3) (ho:gW w3 w v ps)=>show ∃a c,v= .slice a ps c/\MoB (w3.alloc (cq #[.pointer (cw M 0),.map (some b),.slice a ps c] 90)) w3 m/\Below w w (w3.alloc (cq #[.pointer (cw M 0),.map (some b),.slice a ps c] 90)) from by
  obtain⟨a,c,rfl,hr⟩:=ho.rd hpl;have hk:=(bQ w3).aIw (cq #[.pointer (cw M 0),.map (some b),.slice a ps c] 90)
  exact⟨a,c,rfl,⟨M,b,a,c,ps,Bx3.new _ _ rfl _ _ _ _,(hst.aIx hb).aIx hk,hr.keep hk,(hlp.keep hb).keep hk,hpp⟩,hb.aIw _⟩)
 clear hst hpa hlp hpp hb3 hl hpl;go_enter func22,ntmps22;go_wp2_with fail
 go_region_law (first
  |(go_simp;go_at_call 43;(with_reducible refine(Iw ps pa pc _ HPA.o).m ?_);rintro e w3 ⟨v,rfl,ho,hb⟩;obtain⟨a,c,rfl,hM,hB⟩:=FIN.o w3 v (HBd.o.on hb) ho;have HM:=hD hM;have HB:=hD hB;have hb9:=HBd.o.on hb;have HS:=hD hb9.size;have m3:=hb9.keep HB3.o.c0;have m4:=hb9.keep HB3.o.c1;clear ho hb hb9 hM hB))
 all_goals
  go_wp2_with fail;go_ret;exact⟨_,rfl,HM.o,HS.o,HB.o⟩
def RdNm(w:Wd)(a:OA)(l:List (LU)):Prop:=l=[]∨ ∃g,a=cw g 0/\ ∀k x,l[k]? =some x->w (cw g k)=some (nmV x)
theorem RdNm.keep{w w':Wd}{a:OA}{l:List (LU)}(h:RdNm w a l)(hb:Below w w w'):RdNm w' a l:=
 h.imp id λ⟨g,h1,h2⟩=>⟨g,h1,λk x hk=>hb.keep (h2 k x hk)⟩
theorem Ri.nm{w:Wd}{B:Nat}{v:Value}{l:List (LU)}(h:Ri w B v l):∃a c,v= .slice a l c/\RdNm w a l:=h.rd
theorem below_drawn(w:Wd)(n:Nat):Below w w (w.drewN n):=⟨rfl,rfl,rfl,Ye _,λ_ _=>rfl⟩
theorem ba_inj{a b:LU}(h:ByteArray.mk a.toArray=ByteArray.mk b.toArray):a=b:=by
 injection h with h
 simpa using h
theorem names_eq(l1 l2:List (LU))(a1 a2:OA)(c1 c2:Nat)(w:Wd)(h1:RdNm w a1 l1)(h2:RdNm w a2 l2)(n1:l1.length<=32)(n2:l2.length<=32):
  ep 47 #[.slice a1 l1 c1,.slice a2 l2 c2] w (RB w (.bool (decide (l1=l2)))):=by
 by_cases hl:l1.length=l2.length
 ·rcases h1 with rfl|⟨g1,rfl,h1⟩
  ·have:l2=[]:=Qz hl.symm;subst this;have hc:=Any.slices_Equal_string_empty Tryz.lays193 a1 a2 c1 0 c2 w oM;exact sy4
  ·rcases h2 with rfl|⟨g2,rfl,h2⟩
   ·have:l1=[]:=Qz hl;subst this;have hc:=Any.slices_Equal_string_empty Tryz.lays193 (cw g1 0) a2 c1 0 c2 w oM;exact sy4
   ·have gt:∀(g:Nat) (l:List (LU)),(∀k x,l[k]? =some x->w (cw g k)=some (nmV x))-> ∀j,j<(l.map λx=>ByteArray.mk x.toArray).length->w (cw g (0+j))=some (.string ((l.map λx=>ByteArray.mk x.toArray).getD j ByteArray.empty)):=λg l h j hj=>by
     rw[Yy]at hj;rw[Nat.zero_add,h j _ (Qa hj),Ql,Yw,Qa hj];rfl
    have hc:=Any.slices_Equal_string Tryz.lays193 g1 0 l1.length c1 g2 0 l2.length c2 (l1.map λx=>ByteArray.mk x.toArray) (l2.map λx=>ByteArray.mk x.toArray) w sM sM oM oM (gt g1 l1 h1) (gt g2 l2 h2);refine hc.mono λe w' ⟨q1,q,q2⟩=>⟨?_,by subst q2;exact below_drawn _ _⟩;rw[q1,Qq sM,Qq sM];congr 3;exact propext ⟨λh=>List.map_inj_right (λ_ _=>ba_inj) |>.1 h,λh=>by rw[h]⟩
 ·have hc:=Any.slices_Equal_string_lens Tryz.lays193 a1 a2 l1.length c1 l2.length c2 w hl;refine hc.mono λe w' ⟨q1,q2⟩=>⟨?_,by subst q2;exact bR⟩;rw[q1,Qp (λe=>hl (by rw[e]))]
section
variable{α:Type}{z:α}{s t:MSt α}
theorem seen_info(hF:s.F.ok){i:Nat}{v:OV α}(h:(obS s)[i]? =some v):v.nm.length<=16/\1<=v.n/\(∃y:Vol,y∈s.F.vs/\v=obV s y)/\ ∃a b,dW s.F v.nm=(⟨v.nm,v.n,v.r,a,b⟩,0):=by
 unfold obS at h;rw[Yw,Option.map_eq_some_iff]at h;obtain⟨y,hy,rfl⟩:=h;have hm:=List.mem_of_getElem? hy;exact⟨(pV (hF.vol y hm).name).2,(hF.vol y hm).n1,⟨y,hm,rfl⟩,_,_,aBi hF hm⟩
theorem seen_look(hF:s.F.ok){i:Nat}{v:OV α}(h:(obS s)[i]? =some v)(k:Nat)(hk:(k:Int)<v.n):(aX s.F v.nm k).2.1=(v.c k).isSome/\vF z s v.nm k=(v.c k).getD z:=by
 obtain ⟨_,_,⟨y,hm,rfl⟩,_⟩:=seen_info hF h;have hg:=rH hF.sorted hm;have hb:vF z s y.nm k=((obV s y).c k).getD z:=by
  rw[JO hF _ _ oM,show xZ (obS s) y.nm=some (obV s y) from(Jk s y.nm _).trans (by rw[hg];rfl)];rfl
 refine⟨?_,hb⟩;show(aX s.F y.nm k).2.1=((aF y.l k).map λx=>s.D x.toNat).isSome;unfold aX;rw[hg];simp only;have hi:inB (k:Int) 1 y.n=true:=(iK _ _ _).2 (by have:(k:Int)<y.n:=hk;omega);rw[Qe (by rw[hi];decide),lJ];cases fI y.l (k:Int) <;> rfl
theorem opt_same[DecidableEq α](z:α)(a b:Option α):decide (a=b)=(decide (a.getD z=b.getD z)&&decide (a.isSome=b.isSome)):=by
 cases a <;> cases b <;> simp
theorem names_ob(s:MSt α):s.F.vs.map (·.nm)=(obS s).map (·.nm):=by unfold obS;rw[List.map_map];rfl
theorem sameO_names[DecidableEq α]{A B:List (OV α)}(h:A.map (·.nm)≠B.map (·.nm)):sameO A B=false:=by
 cases hq:sameO A B
 ·rfl
 ·refine absurd ?_ h;unfold sameO at hq;rw[Qd,Qc]at hq;obtain⟨h1,h2⟩:=hq;refine List.ext_getElem? λi=> ?_;rw[Yw,Yw];by_cases hi:i<A.length
  ·have h3:=List.all_eq_true.1 h2 i (List.mem_range.2 hi);rw[Qa hi,Qa oM]at h3 ⊢;simp only at h3;unfold sameV at h3;rw[Qd,Qc]at h3;exact congrArg some h3.1
  ·rw[List.getElem?_eq_none oM,List.getElem?_eq_none oM]
theorem sameC_full[DecidableEq α]{v w:OV α}(k:Nat)(h:∀i,i<k->v.c i=w.c i):sameC v w k=true:=
 List.all_eq_true.2 λi hi=>Qo (h i (List.mem_range.1 hi))
theorem sameK_full[DecidableEq α]{A B:List (OV α)}(k:Nat)(h:∀i,i<k-> ∃v w,A[i]? =some v/\B[i]? =some w/\sameV v w=true):sameK A B k=true:=
 List.all_eq_true.2 λi hi=>by
  obtain⟨v,w,h1,h2,h3⟩:=h i (List.mem_range.1 hi);rw[h1,h2];exact h3
theorem sameV_len[DecidableEq α]{v w:OV α}(h:v.n≠w.n∨v.r≠w.r):sameV v w=false:=by
 unfold sameV;rcases h with h|h
 ·rw[Qp h];simp
 ·rw[Qp h];simp
theorem sameV_bad[DecidableEq α]{v w:OV α}{k:Nat}(hk:(k:Int)<v.n)(h:v.c k≠w.c k):sameV v w=false:=by
 unfold sameV;rw[sameC_bad oM h];simp
theorem sameV_full[DecidableEq α]{v w:OV α}(h0:v.nm=w.nm)(h1:v.n=w.n)(h2:v.r=w.r)(h:∀i:Nat,(i:Int)<v.n->v.c i=w.c i):sameV v w=true:=by
 unfold sameV;rw[Qo h0,Qo h1,Qo h2,sameC_full _ λi hi=>h i oM];rfl
end
theorem mmsame_is(X Y:Nat)(m g:Mo Bk)(w:Wd)(hm:MoB w X m)(hg:MoB w Y g)(sm:m.cur.F.sound)(sg:g.cur.F.sound):
  ep 25 #[.pointer (cw X 0),.pointer (cw Y 0)] w (RB w (.bool (sameO (obS m.cur) (obS g.cur)))):=by
 have HM:=hD hm;have HG:=hD hg;have HSM:=hD sm;have HSG:=hD sg;clear hm hg sm sg;obtain⟨R,hR⟩:∃R,sameO (obS m.cur) (obS g.cur)=R:=⟨_,rfl⟩;rw[hR];have HRS:=hD hR;clear hR;have HNA:=hD (λW h=>Ul X m W h HSM.o.ok);have HNB:=hD (λW h=>Ul Y g W h HSG.o.ok);rw[names_ob m.cur]at HNA;rw[names_ob g.cur]at HNB;obtain⟨L1,hL1⟩:∃L1,(obS m.cur).map (·.nm)=L1:=⟨_,rfl⟩;obtain⟨L2,hL2⟩:∃L2,(obS g.cur).map (·.nm)=L2:=⟨_,rfl⟩;have HE1:=hD hL1;have HE2:=hD hL2;rw[hL1]at HNA;rw[hL2]at HNB;have hl1:L1.length=(obS m.cur).length:=by rw[<-hL1,Yy]
 have hl2:L2.length=(obS g.cur).length:=by rw[<-hL2,Yy]
 have hl3:L1.length<=32:=by rw[hl1];unfold obS;rw[Yy];exact HSM.o.ok.few
 have hl4:L2.length<=32:=by rw[hl2];unfold obS;rw[Yy];exact HSG.o.ok.few
 have HL1:=hD hl1;have HL2:=hD hl2;have HL4:=hD hl4;clear hL1 hL2 hl1 hl2 hl4;go_enter func25,ntmps25;go_wp2_with fail;refine(HNA.o w HM.o).m ?_;rintro e w1 ⟨v1,rfl,ho1,hb1⟩;obtain⟨a1,c1,rfl,hr1⟩:=ho1.nm;have HN1:=hD hr1;have HB1:=hD hb1;clear ho1 hr1 hb1 HNA;go_wp2_with fail;refine(HNB.o w1 (HG.o.aIx HB1.o)).m ?_;rintro e w2 ⟨v2,rfl,ho2,hb2⟩;obtain⟨a2,c2,rfl,hr2⟩:=ho2.nm;have HN2:=hD hr2;replace HN1:=hD (HN1.o.keep hb2);have HB2:=hD (HB1.o.on hb2);clear ho2 hr2 hb2 HB1 HNB;go_wp2_with fail;refine(names_eq L1 L2 a1 a2 c1 c2 w2 HN1.o HN2.o hl3 HL4.o).m ?_;rintro e w3 ⟨rfl,hb3⟩;replace HN1:=hD (HN1.o.keep hb3);have HB3:=hD (HB2.o.on hb3);clear hb3 HB2 HN2;by_cases hne:L1=L2
 ·subst hne;rw[Qo rfl];go_wp2_with fail;go_loopw [37] (λi wr=>∃k:Nat,k<=L1.length/\i= .int .i64 k/\Hid (∀j,j<k-> ∃v u,(obS m.cur)[j]? =some v/\(obS g.cur)[j]? =some u/\sameV v u=true)/\Below w3 w3 wr) (λi _=>L1.length-(intOf i).toNat)
  case atStart=>exact⟨0,Yf _,rfl,hD (λj hj=>by omega),bR⟩
  case round=>
   obtain⟨k,hk,rfl,hsm,hbr⟩:=hrel;have HBR:=hD hbr;clear hbr;by_cases hlt:k<L1.length
   ·obtain ⟨v,hv⟩:∃v,(obS m.cur)[k]? =some v:=⟨_,Qa (by have:=HL1.o;omega)⟩;obtain⟨u,hu⟩:∃u,(obS g.cur)[k]? =some u:=⟨_,Qa (by have:=HL2.o;omega)⟩;have hk1:L1[k]? =some v.nm:=by rw[<-HE1.o,Yw,hv];rfl
    have hk2:L1[k]? =some u.nm:=by rw[<-HE2.o,Yw,hu];rfl
    have hun:v.nm=u.nm:=Qv (hk1.symm.trans hk2);obtain⟨hnl,hn1,hvy,ia,ib,hinf⟩:=seen_info HSM.o.ok hv;obtain⟨_,_,huy,ja,jb,hing⟩:=seen_info HSG.o.ok hu;rw[<-hun]at hing;have hvn:v.n<=255:=by obtain⟨y,hy,rfl⟩:=hvy;exact HSM.o.small y hy
    obtain⟨G,rfl,hcells⟩:=HN1.o.resolve_left (λe=>by rw[e]at hlt;simp at hlt);have z7:=HBR.o.keep (hcells k _ hk1);have HLV:=hD (λ(i:Nat) (hi:(i:Int)<v.n)=>seen_look (z:=Bk.zero) HSM.o.ok hv i hi);have HLU:=hD (λ(i:Nat) (hi:(i:Int)<u.n)=>seen_look (z:=Bk.zero) HSG.o.ok hu i hi);rw[<-hun]at HLU;have hnm9:v.nm.length<=maxLen:=by simp only[maxLen];omega
    have HV:=hD hv;have HU:=hD hu;have HUN:=hD hun;have HI1:=hD (λW h=>Um X m v.nm W h HSM.o hnm9 _ _ hinf);have HI2:=hD (λW h=>Um Y g v.nm W h HSG.o hnm9 _ _ hing);unfold Bn aFc at HI1 HI2;simp only at HI1 HI2;have HNM:=hD hnm9;have HK1:=hD (show v.n.toNat<=255/\(v.n.toNat:Int)=v.n by omega);clear hk1 hk2 hun hnl hn1 hvy hinf huy hing hcells hv hu hnm9 hvn;obtain⟨nm,vn,vr,vc⟩:=v;obtain⟨unm,un,ur,uc⟩:=u;simp only at z7 HI1 HI2 HLV HLU HNM HUN HK1;have HBW:=hD (HB3.o.on HBR.o);go_wp2_with fail;refine(HI1.o _ (HM.o.aIx HBW.o)).m ?_;rintro e w4 ⟨rfl,hb⟩;have hk4:=hb.aIw (cq #[nmV nm,vn,vr,ia,ib] 94);have HB4:=hD (HBW.o.on hk4);have HR4:=hD (HBR.o.on hk4);have HT8:=hD (IT.new w4 _ rfl ⟨nm,vn,vr,ia,ib⟩ 94);clear hb hk4 z7 HBR HBW HI1;go_upto_region 10 with fail;generalize w4.alloc (cq #[nmV nm,vn,vr,ia,ib] 94)=W4 at *;generalize w4.heap.size=T8 at *;go_wp2_with fail;refine(HI2.o _ (HG.o.aIx HB4.o)).m ?_;rintro e w5 ⟨rfl,hb⟩;have hk5:=hb.aIw (cq #[nmV nm,un,ur,ja,jb] 94);have HB5:=hD (HB4.o.on hk5);have HR5:=hD (HR4.o.on hk5);replace HT8:=hD (HT8.o.aIx hk5);have HT10:=hD (IT.new w5 _ rfl ⟨nm,un,ur,ja,jb⟩ 94);clear hb hk5 HB4 HR4 HI2;go_upto_region 11 with fail;generalize w5.alloc (cq #[nmV nm,un,ur,ja,jb] 94)=W5 at *;generalize w5.heap.size=T10 at *;have t1:=HT8.o.t1;have t2:=HT8.o.t2;have s1:=HT10.o.t1;have s2:=HT10.o.t2;simp only at t1 t2 s1 s2;by_cases hd:vn≠un∨vr≠ur
    ·obtain rfl:R=false:=by
      rw[<-HRS.o];unfold sameO;rw[sameK_bad (by rw[<-HL1.o];exact hlt) HV.o HU.o (sameV_len hd),Bool.and_false]
     by_cases hd1:vn=un
     ·have hd2:(vr != ur)=true:=by
       rcases hd with hd|hd
       ·exact absurd hd1 hd
       ·simpa using hd
      subst hd1;clear hd;go_wp2_with fail;go_ret;exact⟨rfl,HB5.o⟩
     ·have hd2:(vn != un)=true:=by simpa using hd1
      clear hd;go_wp2_with fail;go_ret;exact⟨rfl,HB5.o⟩
    ·obtain rfl:vn=un:=Decidable.not_not.1 λe=>hd (.inl e);obtain rfl:vr=ur:=Decidable.not_not.1 λe=>hd (.inr e);clear hd;obtain⟨n,hn⟩:∃n:Nat,vn=(n:Int):=⟨vn.toNat,HK1.o.2.symm⟩;subst hn;have hn255:n<=255:=by have:=HK1.o.1;simpa using this
     go_wp2_with fail;clear t1 t2 s1 s2 HT8 HT10;go_loopw [67] (λi wr=>∃j:Nat,j<=n/\i= .int .i64 j/\Hid (∀q,q<j->vc q=uc q)/\Below W5 W5 wr) (λi _=>n-(intOf i).toNat)
     case atStart=>exact⟨0,Yf _,rfl,hD (λj hj=>by omega),bR⟩
     case round=>
      obtain⟨j,hj,rfl,hsc,hbr⟩:=hrel;have HBJ:=hD (HB5.o.on hbr);have HRJ:=hD (HR5.o.on hbr);have HWJ:=hD hbr;clear hbr;by_cases hjn:j<n
      ·have hj64:gJ (j:Int):=⟨oM,oM⟩;obtain⟨hl1,hb1⟩:=HLV.o j oM;obtain⟨hl2,hb2⟩:=HLU.o j oM;obtain⟨x,hx⟩:∃x,(vc j).getD Bk.zero=x:=⟨_,rfl⟩;obtain⟨y,hy⟩:∃y,(uc j).getD Bk.zero=y:=⟨_,rfl⟩;obtain⟨p1,hp1⟩:∃p1,(vc j).isSome=p1:=⟨_,rfl⟩;obtain⟨p2,hp2⟩:∃p2,(uc j).isSome=p2:=⟨_,rfl⟩;rw[hx]at hb1;rw[hy]at hb2;rw[hp1]at hl1;rw[hp2]at hl2;obtain⟨e1,he1⟩:∃e1,(aX m.cur.F nm j).2.2=e1:=⟨_,rfl⟩;obtain⟨e2,he2⟩:∃e2,(aX g.cur.F nm j).2.2=e2:=⟨_,rfl⟩;obtain⟨M1,b1,_,_,_,hb3,hst,_⟩:=HM.o.aIx HBJ.o;have m0:=hb3.c0;have m1:=hb3.c1;have HC1:=hD (Hr M1 b1 m.cur nm j wr HSM.o.ok hst HNM.o hj64 x hb1);rw[hl1,he1]at HC1;have HC2:=hD (λM b W (h:StM W M b g.cur)=>Hr M b g.cur nm j W HSG.o.ok h HNM.o hj64 y hb2);rw[hl2,he2]at HC2;have HEQ:=hD (opt_same Bk.zero (vc j) (uc j));rw[hx,hy,hp1,hp2]at HEQ;clear hl1 hb1 hl2 hb2 hx hy hp1 hp2 he1 he2 hb3 hst hj64;unfold aHu at HC1 HC2;unfold Bk.v at HC1 HC2;go_wp2_with fail;refine HC1.o.m ?_;rintro e w6 ⟨rfl,hb⟩;have hk6:=hb.aIw (.cells (iW x) 56);have HB6:=hD (HBJ.o.on hk6);have HR6:=hD (HRJ.o.on hk6);have HW6:=hD (HWJ.o.on hk6);have HX6:=hD (RB8.new w6 w6 x 56 bR);clear hb hk6 m0 m1 HC1 HBJ HRJ HWJ;go_upto_region 17 with fail;generalize w6.alloc (cq #[.int .u8 x.x0,.int .u8 x.x1,.int .u8 x.x2,.int .u8 x.x3,.int .u8 x.x4,.int .u8 x.x5,.int .u8 x.x6,.int .u8 x.x7] 56)=W6 at HB6 HR6 HW6 HX6 ⊢;generalize w6.heap.size=T13 at HX6 ⊢;obtain⟨M2,b2,_,_,_,hb3,hst,_⟩:=HG.o.aIx HB6.o;have m0:=hb3.c0;have m1:=hb3.c1;have HC3:=hD (HC2.o M2 b2 W6 hst);clear hb3 hst HC2;go_wp2_with fail;refine HC3.o.m ?_;rintro e w7 ⟨rfl,hb⟩;have hk7:=hb.aIw (.cells (iW y) 56);have HB7:=hD (HB6.o.on hk7);have HR7:=hD (HR6.o.on hk7);have HW7:=hD (HW6.o.on hk7);have HX7:=hD (HX6.o.aIx hk7);have HY7:=hD (RB8.new w7 w7 y 56 bR);clear hb hk7 m0 m1 HC3 HB6 HR6 HW6 HX6;go_upto_region 18 with fail;generalize w7.alloc (cq #[.int .u8 y.x0,.int .u8 y.x1,.int .u8 y.x2,.int .u8 y.x3,.int .u8 y.x4,.int .u8 y.x5,.int .u8 y.x6,.int .u8 y.x7] 56)=W7 at HB7 HR7 HW7 HX7 HY7 ⊢;generalize w7.heap.size=T16 at HY7 ⊢;obtain⟨g0,g1,g2,g3,g4,g5,g6,g7⟩:=HX7.o.at';simp only[Nat.zero_mul,Nat.zero_add]at g0 g1 g2 g3 g4 g5 g6 g7;have gf:=HX7.o.f;obtain⟨h0,h1,h2,h3,h4,h5,h6,h7⟩:=HY7.o.at';simp only[Nat.zero_mul,Nat.zero_add]at h0 h1 h2 h3 h4 h5 h6 h7;have hneq:=λW=>uY x y 9998 W;unfold Bk.v at hneq;simp only[Nat.reduceAdd]at hneq;by_cases hxy:x=y
       ·rw [Qo hxy]at HEQ hneq;subst hxy;by_cases hp:p1=p2
        ·have hvu:vc j=uc j:=by
          have:=HEQ.o;rw[Qo hp]at this
          simpa using this
         subst hp;clear HEQ;cases p1
         all_goals
          go_wp2_with fail;go_roundw
          case rel=>exact⟨j+1,oM,by go_num,hD (λi hi=>by
           by_cases e:i=j
           ·subst e;exact hvu
           ·exact hsc.o i oM),HW7.o⟩
          case measure=>simp[intOf];omega
        ·obtain rfl:R=false:=by
          rw [<-HRS.o];unfold sameO;rw[sameK_bad (by rw[<-HL1.o];exact hlt) HV.o HU.o (sameV_bad (k:=j) (by show(j:Int)<(n:Int);omega) (by
           have:=HEQ.o;rw[Qp hp]at this
           simpa using this)),Bool.and_false]
         clear HEQ;cases p1
         ·obtain rfl:p2=true:=by cases p2 <;> simp at hp ⊢
          clear hp;go_wp2_with fail;go_ret;exact⟨rfl,HB7.o⟩
         ·obtain rfl:p2=false:=by cases p2 <;> simp at hp ⊢
          clear hp;go_wp2_with fail;go_ret;exact⟨rfl,HB7.o⟩
       ·rw [Qp hxy]at HEQ hneq;clear hxy;obtain rfl:R=false:=by
         rw [<-HRS.o];unfold sameO;rw[sameK_bad (by rw[<-HL1.o];exact hlt) HV.o HU.o (sameV_bad (k:=j) (by show(j:Int)<(n:Int);omega) (by
          have:=HEQ.o
          simpa using this)),Bool.and_false]
        go_wp2_with fail;go_ret;exact⟨rfl,HB7.o⟩
      ·obtain rfl:j=n:=oM
       go_wp2_with fail;go_roundw
       case rel=>exact⟨k+1,oM,by go_num,hD (λi hi=>by
        by_cases e:i=k
        ·subst e;exact⟨_,_,HV.o,HU.o,sameV_full HUN.o rfl rfl λi hi=>hsc.o i (by simp only at hi;omega)⟩
        ·exact hsm.o i oM),HRJ.o⟩
       case measure=>simp[intOf];omega
   ·obtain rfl:k=L1.length:=oM
    obtain rfl:R=true:=by
     rw[<-HRS.o];unfold sameO;rw[Qo (HL1.o.symm.trans HL2.o),<-HL1.o,sameK_full _ hsm.o];rfl
    go_wp2_with fail;go_ret;exact⟨rfl,HB3.o.on HBR.o⟩
 ·obtain rfl:R=false:=by rw[<-HRS.o];exact sameO_names (A:=obS m.cur) (B:=obS g.cur) (by rw[HE1.o,HE2.o];exact hne)
  rw[Qp hne];clear hne;go_wp2_with fail;go_ret;exact⟨rfl,HB3.o⟩
theorem MoB.odM{W:Wd}{X:Nat}{m:Mo Bk}(h:MoB W X m):OdM W X:=by
 obtain⟨M,b,a,c,ps,h1,_⟩:=h;exact h1.odM dE dE dE
end
end Go.Proofs.YtphfgbbbejloaaaGreatDoor
