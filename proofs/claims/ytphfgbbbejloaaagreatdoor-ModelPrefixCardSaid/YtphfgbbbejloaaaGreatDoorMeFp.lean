/- package model: the note of a transaction and what it leaves (plain); block. Conditions: as each theorem says. -/
import Derived.Test.YtphfgbbbejloaaaGreatDoorMeCp
import Derived.Test.YtphfgbbbejloaaaGreatDoorMqDp
set_option linter.unusedSimpArgs false
set_option linter.unusedVariables false
set_option linter.unusedSectionVars false
set_option maxRecDepth 100000
set_option maxHeartbeats 16000000
namespace Go.Proofs.YtphfgbbbejloaaaGreatDoor
open Go.RowKit Go.Maps
open Go.Proofs.Tryz
variable[Gst]
theorem zY{P:Prop}(h:P:=by simp[results,results75,go_sem]):P:=h
theorem VS{P:Prop}(h:P:=by rw[<-hW];exact HC.o):P:=h
theorem aDx{P:Prop}(h:P:=by
  clear hW;have b0:=HC.o.bx.c0;have c1:=HC.o.cb.c1;have c4:=HC.o.cb.c4;have c5:=HC.o.cb.c5;have c6:=HC.o.cb.c6;have c7:=HC.o.cb.c7;have c8:=HC.o.cb.c8;simp only at c1 c4 c5 c6 c7 c8;go_wp2_with fail;refine(HU.o _ HC.o.st.1).m ?_;rintro e w1 ⟨na,nc,rfl,hr,hb⟩;have HR:=hD hr;have HB:=hD (HC.o.g.on hb);clear hr hb b0 c1 c4 c5 c6 c7 c8 HC;go_wp2_with fail;refine Yg (v:= .tuple #[sn,.slice na R nc,y]) zY rfl ?_;exact⟨none,0,na,nc,rfl,rW.nil _ _,HR.o,HB.o⟩
  ):P:=h
theorem Rq{P:Prop}(h:P:=by
  clear hW;have b0:=HC.o.bx.c0;have c1:=HC.o.cb.c1;have c4:=HC.o.cb.c4;have c5:=HC.o.cb.c5;have c6:=HC.o.cb.c6;have c7:=HC.o.cb.c7;have c8:=HC.o.cb.c8;simp only at c1 c4 c5 c6 c7 c8;go_wp2_with fail;refine(HU.o _ HC.o.st.1).m ?_;rintro e w1 ⟨na,nc,rfl,hr,hb⟩;have HR:=hD hr;have HB:=hD (HC.o.g.on hb);clear hr hb b0 c1 c4 c5 c6 c7 c8 HC;go_wp2_with fail;refine Yg (v:= .tuple #[sn,.slice na R nc,x]) zY rfl ?_;exact⟨none,0,na,nc,rfl,rW.nil _ _,HR.o,HB.o⟩
  ):P:=h
def aEz(c:Cmd Bk):LU:=if c.kd=3 then uD c.vol c.p c.n else if c.kd=5 then uF c.vol c.n c.p else if c.kd=6 then uG c.vol c.oth else uE c.vol
theorem Xq{p n:Int}(hp:0<=p/\p<=65536)(hn:0<=n/\n<=65536):(numsL [p,n]).length<=6:=by
 unfold numsL;simp only[List.flatMap_cons,List.flatMap_nil,List.append_nil,Qg];have:=uT (x:=p) hp.1 oM;have:=uT (x:=n) hn.1 oM;omega
theorem DC{F G:Fam}{e:Int}(he:e=0)(hr:0<=dC G):Dl F G e []=(G,0):=by
 unfold Dl;rw[Qe oM,Qe sM,Qe oM]
theorem Cm{c:Cmd Bk}(h:c.valid=true):(c.kd=3->0<=c.p/\c.p<=65536/\0<=c.n/\c.n<=65536)/\(c.kd=5->0<=c.p/\c.p<=65536/\0<=c.n/\c.n<=65536)/\(c.kd=2->(c.data.length:Int)=c.n/\1<=c.n/\c.n<=16/\0<=c.p/\c.p+c.n<=65536):=by
 unfold Cmd.valid at h;simp only[Qd]at h;have hk:=h.2.2;unfold Cmd.aJj at hk;refine⟨λk=> ?_,λk=> ?_,λk=> ?_⟩
 ·rw[Qe oM,Qe oM,Qf k]at hk;simp only[Qd,lK,Qc]at hk;omega
 ·rw[Qe oM,Qe oM,Qe oM,Qe oM,Qf k]at hk;simp only[Qd,Qc]at hk;omega
 ·rw[Qe oM,Qf k]at hk;simp only[Qd,lK,Qc]at hk;omega
theorem vI{c:Cmd Bk}(h:c.valid=true):c.kd≠4->c.vol.length<=16:=λk=>(pV ((tQ h).2.1 k)).2
theorem Gn{c:Cmd Bk}(h:c.valid=true):c.kd=6->c.oth.length<=16:=λk=>(pV ((tQ h).2.2 k)).2
theorem Lv{F:Fam}(hF:F.sound)(ho:F.once){c:Cmd Bk}(hv:c.valid=true)(hk:c.kd=3∨c.kd=5∨c.kd=6∨c.kd=7)(h5:c.kd=5->c.n<=255)(he:fE F c=0):lH F (aEz c)=(Ca F c,0):=by
 have hr:=(Mt hF ho c h5 oM he).1.room;have hnm:=vI hv oM;obtain⟨v3,v5,_⟩:=Cm hv;unfold fE at he;unfold aEz;unfold Ca at hr ⊢;rcases hk with k|k|k|k
 ·obtain ⟨q1,q2,q3,q4⟩:=v3 k;rw[Qe oM,Qe oM,Qf k]at he;rw[Qf k]at hr ⊢;rw[Qf k,ZI _ _ _ _ (by
   have:=Xq (p:=c.p) (n:=c.n) ⟨q1,q2⟩ ⟨q3,q4⟩;unfold uD;rw[Qg,EI 2 _ oM oM]
   omega) oM ⟨q1,q2⟩ ⟨q3,q4⟩]
  exact DC he hr
 ·obtain ⟨q1,q2,q3,q4⟩:=v5 k;rw[Qe oM,Qe oM,Qe oM,Qf k]at he;rw[Qe oM,Qf k]at hr ⊢;rw[Qe oM,Qf k,ZL _ _ _ _ (by
   have:=Xq (p:=c.n) (n:=c.p) ⟨q3,q4⟩ ⟨q1,q2⟩;unfold uF;rw[Qg,EI 3 _ oM oM]
   omega) oM ⟨q3,q4⟩ ⟨q1,q2⟩]
  exact DC (xN he).1 hr
 ·have hot:=Gn hv k;rw[Qe oM,Qe oM,Qe oM,Qe oM,Qf k]at he;rw[Qe oM,Qe oM,Qf k]at hr ⊢;rw[Qe oM,Qe oM,Qf k,ZM _ _ _ (by
   unfold uG AV;rw[Qg,EI 4 _ oM oM,Qg,yM oM]
   omega) oM oM]
  exact DC (xQ he).1 hr
 ·rw [Qe oM,Qe oM,Qe oM,Qe oM,Qe oM,Qf k]at he;rw[Qe oM,Qe oM,Qe oM,Qf k]at hr ⊢;rw[Qe oM,Qe oM,Qe oM,ZK _ _ (by
   unfold uE;rw[EI 5 _ oM oM]
   omega) oM]
  exact DC he hr
theorem UI(F:Fam)(i0:Int)(b0:Bool)(e0:Int)(fv:Value)(nm:LU)(p:Int)(w:Wd)(hF:F.ok)(h:bG w fv F)(hn:nm.length<=maxLen)(hp:gJ p)(he:aX F nm p=(i0,b0,e0)):
  ep 79 #[fv,nmV nm,p] w (RB w (.tuple #[i0,.bool b0,e0])):=by
 have:=zC F fv nm p w hF h hn hp
 rwa [he]at this
theorem Jn(M b:Nat)(s:MSt Bk)(w:Wd)(h:StM w M b s):
  ep 54 #[stV M b] w λe w'=>∃fv,e= .returned fv/\bG w' fv s.F/\Below w w w':=by
 have hk:=((bQ w).aIw (cq #[.pointer (cw M 0),.map (some b)] 87)).aIw (cq #[sn,.map none] 121);have HM:=hD (h.1.aIx hk);have HR:=hD (RF.new w (w.alloc (cq #[.pointer (cw M 0),.map (some b)] 87)) 121 bL);have HK:=hD hk;clear h hk;go_enter func54,ntmps54;go_wp2_with fail;refine(Pe M s.F _ HM.o).m ?_;rintro e w1 ⟨fv,rfl,hf,hb⟩;obtain⟨a,c,m,rfl⟩:=hf.form;have HR1:=hD (HR.o.aIx hb);have HF1:=hD (HR1.o.fam (u:= .slice a s.F.N c) (v:= .map m) hf);clear hf hb HM HR;have e1:(w.alloc (cq #[.pointer (cw M 0),.map (some b)] 87)).heap.size=w.heap.size+1:=by simp
 rw[e1]at HR1 HF1;have r0:=HR1.o.r0;have r1:=HR1.o.r1;have f0:=HR1.o.f0;have f1:=HR1.o.f1;clear e1;go_wp2_with fail;obtain⟨j0,j1⟩:=HR1.o.cells (u:= .slice a s.F.N c) (v:= .map m);refine br (.agg #[.slice a s.F.N c,.map m]) ?_;exact⟨_,rfl,HF1.o,HR1.o.below⟩
abbrev iW(x:Bk):Array Value:= #[.int .u8 x.x0,.int .u8 x.x1,.int .u8 x.x2,.int .u8 x.x3,.int .u8 x.x4,.int .u8 x.x5,.int .u8 x.x6,.int .u8 x.x7]
structure RB8(w W:Wd)(R:Nat)(x:Bk):Prop where
 at':zM W R 0 0 x
 f:∀i,W.frozen? (cw R i)=false
 le:w.heap.size<=R
 g:Below w w W
theorem RB8.lt{w W:Wd}{R:Nat}{x:Bk}(h:RB8 w W R x):R<W.heap.size:=Qj W (cw R (0+0*8)) h.at'.c0
theorem RB8.aIx{w W W':Wd}{R:Nat}{x:Bk}(h:RB8 w W R x)(hb:Below W W W'):RB8 w W' R x:=
 ⟨h.at'.keep hb,λi=>(World.frozen?_of_block (hb.block R h.lt)).trans (h.f i),h.le,h.g.on hb⟩
theorem RB8.new(w W:Wd)(x:Bk)(t:TypeId)(h:Below w w W):RB8 w (W.alloc (.cells (iW x) t)) W x:=
 ⟨⟨sM,sM,sM,sM,sM,sM,sM,sM⟩,λi=>by simp,h.size,h.aIw _⟩
abbrev yQ(W:Wd)(R:Nat)(y:Bk):Wd:=(((((((W.setCell (cw R 0) (.int .u8 y.x0)).setCell (cw R 1) (.int .u8 y.x1)).setCell (cw R 2) (.int .u8 y.x2)).setCell (cw R 3) (.int .u8 y.x3)).setCell (cw R 4) (.int .u8 y.x4)).setCell (cw R 5) (.int .u8 y.x5)).setCell (cw R 6) (.int .u8 y.x6)).setCell (cw R 7) (.int .u8 y.x7)
def zZ(W:Wd)(R:Nat)(k:Nat):List Value->Wd
 | []=>W
 |v::r=>zZ (W.setCell (cw R k) v) R (k+1) r
theorem Tp(R off:Nat)(vs:List Value):∀(W:Wd) (k:Nat),off<k->(zZ W R k vs).cell? (cw R off)=W (cw R off):=by
 induction vs with
 |nil=>intro W k _;rfl
 | cons v r ih=>
  intro W k hk;rw[zZ,ih _ _ oM,Qk _ _ _ _ (λe=>by have:=(Addr.mk.inj e).2.1;omega)]
theorem VZ(R:Nat)(vs:List Value):∀(W:Wd) (k j:Nat),(∀i,i<vs.length->(W (cw R (k+i))).isSome=true)-> ∀v,vs[j]? =some v->(zZ W R k vs).cell? (cw R (k+j))=some v:=by
 induction vs with
 |nil=>intro W k j _ v hv;simp at hv
 | cons u r ih=>
  intro W k j h v hv
  cases j with
  | zero=>
   simp at hv;subst hv;rw[zZ,Tp _ _ _ _ _ oM];obtain⟨z,hz⟩:=Option.isSome_iff_exists.1 (h 0 sM);exact Qi _ _ _ hz
  | succ j=>
   rw[zZ,show k+(j+1)=(k+1)+j by omega];refine ih _ _ _ (λi hi=> ?_) v (by simpa using hv);rw[Qk _ _ _ _ (λe=>by have:=(Addr.mk.inj e).2.1;omega)];have:=h (i+1) (by simpa using hi)
   rwa [show k+(i+1)=k+1+i by omega]at this
theorem Ja(R:Nat)(vs:List Value)(a:Addr):∀(W:Wd) (k:Nat),(zZ W R k vs).frozen? a=W.frozen? a:=by
 induction vs with
 |nil=>intro W k;rfl
 |cons v r ih=>intro W k;rw[zZ,ih,Qb]
theorem KE{w:Wd}{R:Nat}(hR:w.heap.size<=R)(vs:List Value):∀(W:Wd) (k:Nat),Below w w W->Below w w (zZ W R k vs):=by
 induction vs with
 |nil=>intro W k h;exact h
 |cons v r ih=>intro W k h;exact ih _ _ (h.setCell hR _)
theorem RB8.put{w W:Wd}{R:Nat}{x:Bk}(h:RB8 w W R x)(y:Bk):RB8 w (yQ W R y) R y:=by
 have hs:∀i,i<([Value.int .u8 y.x0,.int .u8 y.x1,.int .u8 y.x2,.int .u8 y.x3,.int .u8 y.x4,.int .u8 y.x5,.int .u8 y.x6,.int .u8 y.x7]:List Value).length->(W (cw R (0+i))).isSome=true:=by
  obtain⟨c0,c1,c2,c3,c4,c5,c6,c7⟩:=h.at';simp only[Nat.zero_mul,Nat.zero_add]at c0 c1 c2 c3 c4 c5 c6 c7;intro i hi;simp only[List.length_cons,List.length_nil,Nat.zero_add]at hi ⊢
  match i,hi with
  |0,_=>rw[c0];rfl
  |1,_=>rw[c1];rfl
  |2,_=>rw[c2];rfl
  |3,_=>rw[c3];rfl
  |4,_=>rw[c4];rfl
  |5,_=>rw[c5];rfl
  |6,_=>rw[c6];rfl
  |7,_=>rw[c7];rfl
 have hk:=λj v hv=>VZ R [.int .u8 y.x0,.int .u8 y.x1,.int .u8 y.x2,.int .u8 y.x3,.int .u8 y.x4,.int .u8 y.x5,.int .u8 y.x6,.int .u8 y.x7] W 0 j hs v hv;exact⟨⟨hk 0 _ rfl,hk 1 _ rfl,hk 2 _ rfl,hk 3 _ rfl,hk 4 _ rfl,hk 5 _ rfl,hk 6 _ rfl,hk 7 _ rfl⟩,λi=>(Ja R [.int .u8 y.x0,.int .u8 y.x1,.int .u8 y.x2,.int .u8 y.x3,.int .u8 y.x4,.int .u8 y.x5,.int .u8 y.x6,.int .u8 y.x7] _ W 0).trans (h.f i),h.le,KE h.le [.int .u8 y.x0,.int .u8 y.x1,.int .u8 y.x2,.int .u8 y.x3,.int .u8 y.x4,.int .u8 y.x5,.int .u8 y.x6,.int .u8 y.x7] W 0 h.g⟩
def aHu(x:Bk)(q:Bool)(e0:Int)(w:Wd)(e:Ending)(w':Wd):Prop:=e= .returned (.tuple #[x.v,.bool q,e0])/\Below w w w'
theorem Hr(M b:Nat)(s:MSt Bk)(nm:LU)(p:Int)(w:Wd)(hF:s.F.ok)(h:StM w M b s)(hn:nm.length<=maxLen)(hp:gJ p)(x:Bk)(hx:vF Bk.zero s nm p=x):
  ep 44 #[stV M b,nmV nm,p] w (aHu x (aX s.F nm p).2.1 (aX s.F nm p).2.2 w):=by
 obtain⟨i0,b0,e0,hl⟩:∃i0 b0 e0,aX s.F nm p=(i0,b0,e0):=⟨_,_,_,rfl⟩;have hk0:=(bQ w).aIw (cq #[.pointer (cw M 0),.map (some b)] 87);have hB:=Bx.new w _ rfl (.pointer (cw M 0)) (.map (some b)) 87;have hk1:=(Below.refl (w.alloc (cq #[.pointer (cw M 0),.map (some b)] 87)).heap.size (w.alloc (cq #[.pointer (cw M 0),.map (some b)] 87))).aIw (.cells (iW Bk.zero) 56);have HX:=hD (hB.aIx hk1);have HS:=hD ((h.aIx hk0).aIx hk1);have e1:(w.alloc (cq #[.pointer (cw M 0),.map (some b)] 87)).heap.size=w.heap.size+1:=by simp
 have HR:=hD (RB8.new w _ Bk.zero 56 hk0);rw[e1]at HR;rw[hl];have hxx:x=if b0=true then s.D i0.toNat else Bk.zero:=by
  rw[<-hx];unfold vF;rw[hl]
 have HXX:=hD hxx;have HFIT:Hid (b0=true->0<=i0/\i0<65536):=hD λq=>by
  have:=uJ hF nm p (by rw[hl];exact q);rw[hl]at this;have h3:=hF.hN;simp only at this;omega
 have HLK:=hD (λfv W hf=>UI s.F i0 b0 e0 fv nm p W hF hf hn hp hl);have HER:Hid (b0=true->e0=0):=hD λq=>by
  unfold aX at hl
  cases hv:aN s.F.vs nm with
  |none=>rw[hv]at hl;simp only[Prod.mk.injEq]at hl;rw[<-hl.2.1]at q;cases q
  | some v=>
   rw[hv]at hl;simp only at hl
   split at hl
   ·simp only[Prod.mk.injEq]at hl;rw[<-hl.2.1]at q;cases q
   ·simp only[Prod.mk.injEq]at hl;exact hl.2.2.symm
 unfold aHu;simp only;clear hB hk0 hk1 h hx hl hxx hF e1;go_enter func44,ntmps44;have x0:=HX.o.c0;have x1:=HX.o.c1;go_upto_region 1 with fail;obtain⟨W0,hW0⟩:∃W0,(w.alloc (cq #[.pointer (cw M 0),.map (some b)] 87)).alloc (.cells (iW Bk.zero) 56)=W0:=⟨_,rfl⟩;rw[hW0]at HX HS HR x0 x1;have hW1:(w.alloc (cq #[.pointer (cw M 0),.map (some b)] 87)).alloc (cq #[.int .u8 0,.int .u8 0,.int .u8 0,.int .u8 0,.int .u8 0,.int .u8 0,.int .u8 0,.int .u8 0] 56)=W0:=hW0
 try rw[hW1]
 clear hW0 hW1;go_wp2_with fail;refine(Jn M b s _ HS.o).m ?_;rintro e w1 ⟨fv,rfl,hf,hb⟩;have HR1:=hD (HR.o.aIx hb);have HX1:=hD (HX.o.aIx hb);have HS1:=hD (HS.o.aIx hb);have HF1:=hD hf;clear hb hf x0 x1 HR HX HS;go_wp2_with fail;refine(HLK.o _ _ HF1.o).m ?_;rintro e w2 ⟨rfl,hb⟩;have HR2:=hD (HR1.o.aIx hb);have HX2:=hD (HX1.o.aIx hb);have HS2:=hD (HS1.o.aIx hb);clear hb HR1 HX1 HS1 HF1 HLK;cases b0
 ·have hx0:x=Bk.zero:=HXX.o;subst hx0;by_cases he:e0=0
  ·subst he;obtain⟨g0,g1,g2,g3,g4,g5,g6,g7⟩:=HR2.o.at';simp only[Nat.zero_mul,Nat.zero_add]at g0 g1 g2 g3 g4 g5 g6 g7;have gf:=HR2.o.f;go_wp2_with fail;have HP:=hD (HR2.o.put Bk.zero);show bodyPost _ _ _ _ _ (yQ w2 (cf w) Bk.zero);clear g0 g1 g2 g3 g4 g5 g6 g7 gf;generalize yQ w2 (cf w) Bk.zero=w3 at *;obtain⟨g0,g1,g2,g3,g4,g5,g6,g7⟩:=HP.o.at';simp only[Nat.zero_mul,Nat.zero_add]at g0 g1 g2 g3 g4 g5 g6 g7;have gf:=HP.o.f;refine br (.tuple #[Bk.zero.v,false,oo]) ?_;exact⟨rfl,HP.o.g⟩
  ·have he2:(e0 != 0)=true:=by simpa using he
   obtain⟨g0,g1,g2,g3,g4,g5,g6,g7⟩:=HR2.o.at';simp only[Nat.zero_mul,Nat.zero_add]at g0 g1 g2 g3 g4 g5 g6 g7;have gf:=HR2.o.f;go_wp2_with fail;have HP:=hD (HR2.o.put Bk.zero);show bodyPost _ _ _ _ _ (yQ w2 (cf w) Bk.zero);clear g0 g1 g2 g3 g4 g5 g6 g7 gf;generalize yQ w2 (cf w) Bk.zero=w3 at *;obtain⟨g0,g1,g2,g3,g4,g5,g6,g7⟩:=HP.o.at';simp only[Nat.zero_mul,Nat.zero_add]at g0 g1 g2 g3 g4 g5 g6 g7;have gf:=HP.o.f;refine br (.tuple #[Bk.zero.v,false,.int .i64 e0]) ?_;exact⟨rfl,HP.o.g⟩
 ·have he0:=HER.o rfl;subst he0;obtain⟨q1,q2⟩:=HFIT.o rfl;obtain⟨i,rfl⟩:=Qr q1;have hx0:x=s.D i:=HXX.o;have hlk:=HS2.o.2.look (show i<65536 by omega);rw[<-hx0]at hlk;obtain⟨y0,y1,y2,y3,y4,y5,y6,y7⟩:=x;unfold Bk.v at hlk;simp only at hlk;have x1:=HX2.o.c1;clear hx0 HXX HFIT HER;obtain⟨g0,g1,g2,g3,g4,g5,g6,g7⟩:=HR2.o.at';simp only[Nat.zero_mul,Nat.zero_add]at g0 g1 g2 g3 g4 g5 g6 g7;have gf:=HR2.o.f;go_wp2_with fail;have HP:=hD (HR2.o.put ⟨y0,y1,y2,y3,y4,y5,y6,y7⟩);show bodyPost _ _ _ _ _ (yQ w2 (cf w) ⟨y0,y1,y2,y3,y4,y5,y6,y7⟩);clear g0 g1 g2 g3 g4 g5 g6 g7 gf;clear hlk x1;generalize yQ w2 (cf w) ⟨y0,y1,y2,y3,y4,y5,y6,y7⟩=w3 at *;obtain⟨g0,g1,g2,g3,g4,g5,g6,g7⟩:=HP.o.at';simp only[Nat.zero_mul,Nat.zero_add]at g0 g1 g2 g3 g4 g5 g6 g7;have gf:=HP.o.f;refine br (.tuple #[.agg #[.int .u8 y0,.int .u8 y1,.int .u8 y2,.int .u8 y3,.int .u8 y4,.int .u8 y5,.int .u8 y6,.int .u8 y7],true,oo]) ?_;exact⟨rfl,HP.o.g⟩
structure SC(w W:Wd)(M b:Nat)(s:MSt Bk)(c:Cmd Bk)(a:OA)(k:Nat):Prop where
 bx:Bx W w 87 (.pointer (cw M 0)) (.map (some b))
 cb:CB W (cf w) c a k
 st:StM W M b s
 g:Below w w W
theorem SC.aIx{w W W':Wd}{M b:Nat}{s:MSt Bk}{c:Cmd Bk}{a:OA}{k:Nat}(h:SC w W M b s c a k)(hb:Below W W W'):SC w W' M b s c a k:=
 ⟨h.bx.aIx hb,h.cb.aIx hb,h.st.aIx hb,h.g.on hb⟩
theorem SC.init(w:Wd)(M b:Nat)(s:MSt Bk)(c:Cmd Bk)(a:OA)(k:Nat)(h:StM w M b s)(W:Wd)(hW:W=(w.alloc (cq #[.pointer (cw M 0),.map (some b)] 87)).alloc (.cells (bB c a k) 48)):SC w W M b s c a k:=by
 subst hW;have h1:=(bQ w).aIw (cq #[.pointer (cw M 0),.map (some b)] 87);have h2:=(Below.refl (w.alloc (cq #[.pointer (cw M 0),.map (some b)] 87)).heap.size (w.alloc (cq #[.pointer (cw M 0),.map (some b)] 87))).aIw (.cells (bB c a k) 48);exact⟨(Bx.new w _ rfl _ _ _).aIx h2,CB.new _ _ sM _ _ _ _,(h.aIx h1).aIx h2,h1.on h2⟩
theorem YV(F:Fam)(x0:Int)(fv:Value)(nm:LU)(p q:Int)(w:Wd)(hF:F.ok)(h:bG w fv F)(hn:nm.length<=maxLen)(hp:gJ p)(hq:gJ q)(hx:(dP F nm p q).2=x0):
  ep 74 #[fv,nmV nm,p,q] w λe w'=>∃sv,e= .returned (.tuple #[sv,x0])/\Below w w w':=by
 refine(Im F fv nm p q w hF h hn hp hq).m ?_;rintro e w' ⟨sv,rfl,_,hb⟩;rw[hx];exact⟨sv,rfl,hb⟩
def rdX(s:MSt Bk)(nm:LU)(p:Int)(i:Nat):Bk:=vF Bk.zero s nm (p+i)
theorem KS(s:MSt Bk)(nm:LU)(p n:Int):vD Bk.zero s nm p n=(List.range n.toNat).map (rdX s nm p):=rfl
def aFm(R:List Bk)(x0:Int)(w:Wd)(e:Ending)(w':Wd):Prop:= ∃a c,e= .returned (.tuple #[.slice a R c,x0])/\RdB w' a R/\Below w w w'
theorem XC(M b:Nat)(s:MSt Bk)(tag kd ao:Int)(af:Bool)(vol oth:LU)(p:Int)(m:Nat)(data:List Bk)(a:OA)(k:Nat)(w:Wd)(hF:s.F.ok)(h:StM w M b s)(hv:vol.length<=maxLen)(hp:0<=p/\p<=65536)(hm:m<=16)(x0:Int)(he:(dP s.F vol p m).2=x0):
  ep 41 #[stV M b,cmV ⟨tag,kd,ao,af,vol,oth,p,m,data⟩ a k] w (aFm (if x0=0 then vD Bk.zero s vol p m else []) x0 w):=by
 unfold cmV;simp only;have HC:=hD (SC.init w M b s ⟨tag,kd,ao,af,vol,oth,p,m,data⟩ a k h _ rfl);have HF:=hD hF;have HRG:=hD (λfv W hf=>YV s.F x0 fv vol p m W hF hf hv (by unfold gJ;omega) (by unfold gJ;omega) he);have HBK:=hD (λW (j:Nat) (hj:j<16) hst=>Hr M b s vol (p+j) W hF hst hv (by unfold gJ;omega) (rdX s vol p j) rfl);have HRS:Hid (vD Bk.zero s vol p m=(List.range m).map (rdX s vol p)):=hD (by rw[KS,Int.toNat_natCast]);rw[HRS.o];obtain⟨R,hR⟩:∃R,(if x0=0 then (List.range m).map (rdX s vol p)else [])=R:=⟨_,rfl⟩;rw[hR];have HRR:=hD hR;clear hR;generalize rdX s vol p=fx at *;clear hF h he HRS;go_enter func41,ntmps41;go_upto_region 1 with fail;obtain⟨W,hW⟩:∃W,(w.alloc (cq #[.pointer (cw M 0),.map (some b)] 87)).alloc (cq #[tag,kd,ao,.bool af,nmV vol,nmV oth,p,m,.slice a data k] 48)=W:=⟨_,rfl⟩
 try rw[hW]
 have HC:Hid (SC w W M b s ⟨tag,kd,ao,af,vol,oth,p,m,data⟩ a k):=hD VS;clear hW
 go_cut [7] from 6 to 24 (λx wx=>∃W9,W9=wx/\x= .int .i64 x0/\SC w W9 M b s ⟨tag,kd,ao,af,vol,oth,p,m,data⟩ a k)
 case first=>
  have HD:=hD (HC.o.aIx bR.drew)
  go_region_held3 (λw'=>w' (cw w 0)=some (.pointer (cw M 0))/\w' (cw w 1)=some (.map (some b))/\w' (cw (cf w) 4)=some (nmV vol)/\w' (cw (cf w) 6)=p/\w' (cw (cf w) 7)=m)
   (first
    |with_reducible exact⟨HD.o.bx.c0,HD.o.bx.c1,HD.o.cb.c4,HD.o.cb.c6,HD.o.cb.c7⟩
    |with_reducible exact⟨H1.o.bx.c0,H1.o.bx.c1,H1.o.cb.c4,H1.o.cb.c6,H1.o.cb.c7⟩
    |with_reducible exact⟨H2.o.bx.c0,H2.o.bx.c1,H2.o.cb.c4,H2.o.cb.c6,H2.o.cb.c7⟩)
   (first
    |(go_at_call 54;(with_reducible refine(Jn M b s _ HD.o.st).m ?_);rintro e w1 ⟨fv,rfl,hf,hb⟩;have H1:=hD (HD.o.aIx hb);have HF1:=hD hf;clear hb hf)
    |(go_at_call 74;(with_reducible refine(HRG.o _ _ HF1.o).m ?_);rintro e w2 ⟨sv,rfl,hb⟩;have H2:=hD (H1.o.aIx hb);clear hb))
  all_goals
   go_wp2_with fail;go_meet;exact⟨_,rfl,rfl,H2.o⟩
 case rest=>
  obtain⟨W9,rfl,rfl,hc⟩:=hcut;have HC:=hD hc;clear hc HRG;by_cases h0:x0=0
  ·subst h0;have HRE:Hid (R=(List.range m).map fx):=hD (by rw[<-HRR.o,Qf rfl]);have c7:=HC.o.cb.c7;simp only at c7;go_upto_region 4 with fail
   go_upto_region 5 with (at_make;go_loud (refine FR _ rfl _ _ 29 rfl underlying29 .i64 .i64 m rfl rfl oM W9.heap.size W9.heap.size rfl (Ye _) ?_;intro w1 ho1 hb1 hz1))
   have HO:=hD ho1;have HB1:=hD hb1;clear ho1 hb1 c7;go_wp2_with fail;go_loopw [30] (λi wr=>∃j:Nat,j<=m/\i= .int .i64 j/\eZ wr W9.heap.size (.slice (cw W9.heap.size 0) m m) ((List.range j).map fx++List.replicate (m-j) Bk.zero)/\Below W9 W9 wr) (λi _=>m-(intOf i).toNat)
   case atStart=>exact⟨0,Yf _,rfl,HO.o,HB1.o⟩
   case round=>
    clear HO HB1;obtain⟨j,hj,rfl,ho,hb⟩:=hrel;have hlen:((List.range j).map fx++List.replicate (m-j) Bk.zero).length=m:=by simp;omega
    have HO:=hD ho;have HB:=hD hb;have HL:=hD hlen;clear ho hb hlen;by_cases hlt:j<m
    ·have hj0:(0:Int)<=j:=oM
     have hj1:(j:Int)<m:=oM
     have HCr:=hD (HC.o.aIx HB.o);have b0:=HCr.o.bx.c0;have b1:=HCr.o.bx.c1;have c4:=HCr.o.cb.c4;have c6:=HCr.o.cb.c6;have hwr:IntKind.i64.wrap (p+j)=p+j:=IntWalk.i64_in _ oM;obtain⟨⟨y0,y1,y2,y3,y4,y5,y6,y7⟩,hy⟩:∃y,fx j=y:=⟨_,rfl⟩;have HY:=hD hy;have HBJ:=hD (HBK.o _ j oM HCr.o.st);rw[hy]at HBJ;clear hy;simp only at c4 c6;go_wp2_with fail;refine HBJ.o.m ?_;rintro e w2 ⟨rfl,hb2⟩;have HO2:=hD (HO.o.keep hb2);have HB2:=hD (HB.o.on hb2);clear hb2 b0 b1 c4 c6 HCr HBJ;obtain⟨u0,c0,f0⟩:=eZ.cells HL.o.symm HO2.o j (by rw[HL.o];omega) 0 oM;obtain⟨u1,c1,f1⟩:=eZ.cells HL.o.symm HO2.o j (by rw[HL.o];omega) 1 oM;obtain⟨u2,c2,f2⟩:=eZ.cells HL.o.symm HO2.o j (by rw[HL.o];omega) 2 oM;obtain⟨u3,c3,f3⟩:=eZ.cells HL.o.symm HO2.o j (by rw[HL.o];omega) 3 oM;obtain⟨u4,c4,f4⟩:=eZ.cells HL.o.symm HO2.o j (by rw[HL.o];omega) 4 oM;obtain⟨u5,c5,f5⟩:=eZ.cells HL.o.symm HO2.o j (by rw[HL.o];omega) 5 oM;obtain⟨u6,c6,f6⟩:=eZ.cells HL.o.symm HO2.o j (by rw[HL.o];omega) 6 oM;obtain⟨u7,c7,f7⟩:=eZ.cells HL.o.symm HO2.o j (by rw[HL.o];omega) 7 oM;simp only[Nat.add_zero]at c0 f0;have HPT:=hD (λW hW=>eZ.put HL.o.symm HO2.o j (by rw[HL.o];omega) ⟨y0,y1,y2,y3,y4,y5,y6,y7⟩ W hW);have hps:=Xi fx m j hlt;rw[HY.o]at hps;rw[hps]at HPT;clear hps;go_wp2_with fail;go_roundw
     case rel=>
      obtain⟨q1,q2⟩:=HPT.o _ rfl;exact⟨j+1,oM,by go_num,q1,HB2.o.aJa q2 λk hk=>by injection hk with hk;omega⟩
     case measure=>simp[intOf];omega
    ·obtain rfl:m=j:=oM
     obtain⟨ra,rc,he,hr⟩:=HO.o.rd (by rw[HL.o];omega);rw[Nat.sub_self,List.replicate_zero,List.append_nil]at hr;have HR:=hD hr;have HE:Hid (some ((cw W9.heap.size 0):Addr)=ra):=hD (by injection he);have HLL:Hid (((List.range m).map fx).length=m):=hD sM;have HG:=hD (HC.o.g.on HB.o);clear he hr;go_wp2_with fail;go_ret2;exact⟨ra,m,by rw[HRE.o,HLL.o,HE.o];rfl,by rw[HRE.o];exact HR.o,HG.o⟩
  ·have he2:(x0 != 0)=true:=by simpa using h0
   have HRE:Hid (R=[]):=hD (by rw[<-HRR.o,Qe h0]);have HG:=hD HC.o.g;go_wp2_with fail;go_ret2;exact⟨none,0,by rw[HRE.o];rfl,by rw[HRE.o];exact⟨sM,.inl rfl⟩,HG.o⟩
open Go.Shelf
def rO(L:List Sw)(N:LU)(x:Int)(w:Wd)(e:Ending)(w':Wd):Prop:=
 ∃a1 c1 a2 c2,e= .returned (.tuple #[.slice a1 L c1,.slice a2 N c2,x])/\rW w' a1 L/\RdY w' a2 N/\Below w w w'
theorem rW.nil(w:Wd)(a:OA):rW w a []:=⟨sM,.inl rfl⟩
theorem aHf{F:Fam}{c:Cmd Bk}(k:c.kd=3):fE F c=(bS F c.vol c.p c.n).2.2:=by unfold fE;rw[Qe oM,Qe oM,Qf k]
theorem PX{F:Fam}{c:Cmd Bk}(k:c.kd=2):fE F c=jO F c.vol c.p c.n:=by unfold fE;rw[Qe oM,Qf k]
theorem aHe{F:Fam}{c:Cmd Bk}(k:c.kd=5):fE F c=crE F c.vol c.n c.p:=by unfold fE;rw[Qe oM,Qe oM,Qe oM,Qf k]
theorem aHd{F:Fam}{c:Cmd Bk}(k:c.kd=6):fE F c=clE F c.vol c.oth:=by unfold fE;rw[Qe oM,Qe oM,Qe oM,Qe oM,Qf k]
theorem aHc{F:Fam}{c:Cmd Bk}(k:c.kd=7):fE F c=(aZ F c.vol).2.2:=by unfold fE;rw[Qe oM,Qe oM,Qe oM,Qe oM,Qe oM,Qf k]
section
variable(M b:Nat)(s:MSt Bk)(tag ao:Int)(af:Bool)(vol oth:LU)(p n:Int)(data:List Bk)(a:OA)(k:Nat)(w:Wd)(hF:s.F.ok)(hs:∀v∈s.F.vs,v.l.length<=9000)(h:StM w M b s)(hv:vol.length<=1000)(x:Int)
include hF hs h hv
theorem aAk(hp:gJ p)(he:(bS s.F vol p n).2.2=x)(R:LU)(hR:(if x=0 then uD vol p n else [])=R):
  ep 75 #[stV M b,cmV ⟨tag,3,ao,af,vol,oth,p,n,data⟩ a k] w (rO [] R x w):=by
 obtain⟨G,L,y,hu⟩:∃G L y,bS s.F vol p n=(G,L,y):=⟨_,_,_,rfl⟩;rw[hu]at he;simp only at he;subst he;have HU:=hD (λW hm=>XB M s.F G L y vol R p n W hF hs hm oM hp hu hR);clear hu hR;unfold cmV;simp only;have HC:=hD (SC.init w M b s ⟨tag,3,ao,af,vol,oth,p,n,data⟩ a k h _ rfl);go_enter func75,ntmps75;go_upto_region 1 with fail;obtain⟨W,hW⟩:∃W,(w.alloc (cq #[.pointer (cw M 0),.map (some b)] 87)).alloc (cq #[tag,.int .i64 3,ao,.bool af,nmV vol,nmV oth,p,n,.slice a data k] 48)=W:=⟨_,rfl⟩
 try rw[hW]
 have HC:Hid (SC w W M b s ⟨tag,3,ao,af,vol,oth,p,n,data⟩ a k):=hD VS;exact aDx
theorem aAj(he:crE s.F vol n p=x)(R:LU)(hR:(if x=0 then uF vol n p else [])=R):
  ep 75 #[stV M b,cmV ⟨tag,5,ao,af,vol,oth,p,n,data⟩ a k] w (rO [] R x w):=by
 have HU:=hD (λW hm=>Pg M s.F x vol R n p W hF hs hm oM he hR);clear he hR;unfold cmV;simp only;have HC:=hD (SC.init w M b s ⟨tag,5,ao,af,vol,oth,p,n,data⟩ a k h _ rfl);go_enter func75,ntmps75;go_upto_region 1 with fail;obtain⟨W,hW⟩:∃W,(w.alloc (cq #[.pointer (cw M 0),.map (some b)] 87)).alloc (cq #[tag,.int .i64 5,ao,.bool af,nmV vol,nmV oth,p,n,.slice a data k] 48)=W:=⟨_,rfl⟩
 try rw[hW]
 have HC:Hid (SC w W M b s ⟨tag,5,ao,af,vol,oth,p,n,data⟩ a k):=hD VS;exact Rq
theorem aAi(ho:oth.length<=1000)(he:clE s.F vol oth=x)(R:LU)(hR:(if x=0 then uG vol oth else [])=R):
  ep 75 #[stV M b,cmV ⟨tag,6,ao,af,vol,oth,p,n,data⟩ a k] w (rO [] R x w):=by
 have HU:=hD (λW hm=>Un M s.F x vol oth R W hF hs hm oM oM he hR);clear he hR ho;unfold cmV;simp only;have HC:=hD (SC.init w M b s ⟨tag,6,ao,af,vol,oth,p,n,data⟩ a k h _ rfl);go_enter func75,ntmps75;go_upto_region 1 with fail;obtain⟨W,hW⟩:∃W,(w.alloc (cq #[.pointer (cw M 0),.map (some b)] 87)).alloc (cq #[tag,.int .i64 6,ao,.bool af,nmV vol,nmV oth,p,n,.slice a data k] 48)=W:=⟨_,rfl⟩
 try rw[hW]
 have HC:Hid (SC w W M b s ⟨tag,6,ao,af,vol,oth,p,n,data⟩ a k):=hD VS;exact Rq
theorem aAh(he:(aZ s.F vol).2.2=x)(R:LU)(hR:(if x=0 then uE vol else [])=R):
  ep 75 #[stV M b,cmV ⟨tag,7,ao,af,vol,oth,p,n,data⟩ a k] w (rO [] R x w):=by
 obtain⟨G,L,y,hu⟩:∃G L y,aZ s.F vol=(G,L,y):=⟨_,_,_,rfl⟩;rw[hu]at he;simp only at he;subst he;have HU:=hD (λW hm=>Pf M s.F G L y vol R W hF hs hm oM hu hR);clear hu hR;unfold cmV;simp only;have HC:=hD (SC.init w M b s ⟨tag,7,ao,af,vol,oth,p,n,data⟩ a k h _ rfl);go_enter func75,ntmps75;go_upto_region 1 with fail;obtain⟨W,hW⟩:∃W,(w.alloc (cq #[.pointer (cw M 0),.map (some b)] 87)).alloc (cq #[tag,.int .i64 7,ao,.bool af,nmV vol,nmV oth,p,n,.slice a data k] 48)=W:=⟨_,rfl⟩
 try rw[hW]
 have HC:Hid (SC w W M b s ⟨tag,7,ao,af,vol,oth,p,n,data⟩ a k):=hD VS;exact aDx
theorem Td(hp:gJ p)(hl:data.length<=1000)(he:jO s.F vol p data.length=x)(hx:x≠0):
  ep 75 #[stV M b,cmV ⟨tag,2,ao,af,vol,oth,p,n,data⟩ a k] w (rO [] [] x w):=by
 have HU:=hD (λW hm=>XD M s.F x vol p data.length k a W hF hs hm oM hp oM he hx);clear he;unfold cmV;simp only;have HC:=hD (SC.init w M b s ⟨tag,2,ao,af,vol,oth,p,n,data⟩ a k h _ rfl);go_enter func75,ntmps75;go_upto_region 1 with fail;obtain⟨W,hW⟩:∃W,(w.alloc (cq #[.pointer (cw M 0),.map (some b)] 87)).alloc (cq #[tag,ow,ao,.bool af,nmV vol,nmV oth,p,n,.slice a data k] 48)=W:=⟨_,rfl⟩
 try rw[hW]
 have HC:Hid (SC w W M b s ⟨tag,2,ao,af,vol,oth,p,n,data⟩ a k):=hD VS;clear hW;have b0:=HC.o.bx.c0;have c1:=HC.o.cb.c1;have c4:=HC.o.cb.c4;have c5:=HC.o.cb.c5;have c6:=HC.o.cb.c6;have c7:=HC.o.cb.c7;have c8:=HC.o.cb.c8;simp only at c1 c4 c5 c6 c7 c8;go_wp2_with fail;refine(HU.o _ HC.o.st.1).m ?_;rintro e w1 ⟨rfl,hb⟩;have HB:=hD (HC.o.g.on hb);clear hb b0 c1 c4 c5 c6 c7 c8 HC;go_wp2_with fail;refine Yg (v:= .tuple #[sn,sn,x]) zY rfl ?_;exact⟨none,0,none,0,rfl,rW.nil _ _,RdY.nil _,HB.o⟩
end
theorem NQ(M b:Nat)(s:MSt Bk)(tag ao:Int)(af:Bool)(oth:LU)(n:Int)(data:List Bk)(a:OA)(k:Nat)(w:Wd)(hs:s.fine)(h:StM w M b s)(hd:RdB w a data)(v:Vol)(p k0:Nat)(hv:aN s.F.vs v.nm=some v)(hp:((p+data.length:Nat):Int)<=v.n)(he:jO s.F v.nm p data.length=0)(hk:eF s.F.C v.l p data.length=k0)(hf:k0<=aK (dA (eG s.F.C)) s.F.N)(S:List Int)(hS:Al s.F v.nm p k0=S):
  ep 75 #[stV M b,cmV ⟨tag,2,ao,af,v.nm,oth,p,n,data⟩ a k] w (rO (wrL s.F.C v.l p S data data.length) (lT v.nm (joinL (chL s.F.C v.l p S data.length))) 0 w):=by
 have hF:=hs.sound.ok;have hs9:=hs.sound.short;have HD:=hD hd;have HU:=hD (λW hm hdd=>Uk M s.F v p data.length k k0 data S a W hF hs9 hm hv rfl hp hdd he hk hf hS);have HLW:=hD (wW (C:=s.F.C) (l:=v.l) (p:=p) (S:=S) (D:=data) data.length);obtain⟨N,hN⟩:∃N,lT v.nm (joinL (chL s.F.C v.l p S data.length))=N:=⟨_,rfl⟩;obtain⟨L,hL⟩:∃L,wrL s.F.C v.l p S data data.length=L:=⟨_,rfl⟩;obtain⟨vol,hvn⟩:∃vol,v.nm=vol:=⟨_,rfl⟩;rw[hL,hN,hvn]at HU;rw[hL,hN,hvn];clear hL hN hvn hv hp he hk hf hS hF hs9 hd HLW;have n':=n;obtain⟨p',hp'⟩:∃p':Int,(p:Int)=p':=⟨_,rfl⟩;rw[hp']at HU ⊢;clear hp';revert p';intro p;intro HU;unfold cmV;simp only;have HC:=hD (SC.init w M b s ⟨tag,2,ao,af,vol,oth,p,n,data⟩ a k h _ rfl);go_enter func75,ntmps75;go_upto_region 1 with fail;obtain⟨W,hW⟩:∃W,(w.alloc (cq #[.pointer (cw M 0),.map (some b)] 87)).alloc (cq #[tag,ow,ao,.bool af,nmV vol,nmV oth,p,n,.slice a data k] 48)=W:=⟨_,rfl⟩
 try rw[hW]
 have HC:Hid (SC w W M b s ⟨tag,2,ao,af,vol,oth,p,n,data⟩ a k):=hD VS;clear hW;have b0:=HC.o.bx.c0;have c1:=HC.o.cb.c1;have c4:=HC.o.cb.c4;have c5:=HC.o.cb.c5;have c6:=HC.o.cb.c6;have c7:=HC.o.cb.c7;have c8:=HC.o.cb.c8;simp only at c1 c4 c5 c6 c7 c8;go_wp2_with fail;refine(HU.o _ HC.o.st.1 (HD.o.keep HC.o.g)).m ?_;rintro e w1 ⟨a1,c1,a2,c2,rfl,h1,h2,hb⟩;have H1:=hD h1;have H2:=hD h2;have HB:=hD (HC.o.g.on hb);clear h1 h2 hb b0 c4 c5 c6 c7 c8 HC;go_wp2_with fail;refine Yg (v:= .tuple #[.slice a1 L.length c1,.slice a2 N.length c2,oo]) zY rfl ?_;exact⟨a1,c1,a2,c2,rfl,H1.o,H2.o,HB.o⟩
theorem qC{w w1 w2:Wd}{row:Option Nat}{b:Nat}(h:w.grownBy w1 row)(h2:w1.grownBy w2 (some b))(hb:w.heap.size<=b):w.grownBy w2 row:=
 ⟨h2.os.trans h.os,h2.tape.trans h.tape,h2.output.trans h.output,Nat.le_trans h.size h2.size,λk hk hne=>(h2.block k (Yu hk h.size) (λe=>by injection e with e;omega)).trans (h.block k hk hne)⟩
structure AC(w W:Wd)(M b:Nat)(s:MSt Bk)(c:Cmd Bk)(a:OA)(k:Nat):Prop where
 bx:Bx W w 87 (.pointer (cw M 0)) (.map (some b))
 cb:CB W (cf w) c a k
 rb:Bx W (ch w) 87 (.pointer none) (.map none)
 st0:StM w M b s
 g:Below w w W
section
variable{w W W':Wd}{M b:Nat}{s:MSt Bk}{c:Cmd Bk}{a:OA}{k:Nat}
theorem AC.aIx(h:AC w W M b s c a k)(hb:Below W W W'):AC w W' M b s c a k:=
 ⟨h.bx.aIx hb,h.cb.aIx hb,h.rb.aIx hb,h.st0,h.g.on hb⟩
theorem AC.st(h:AC w W M b s c a k):StM W M b s:=h.st0.aIx h.g
theorem AC.m(h:AC w W M b s c a k):iO W M s.F:=h.st.1
theorem AC.grown{X:Nat}(h:AC w W M b s c a k)(hg:W.grownBy W' (some X))(hX:w.heap.size+1+1<X):AC w W' M b s c a k:=
 ⟨h.bx.grown hg (λe=>by injection e with e;omega),h.cb.grown hg oM,h.rb.grown hg (λe=>by injection e with e;omega),h.st0,h.g.aJa hg λk hk=>by injection hk with hk;omega⟩
theorem AC.init(w:Wd)(M b:Nat)(s:MSt Bk)(c:Cmd Bk)(a:OA)(k:Nat)(h:StM w M b s)(W:Wd)(hW:W=((w.alloc (cq #[.pointer (cw M 0),.map (some b)] 87)).alloc (.cells (bB c a k) 48)).alloc (cq #[.pointer none,.map none] 87)):AC w W M b s c a k:=by
 subst hW;have h1:=(bQ w).aIw (cq #[.pointer (cw M 0),.map (some b)] 87);have h2:=(Below.refl (w.alloc (cq #[.pointer (cw M 0),.map (some b)] 87)).heap.size (w.alloc (cq #[.pointer (cw M 0),.map (some b)] 87))).aIw (.cells (bB c a k) 48);have h3:=(Below.refl ((w.alloc (cq #[.pointer (cw M 0),.map (some b)] 87)).alloc (.cells (bB c a k) 48)).heap.size ((w.alloc (cq #[.pointer (cw M 0),.map (some b)] 87)).alloc (.cells (bB c a k) 48))).aIw (cq #[.pointer none,.map none] 87);exact⟨((Bx.new w _ rfl _ _ _).aIx h2).aIx h3,(CB.new _ _ sM _ _ _ _).aIx h3,Bx.new _ _ sM _ _ _,h,(h1.on h2).on h3⟩
end
theorem VG:3≠87:=dE
theorem aDc:157≠87:=dE
theorem StM.box{W W':Wd}{T M b:Nat}{u v:Value}{s:MSt Bk}(h:StM W M b s)(hT:Bx W T 87 u v)(hu:∀c,u≠byV c)(hv:∀c,v≠byV c)(hg:W.grownBy W' (some T)):StM W' M b s:=by
 obtain⟨⟨x,y,h1,h2⟩,h3⟩:=h;refine⟨⟨x,y,h1.grown hg (λe=> ?_),h2.grown (hT.odd VG hu hv) hg⟩,h3.grown hg λe=> ?_⟩
 ·injection e with e;subst e;exact h1.ty.ne hT.ty aDc rfl
 ·injection e with e;subst e;have:=hT.c0;rw[h3.noCell]at this;cases this
theorem iO.box{W W':Wd}{T M:Nat}{u v:Value}{F:Fam}(h:iO W M F)(hT:Bx W T 87 u v)(hu:∀c,u≠byV c)(hv:∀c,v≠byV c)(hg:W.grownBy W' (some T)):iO W' M F:=by
 obtain⟨x,y,h1,h2⟩:=h;exact⟨x,y,h1.grown hg (λe=>h1.ty.ne hT.ty aDc (by injection e with e;exact e.symm)),h2.grown (hT.odd VG hu hv) hg⟩
theorem rW.box{W W':Wd}{T:Nat}(hX:Odd W T){a:OA}{L:List Sw}(h:rW W a L)(hg:W.grownBy W' (some T)):rW W' a L:=by
 refine ⟨h.1,h.2.imp id λ⟨g,o,ha,hat⟩=>⟨g,o,ha,λk x hk=> ?_⟩⟩;have q:=hat k x hk;have hne:g≠T:=λe=>by
  subst e;have h1:=q.c7;rw[hX.two _ oM]at h1;cases h1
 exact⟨aA hg q.s hne,aA hg q.c0 hne,aA hg q.c1 hne,aA hg q.c2 hne,aA hg q.c3 hne,aA hg q.c4 hne,aA hg q.c5 hne,aA hg q.c6 hne,aA hg q.c7 hne⟩
def sF(D:Nat->Bk):List Sw->Nat->Bk
 | []=>D
 |x::r=>sF (KW D x.s.toNat x.d) r
theorem Ai(D:Nat->Bk)(A B:List Sw):sF D (A++B)=sF (sF D A) B:=by
 induction A generalizing D with
 |nil=>rfl
 |cons x A ih=>exact ih _
theorem Oz(D:Nat->Bk)(L:List Sw)(j:Nat)(h:j<L.length):sF D (L.take (j+1))=KW (sF D (L.take j)) L[j].s.toNat L[j].d:=by
 rw[Qh h,Ai];rfl
theorem WU(D:Nat->Bk)(C:List Int)(l:List E)(p:Nat)(S:List Int)(data:List Bk)(n:Nat):sF D (wrL C l p S data n)=wrD D (λj=>(bK C l p S j).toNat) (λj=>data.getD j Bk.zero) n:=by
 induction n with
 |zero=>rfl
 | succ n ih=>
  rw[DN,Ai,ih];rfl
theorem oV.store{w:Wd}{b:Nat}{D:Nat->Bk}(h:oV w b D){i:Nat}(hi:i<65536)(x:Bk):
  ∃w',(Instr.mapUpdate 85 (.map (some b)) i x.v).run prog w= .ok () w'/\oV w' b (KW D i x)/\w.grownBy w' (some b):=by
 obtain⟨es,h1,h2,h3,h4⟩:=h;have hl:=Zf h2 h3;obtain⟨w',hrun,r1,r2⟩:=h1.store GA underlying85 (by simp only[maxLen];omega) (Ro (k:=i) oM) (lV x.v);rw[UY]at r1;refine⟨w',hrun,⟨_,Pw r1,?_,λp hp=> ?_,λj=> ?_⟩,r2.grown⟩
 ·have hp:=(sP (i,x) (EW es i)).map Prod.fst;rw[List.map_cons]at hp;refine hp.nodup_iff.2 (List.nodup_cons.2 ⟨λhm=> ?_,?_⟩)
  ·obtain⟨q,hq,he⟩:=Yd.1 hm;exact(Et.1 hq).2 he
  ·unfold EW;exact(List.filter_sublist.map Prod.fst).nodup h2
 ·rcases Yl.1 ((sP _ _).mem_iff.1 hp)with rfl|hp
  ·exact hi
  ·exact h3 p (Et.1 hp).1
 ·rw[YO es i x j h2,h4];rfl
shelf_lay_g SlLaysW.n5 Slmc 5 at Tryz 78 as Tryz.cloneD
theorem Vd(b:Nat)(D:Nat->Bk)(w:Wd)(h:oV w b D):ep 78 #[.map (some b)] w λe w'=>e= .returned (.map (some w.heap.size))/\oV w' w D/\Below w w w':=by
 obtain⟨es,h1,h2⟩:=h;exact(AnyW.maps_Clone_owns Tryz.cloneD 3 lW b es.length (AZ es) w h1).mono λ_ _ ⟨q1,q2,_,q4⟩=>⟨q1,⟨es,q2,h2⟩,q4⟩
def Nv(s:MSt Bk)(G:Fam)(D:Nat->Bk)(x:Int)(w:Wd)(e:Ending)(w':Wd):Prop:=
 ∃M2 b2,e= .returned (.tuple #[stV M2 b2,x])/\StM w' M2 b2 ⟨G,D⟩/\Below w w w'
section
variable(M b:Nat)(s:MSt Bk)(tag kd ao:Int)(af:Bool)(vol oth:LU)(p n:Int)(data:List Bk)(a:OA)(k:Nat)(w:Wd)(h:StM w M b s)(L:List Sw)(N:LU)(x:Int)
 (hpl:∀W,Below w w W->ep 75 #[stV M b,cmV ⟨tag,kd,ao,af,vol,oth,p,n,data⟩ a k] W (rO L N x W))
include h hpl
theorem sD(hx:x≠0):ep 42 #[stV M b,cmV ⟨tag,kd,ao,af,vol,oth,p,n,data⟩ a k] w (Nv s s.F s.D x w):=by
 have hx2:(x != 0)=true:=by simpa using hx
 have HC:=hD (AC.init w M b s ⟨tag,kd,ao,af,vol,oth,p,n,data⟩ a k h _ rfl);have HPL:=hD hpl;clear h hpl;go_enter func42,ntmps42;go_upto_region 1 with fail;obtain⟨W,hW⟩:∃W,((w.alloc (cq #[.pointer (cw M 0),.map (some b)] 87)).alloc (cq #[tag,kd,ao,.bool af,nmV vol,nmV oth,p,n,.slice a data k] 48)).alloc (cq #[.pointer none,.map none] 87)=W:=⟨_,rfl⟩
 try rw[hW]
 have HC:Hid (AC w W M b s ⟨tag,kd,ao,af,vol,oth,p,n,data⟩ a k):=hD VS;clear hW;have b0:=HC.o.bx.c0;have b1:=HC.o.bx.c1;have c0:=HC.o.cb.c0;have c1:=HC.o.cb.c1;have c2:=HC.o.cb.c2;have c3:=HC.o.cb.c3;have c4:=HC.o.cb.c4;have c5:=HC.o.cb.c5;have c6:=HC.o.cb.c6;have c7:=HC.o.cb.c7;have c8:=HC.o.cb.c8;simp only at c0 c1 c2 c3 c4 c5 c6 c7 c8;go_wp2_with fail;refine(HPL.o _ HC.o.g).m ?_;rintro e w1 ⟨la,lc,na,nc,rfl,hL,hN,hb⟩;have HC1:=hD (HC.o.aIx hb);have HL:=hD hL;have HN:=hD hN;clear b0 b1 c0 c1 c2 c3 c4 c5 c6 c7 c8 hb hL hN HC HPL;have b0:=HC1.o.bx.c0;have b1:=HC1.o.bx.c1;have r0:=HC1.o.rb.c0;have r1:=HC1.o.rb.c1;have f0:=HC1.o.rb.f0;have f1:=HC1.o.rb.f1;go_wp2_with fail;have j0:=(HC1.o.rb.put (.pointer (cw M 0)) (.map (some b))).c0;have j1:=(HC1.o.rb.put (.pointer (cw M 0)) (.map (some b))).c1;have hbel:Below w w (fP w1 (ch w) (.pointer (cw M 0)) (.map (some b))):=(HC1.o.g.setCell sO _).setCell sO _;have HE:=hD hbel;clear hbel;refine br (.tuple #[stV M b,x]) ?_;exact⟨M,b,rfl,HC1.o.st0.aIx HE.o,HE.o⟩
end
structure AfR(w W:Wd)(M b:Nat)(s:MSt Bk)(c:Cmd Bk)(a:OA)(k:Nat)(M2 T9 b2:Nat)(G:Fam)(la na:OA)(L:List Sw)(N:LU):Prop where
 ac:AC w W M b s c a k
 m2:iO W M2 G
 t9:Bx W T9 87 (.pointer (cw M2 0)) (.map (some b2))
 l1:w.heap.size+1+1<M2
 l2:w.heap.size+1+1<T9
 ne:M2≠T9
 hl:rW W la L
 hn:RdY W na N
section
variable{w W W':Wd}{M b:Nat}{s:MSt Bk}{c:Cmd Bk}{a:OA}{k:Nat}{M2 T9 b2:Nat}{F G:Fam}{la na:OA}{L:List Sw}{N:LU}
theorem AfR.aIx(h:AfR w W M b s c a k M2 T9 b2 G la na L N)(hb:Below W W W'):AfR w W' M b s c a k M2 T9 b2 G la na L N:=
 ⟨h.ac.aIx hb,h.m2.aIx hb,h.t9.aIx hb,h.l1,h.l2,h.ne,h.hl.keep hb,h.hn.keep hb⟩
theorem rW.odd(hX:Odd W M2)(h:rW W la L)(hg:W.grownBy W' (some M2)):rW W' la L:=rW.box hX h hg
theorem AfR.app(h:AfR w W M b s c a k M2 T9 b2 F la na L N)(hm:iO W' M2 G)(hg:W.grownBy W' (some M2)):AfR w W' M b s c a k M2 T9 b2 G la na L N:=
 ⟨h.ac.grown hg h.l1,hm,h.t9.grown hg (λe=>h.ne (by injection e)),h.l1,h.l2,h.ne,h.hl.odd h.m2.odd hg,h.hn.grown h.m2.odd hg⟩
theorem AfR.put(h:AfR w W M b s c a k M2 T9 b2 G la na L N)(b3:Nat):AfR w (W.setCell (cw T9 1) (.map (some b3))) M b s c a k M2 T9 b3 G la na L N:=by
 have hg:=aJ W (cw T9 1) (.map (some b3));have ho:Odd W T9:=h.t9.odd VG (λc e=>by cases e) (λc e=>by cases e);refine⟨h.ac.grown hg h.l2,h.m2.box h.t9 (λc e=>by cases e) (λc e=>by cases e) hg,⟨?_,?_,by rw[Qb];exact h.t9.f0,by rw[Qb];exact h.t9.f1,λi hi=>dL oM (h.t9.c2 i hi),h.t9.ty.set _ _⟩,h.l1,h.l2,h.ne,h.hl.box ho hg,h.hn.grown ho hg⟩
 ·rw[Qk _ _ _ _ sM];exact h.t9.c0
 ·exact Qi _ _ _ h.t9.c1
theorem AfR.box(h:AfR w W M b s c a k M2 T9 b2 G la na L N){b3:Nat}(hg:W.grownBy W' (some T9))(hb:Bx W' T9 87 (.pointer (cw M2 0)) (.map (some b3))):AfR w W' M b s c a k M2 T9 b3 G la na L N:=by
 have ho:Odd W T9:=h.t9.odd VG (λc e=>by cases e) (λc e=>by cases e);exact⟨h.ac.grown hg h.l2,h.m2.box h.t9 (λc e=>by cases e) (λc e=>by cases e) hg,hb,h.l1,h.l2,h.ne,h.hl.box ho hg,h.hn.grown ho hg⟩
end
section
variable(M b:Nat)(s:MSt Bk)(tag kd ao:Int)(af:Bool)(vol oth:LU)(p n:Int)(data:List Bk)(a:OA)(k:Nat)(w:Wd)(h:StM w M b s)(L:List Sw)(N:LU)
 (hpl:∀W,Below w w W->ep 75 #[stV M b,cmV ⟨tag,kd,ao,af,vol,oth,p,n,data⟩ a k] W (rO L N 0 W))
include h hpl
theorem qI(hF:s.F.ok)(hs:∀v∈s.F.vs,v.l.length<=8000)(G:Fam)(hap:lH s.F N=(G,0))(hsl:∀y∈L,0<=y.s/\y.s<65536):
    ep 42 #[stV M b,cmV ⟨tag,kd,ao,af,vol,oth,p,n,data⟩ a k] w (Nv s G (sF s.D L) 0 w):=by
  have HAP:=hD (λM2 W na nc hm hr=>Pi M2 s.F G N na nc W hF hs hm hr hap);have HSL:=hD hsl;clear hF hs hap hsl;have HC:=hD (AC.init w M b s ⟨tag,kd,ao,af,vol,oth,p,n,data⟩ a k h _ rfl);have HPL:=hD hpl;clear h hpl;go_enter func42,ntmps42;go_upto_region 1 with fail;obtain⟨W,hW⟩:∃W,((w.alloc (cq #[.pointer (cw M 0),.map (some b)] 87)).alloc (cq #[tag,kd,ao,.bool af,nmV vol,nmV oth,p,n,.slice a data k] 48)).alloc (cq #[.pointer none,.map none] 87)=W:=⟨_,rfl⟩
  try rw[hW]
  have HC:Hid (AC w W M b s ⟨tag,kd,ao,af,vol,oth,p,n,data⟩ a k):=hD VS;clear hW;have b0:=HC.o.bx.c0;have b1:=HC.o.bx.c1;have c0:=HC.o.cb.c0;have c1:=HC.o.cb.c1;have c2:=HC.o.cb.c2;have c3:=HC.o.cb.c3;have c4:=HC.o.cb.c4;have c5:=HC.o.cb.c5;have c6:=HC.o.cb.c6;have c7:=HC.o.cb.c7;have c8:=HC.o.cb.c8;simp only at c0 c1 c2 c3 c4 c5 c6 c7 c8;go_wp2_with fail;refine(HPL.o _ HC.o.g).m ?_;rintro e w1 ⟨la,lc,na,nc,rfl,hL,hN,hb⟩;have HC1:=hD (HC.o.aIx hb);have HL:=hD hL;have HN:=hD hN;clear b0 b1 c0 c1 c2 c3 c4 c5 c6 c7 c8 hb hL hN HC HPL;go_upto_region 4 with fail
  go_cut [9] from 10 to 29 (λx9 wx=>∃M2 T9 W9,W9=wx/\x9= .pointer (cw T9 0)/\Hid (AfR w W9 M b s ⟨tag,kd,ao,af,vol,oth,p,n,data⟩ a k M2 T9 b s.F la na L N))
  case first=>
    have HD:=hD (HC1.o.aIx bR.drew);have HKD:=hD ((bQ w1).aIw (cq #[.pointer none,.map none] 87)).drew;have HBD:=hD (bQ w1).drew;have HDa:=hD (HC1.o.aIx HKD.o);have HZa:=hD ((Bx.new w1 _ rfl (.pointer none) (.map none) 87).aIx bR.drew);have hrl:=HC1.o.rb.lt
    go_region_held3 (λw'=>w' (cw w 0)=some (.pointer (cw M 0))/\w' (cw w 1)=some (.map (some b)))
      (first
        |with_reducible exact⟨HD.o.bx.c0,HD.o.bx.c1⟩
        |with_reducible exact⟨HDa.o.bx.c0,HDa.o.bx.c1⟩
        |with_reducible exact⟨H2.o.bx.c0,H2.o.bx.c1⟩
        |with_reducible exact⟨H2a.o.bx.c0,H2a.o.bx.c1⟩
        |with_reducible exact⟨H2b.o.bx.c0,H2b.o.bx.c1⟩
        |with_reducible exact⟨H2c.o.bx.c0,H2c.o.bx.c1⟩)
      (first
        |(go_at_call 76;((with_reducible refine(LH M s.F _ HD.o.m).m ?_);rintro e w2 ⟨M2,rfl,hM2,hmb,hb⟩;have H2:=hD (HD.o.aIx hb);have H2a:=hD (H2.o.aIx ((bQ w2).aIw (.cells #[.pointer none,.map none] 87)));have HK2:=hD ((bQ w2).aIw (.cells #[.pointer (some ⟨M2,0,none⟩),.map (some b)] 87));have H2b:=hD (H2.o.aIx HK2.o);have HMB:=hD hmb;have HB2:=hD (HBD.o.on hb);clear hb hmb))
        |(go_at_call 76;(with_reducible refine(LH M s.F _ HDa.o.m).m ?_);rintro e w2 ⟨M2,rfl,hM2,hmb,hb⟩;have H2:=hD (HDa.o.aIx hb);have HZ2:=hD (HZa.o.aIx hb);have HG2:=hD (iE w2 w1.heap.size (.pointer (some ⟨M2,0,none⟩)) (.map (some b)));have H2c:=hD (H2.o.grown HG2.o hrl);have HMB:=hD hmb;have HB2:=hD (HKD.o.on hb);clear hb hmb;have z0:=HZ2.o.c0;have z1:=HZ2.o.c1;have z2:=HZ2.o.f0;have z3:=HZ2.o.f1))
    all_goals first
      | (have hz:=HZ2.o
         have hM3:w1.heap.size+1<=M2:=by have:=hM2;simp at this;omega
         have HQ:Hid (AfR w (fP w2 w1 (.pointer (cw M2 0)) (.map (some b))) M b s ⟨tag,kd,ao,af,vol,oth,p,n,data⟩ a k M2 w1 b s.F la na L N):=hD (by
           have ho:Odd w2 w1.heap.size:=hz.odd VG (λc e=>by cases e) (λc e=>by cases e)
           exact⟨H2c.o,HMB.o.box hz (λc e=>by cases e) (λc e=>by cases e) HG2.o,hz.put _ _,oM,hrl,oM,(HL.o.keep HB2.o).box ho HG2.o,(HN.o.keep HB2.o).grown ho HG2.o⟩)
         clear hz;go_wp2_with fail;go_meet
         exact⟨M2,w1.heap.size,_,rfl,rfl,HQ⟩)
      | (have hM3:w1.heap.size<=M2:=hM2
         have hM4:M2<w2.heap.size:=by obtain⟨u,v,hq,_⟩:=HMB.o;exact hq.lt
         have HQ:Hid (AfR w (w2.alloc (cq #[.pointer (cw M2 0),.map (some b)] 87)) M b s ⟨tag,kd,ao,af,vol,oth,p,n,data⟩ a k M2 w2 b s.F la na L N):=hD (by
           have hsz:=HB2.o.size
           exact⟨H2b.o,HMB.o.aIx HK2.o,Bx.new w2 _ rfl _ _ _,oM,oM,oM,(HL.o.keep HB2.o).keep HK2.o,(HN.o.keep HB2.o).keep HK2.o⟩)
         go_wp2_with fail;go_meet
         exact⟨M2,w2.heap.size,_,rfl,rfl,HQ⟩)
  case rest=>
    obtain⟨M2,T9,W9,rfl,rfl,hR⟩:=hcut;clear HC1 HL HN;have t0:=hR.o.t9.c0;go_wp2_with fail;refine(HAP.o M2 _ na _ hR.o.m2 hR.o.hn).m ?_;rintro e w3 ⟨rfl,hm,hg⟩;have HR3:=hD (hR.o.app hm hg);clear t0 hR hm hg HAP;have t0:=HR3.o.t9.c0;have t1:=HR3.o.t9.c1;by_cases h0:L=[]
    · subst h0;have r0:=HR3.o.ac.rb.c0;have r1:=HR3.o.ac.rb.c1;have f0:=HR3.o.ac.rb.f0;have f1:=HR3.o.ac.rb.f1;have hg:=iE w3 (ch w) (.pointer (cw M2 0)) (.map (some b));have HST:Hid (StM (fP w3 (ch w) (.pointer (cw M2 0)) (.map (some b))) M2 b ⟨G,s.D⟩):=hD (StM.box ⟨HR3.o.m2,HR3.o.ac.st.2⟩ HR3.o.ac.rb (λc e=>by cases e) (λc e=>by cases e) hg);have HBE:Hid (Below w w (fP w3 (ch w) (.pointer (cw M2 0)) (.map (some b)))):=hD ((HR3.o.ac.g.setCell sO _).setCell sO _);have j0:=(HR3.o.ac.rb.put (.pointer (cw M2 0)) (.map (some b))).c0;have j1:=(HR3.o.ac.rb.put (.pointer (cw M2 0)) (.map (some b))).c1;clear hg;go_wp2_with fail;go_loopw [47] (λi wr=>i= .int .i64 0/\wr=w3) (λi _=>0)
      case atStart=>exact⟨rfl,rfl⟩
      case round=>
        obtain⟨rfl,rfl⟩:=hrel;go_wp2_with fail;refine br (.tuple #[stV M2 b,oo]) ?_;exact⟨M2,b,rfl,HST.o,HBE.o⟩
    · have hpos:0<L.length:=List.length_pos_iff.2 h0;have hL6:=HR3.o.hl.1;have hp1:(0:Int)<L.length:=oM
      have b1:=HR3.o.ac.bx.c1;have f1:=HR3.o.t9.f1;go_wp2_with fail;refine(Vd b s.D _ HR3.o.ac.st.2).m ?_;rintro e w4 ⟨rfl,hmd,hb⟩;have HR4:=hD (HR3.o.aIx hb);have HR5:=hD (HR4.o.put w3);have hT9:T9<w3.heap.size:=HR3.o.t9.lt;have HMD5:Hid (oV (w4.setCell (cw T9 1) (.map (some w3.heap.size))) w3 s.D):=hD (hmd.grown (aJ w4 (cw T9 1) _) (λe=>by injection e with e;simp only at e;omega));have HG5:Hid (w3.grownBy (w4.setCell (cw T9 1) (.map (some w3.heap.size))) (some T9)):=hD (World.grownBy.next (dD hb _) (aJ w4 (cw T9 1) (.map (some w3.heap.size))));have hsz:=hb.size;have t0':=HR4.o.t9.c0;have t1':=HR4.o.t9.c1;have f1':=HR4.o.t9.f1;clear hmd hb t0 t1 b1 f1;go_wp2_with fail;generalize w4.setCell (cw T9 1) (.map (some w3.heap.size))=W5 at *;clear t0' t1' f1';go_loopw [47] (λi wr=>∃j:Nat,j<=L.length/\i= .int .i64 j/\Hid (oV wr w3 (sF s.D (L.take j)))/\Hid (Bx wr T9 87 (.pointer (cw M2 0)) (.map (some w3.heap.size)))/\Hid (w3.grownBy wr (some T9))) (λi _=>L.length-(intOf i).toNat)
      case atStart=>exact⟨0,Yf _,rfl,HMD5,hD HR5.o.t9,HG5⟩
      case round=>
        clear HMD5 HG5 HR5 HR4;obtain⟨j,hj,rfl,hmd,hbx,hg⟩:=hrel;have hr:=hD (HR3.o.box hg.o hbx.o);by_cases hlt:j<L.length
        · obtain⟨lb,lo,rfl,hat⟩:=hr.o.hl.at oM;obtain⟨⟨sl,⟨y0,y1,y2,y3,y4,y5,y6,y7⟩⟩,hx⟩:∃x,L[j]=x:=⟨_,rfl⟩;obtain⟨q,q0,q1,q2,q3,q4,q5,q6,q7⟩:=hat j _ (Qa hlt);obtain⟨sl0,sl1⟩:=HSL.o _ (Qm hlt);have htk:=Oz s.D L j hlt;rw[hx]at q q0 q1 q2 q3 q4 q5 q6 q7 sl0 sl1 htk;simp only at q q0 q1 q2 q3 q4 q5 q6 q7 sl0 sl1 htk;obtain⟨si,rfl⟩:=Qr sl0;have hka:=(bQ wr).aIw (cq #[si,.int .u8 y0,.int .u8 y1,.int .u8 y2,.int .u8 y3,.int .u8 y4,.int .u8 y5,.int .u8 y6,.int .u8 y7] 151);have hbx2:=hbx.o.aIx hka;obtain⟨w6,hrun,hm6,hg6⟩:=(hmd.o.aIx hka).store (show si<65536 by omega) ⟨y0,y1,y2,y3,y4,y5,y6,y7⟩;unfold Bk.v at hrun;simp only at hrun;rw[Int.toNat_natCast]at htk;have HM6:Hid (oV w6 w3 (sF s.D (L.take (j+1)))):=hD (by rw[htk];exact hm6);have HGw:Hid (w3.grownBy w6 (some T9)):=hD (qC (qC hg.o (dD hka (some w3.heap.size)) (Ye _)) hg6 (Ye _));have HBx:Hid (Bx w6 T9 87 (.pointer (cw M2 0)) (.map (some w3.heap.size))):=hD (hbx2.grown hg6 (λe=>by injection e with e;omega));have t1:=hbx2.c1;have hk0:(0:Int)<=j:=oM
          have hk1:(j:Int)<L.length:=oM
          clear hat hx htk hmd hbx hg hr hka hbx2 hm6 hg6 sl0 sl1;go_wp2_with fail;go_roundw
          case rel=>exact⟨j+1,oM,by go_num,HM6,HBx,HGw⟩
          case measure=>simp[intOf];omega
        · obtain rfl:j=L.length:=oM
          rw[Qq (Ye _)]at hmd;have t0:=hbx.o.c0;have t1:=hbx.o.c1;have r0:=hr.o.ac.rb.c0;have r1:=hr.o.ac.rb.c1;have f0:=hr.o.ac.rb.f0;have f1:=hr.o.ac.rb.f1;have hg7:=iE wr (ch w) (.pointer (cw M2 0)) (.map (some w3.heap.size));have HST:Hid (StM (fP wr (ch w) (.pointer (cw M2 0)) (.map (some w3.heap.size))) M2 w3 ⟨G,sF s.D L⟩):=hD (StM.box ⟨hr.o.m2,hmd.o⟩ hr.o.ac.rb (λc e=>by cases e) (λc e=>by cases e) hg7);have HBE:Hid (Below w w (fP wr (ch w) (.pointer (cw M2 0)) (.map (some w3.heap.size)))):=hD ((hr.o.ac.g.setCell sO _).setCell sO _);have j0:=(hr.o.ac.rb.put (.pointer (cw M2 0)) (.map (some w3.heap.size))).c0;have j1:=(hr.o.ac.rb.put (.pointer (cw M2 0)) (.map (some w3.heap.size))).c1;clear hg7 hmd hbx hg hr;go_wp2_with fail;refine br (.tuple #[stV M2 w3,oo]) ?_;exact⟨M2,w3.heap.size,rfl,HST.o,HBE.o⟩
end
def aCy(s:MSt Bk)(c:Cmd Bk)(w:Wd)(e:Ending)(w':Wd):Prop:=
 ∃M2 b2 s2,e= .returned (.tuple #[stV M2 b2,(fE s.F c)])/\Nx Bk.zero s c s2/\StM w' M2 b2 s2/\Below w w w'
theorem Nv.no{s:MSt Bk}{c:Cmd Bk}{w:Wd}{x:Int}(hx:fE s.F c=x)(h0:x≠0):∀e w',Nv s s.F s.D x w e w'->aCy s c w e w':=by
 rintro e w' ⟨M2,b2,rfl,h1,h2⟩;exact⟨M2,b2,s,by rw[hx],⟨λ_=>rfl,λh=>absurd (hx.symm.trans h) h0⟩,h1,h2⟩
theorem Nv.fam{s:MSt Bk}{c:Cmd Bk}{w:Wd}(hx:fE s.F c=0)(hk:c.kd≠2):∀e w',Nv s (Ca s.F c) (sF s.D []) 0 w e w'->aCy s c w e w':=by
 rintro e w' ⟨M2,b2,rfl,h1,h2⟩;exact⟨M2,b2,⟨Ca s.F c,s.D⟩,by rw[hx],⟨λh=>absurd hx h,λ_=>by rw[Qe hk]⟩,h1,h2⟩
theorem NR{F:Fam}(h:F.sound):∀v∈F.vs,v.l.length<=8000:=λv hv=>by
 have h1:=(h.ok.vol v hv).short.2;have h2:=h.small v hv;omega
theorem Tw(M b:Nat)(s:MSt Bk)(c:Cmd Bk)(a:OA)(k:Nat)(w:Wd)(hs:s.fine)(h:StM w M b s)(hv:c.valid=true)(hd:RdB w a c.data)(h5:c.kd=5->c.n<=255)(hk:c.kd≠1/\c.kd≠4):
  ep 42 #[stV M b,cmV c a k] w (aCy s c w):=by
 have hF:=hs.sound.ok;have hs8:=NR hs.sound;have hs9:∀v∈s.F.vs,v.l.length<=9000:=λv hv=>by have:=hs8 v hv;omega
 obtain⟨kr,kn,ko⟩:=tQ hv;have hnm:=vI hv hk.2;have hot:=Gn hv;obtain⟨v3,v5,v2⟩:=Cm hv;have hna:=Lv hs.sound hs.once hv;obtain⟨x,hx⟩:∃x,fE s.F c=x:=⟨_,rfl⟩;have hkk:c.kd=2∨c.kd=3∨c.kd=5∨c.kd=6∨c.kd=7:=oM
 have hno:= @Nv.no _ s c w x hx;have hfa:= @Nv.fam _ s c w;rcases hkk with k2|k3|k5|k6|k7
 ·rw [PX k2]at hx;obtain⟨q1,q2,q3,q4,q5⟩:=v2 k2;by_cases h0:x=0
  ·subst h0;obtain⟨v,p0,n0,k0,g1,g2,g3,g4,g5,g6,g7,g8,g9⟩:=WT hs.sound hs.once hx;obtain⟨G,L,hw⟩:=g9.at n0 (Ye _);have hnote:=g9.note_le g6;have hap:=g9.apply hw oM;obtain⟨tag,kd,ao,af,vol,oth,p,n,data⟩:=c;simp only at k2 g2 g3 g4 q1 hd;subst k2 g2 g3 g4;obtain rfl:data.length=n0:=oM
   have hpl:∀W,Below w w W->ep 75 #[stV M b,cmV ⟨tag,2,ao,af,v.nm,oth,p0,(data.length:Int),data⟩ a k] W (rO _ _ 0 W):=λW hb=>
    NQ M b s tag ao af oth data.length data a k W hs (h.aIx hb) (hd.keep hb) v p0 k0 g1 (by have:=g9.le;omega) hx g7 g8 _ rfl
   refine(qI M b s tag 2 ao af v.nm oth p0 data.length data a k w h _ _ hpl hF hs8 G hap ?_).m ?_
   ·intro y hy;unfold wrL at hy;obtain⟨j,hj,rfl⟩:=Yd.1 hy;have:=g9.aJi (List.mem_range.1 hj);have h6:=hF.hN;exact⟨this.1,by show bK _ _ _ _ _<_;omega⟩
   ·rintro e w' ⟨M2,b2,rfl,h1,h2⟩;refine⟨M2,b2,⟨G,sF s.D (wrL s.F.C v.l p0 (Al s.F v.nm p0 k0) data data.length)⟩,by rw[PX rfl,hx],⟨λh=>absurd (by rw[PX rfl];exact hx) h,λ_=> ?_⟩,h1,h2⟩;rw[Qf rfl];exact⟨v,p0,data.length,_,L,rfl,rfl,rfl,g9,hw,WU _ _ _ _ _ _ _⟩
  ·obtain ⟨tag,kd,ao,af,vol,oth,p,n,data⟩:=c;simp only at k2 hnm q1 q2 q3 q4 q5 hx hd;subst k2;have hpl:∀W,Below w w W->ep 75 #[stV M b,cmV ⟨tag,2,ao,af,vol,oth,p,n,data⟩ a k] W (rO [] [] x W):=λW hb=>
    Td M b s tag ao af vol oth p n data a k W hF hs9 (h.aIx hb) oM x (by unfold gJ;omega) oM (by rw[q1];exact hx) h0
   exact(sD M b s tag 2 ao af vol oth p n data a k w h _ _ x hpl h0).mono (hno h0)
 ·have hx':=hx;rw[aHf k3]at hx;have hna3:=λhe=>hna (.inl k3) h5 he;obtain⟨tag,kd,ao,af,vol,oth,p,n,data⟩:=c;simp only at k3 hnm hx v3;subst k3;obtain⟨q1,q2,q3,q4⟩:=v3 (by first|rfl|trivial);have hpl:∀W,Below w w W->ep 75 #[stV M b,cmV ⟨tag,3,ao,af,vol,oth,p,n,data⟩ a k] W (rO [] (if x=0 then uD vol p n else []) x W):=λW hb=>
   aAk M b s tag ao af vol oth p n data a k W hF hs9 (h.aIx hb) oM x (by unfold gJ;omega) hx _ rfl
  by_cases h0:x=0
  ·subst h0;exact(qI M b s tag 3 ao af vol oth p n data a k w h _ _ hpl hF hs8 _ (hna3 hx') sM).mono (hfa hx' sM)
  ·exact(sD M b s tag 3 ao af vol oth p n data a k w h _ _ x hpl h0).mono (hno h0)
 ·have hx':=hx;rw[aHe k5]at hx;have hna3:=λhe=>hna (.inr (.inl k5)) h5 he;obtain⟨tag,kd,ao,af,vol,oth,p,n,data⟩:=c;simp only at k5 hnm hx;subst k5;have hpl:∀W,Below w w W->ep 75 #[stV M b,cmV ⟨tag,5,ao,af,vol,oth,p,n,data⟩ a k] W (rO [] (if x=0 then uF vol n p else []) x W):=λW hb=>
   aAj M b s tag ao af vol oth p n data a k W hF hs9 (h.aIx hb) oM x hx _ rfl
  by_cases h0:x=0
  ·subst h0;exact(qI M b s tag 5 ao af vol oth p n data a k w h _ _ hpl hF hs8 _ (hna3 hx') sM).mono (hfa hx' sM)
  ·exact(sD M b s tag 5 ao af vol oth p n data a k w h _ _ x hpl h0).mono (hno h0)
 ·have hx':=hx;rw[aHd k6]at hx;have hna3:=λhe=>hna (.inr (.inr (.inl k6))) h5 he;have ho2:=hot k6;obtain⟨tag,kd,ao,af,vol,oth,p,n,data⟩:=c;simp only at k6 hnm hx ho2;subst k6;have hpl:∀W,Below w w W->ep 75 #[stV M b,cmV ⟨tag,6,ao,af,vol,oth,p,n,data⟩ a k] W (rO [] (if x=0 then uG vol oth else []) x W):=λW hb=>
   aAi M b s tag ao af vol oth p n data a k W hF hs9 (h.aIx hb) oM x oM hx _ rfl
  by_cases h0:x=0
  ·subst h0;exact(qI M b s tag 6 ao af vol oth p n data a k w h _ _ hpl hF hs8 _ (hna3 hx') sM).mono (hfa hx' sM)
  ·exact(sD M b s tag 6 ao af vol oth p n data a k w h _ _ x hpl h0).mono (hno h0)
 ·have hx':=hx;rw[aHc k7]at hx;have hna3:=λhe=>hna (.inr (.inr (.inr k7))) h5 he;obtain⟨tag,kd,ao,af,vol,oth,p,n,data⟩:=c;simp only at k7 hnm hx;subst k7;have hpl:∀W,Below w w W->ep 75 #[stV M b,cmV ⟨tag,7,ao,af,vol,oth,p,n,data⟩ a k] W (rO [] (if x=0 then uE vol else []) x W):=λW hb=>
   aAh M b s tag ao af vol oth p n data a k W hF hs9 (h.aIx hb) oM x hx _ rfl
  by_cases h0:x=0
  ·subst h0;exact(qI M b s tag 7 ao af vol oth p n data a k w h _ _ hpl hF hs8 _ (hna3 hx') sM).mono (hfa hx' sM)
  ·exact(sD M b s tag 7 ao af vol oth p n data a k w h _ _ x hpl h0).mono (hno h0)
structure Od3(W:Wd)(X:Nat):Prop where
 three:∀i,3<=i->W (cw X i)=none
 noi:∀i k c,2<=i->W (cw X i)≠some (.int k c)
 ty:∃t,3≠t/\157≠t/\87≠t/\jH W X t
theorem Bx3.od3{W:Wd}{X:Nat}{t:TypeId}{u v x:Value}(h:Bx3 W X t u v x)(h1:3≠t)(h2:157≠t)(h3:87≠t)(hx:∀k c,x≠ .int k c):Od3 W X:=by
 refine⟨h.c3,λi k c hi=> ?_,t,h1,h2,h3,h.ty⟩
 match i,hi with
 |2,_=>rw[h.c2];intro e;exact hx k c (Qv e)
 |i+3,_=>rw[h.c3 _ oM];intro e;cases e
section
variable{W W':Wd}{X:Nat}(hX:Od3 W X)(hg:W.grownBy W' (some X))
include hX hg
theorem RdI.aJk{a:OA}{C:List Int}(h:RdI W a C):RdI W' a C:=by
 refine⟨h.1,h.2.imp id λ⟨b,o,ha,ht,hat⟩=> ?_⟩;obtain⟨t,h1,_,_,h4⟩:=hX.ty;have hne:b≠X:=ht.ne h4 h1;exact⟨b,o,ha,ht.grown hg hne,λk c hk=>aA hg (hat k c hk) hne⟩
theorem aD.aJk(t:Tr):∀{v:Value},aD W v t->aD W' v t:=by
 induction t with
 |nil=>exactλhv=>hv
 | node l x r ihl ihr=>
  rintro v ⟨b,vl,vr,hv,hn,hl,hr⟩;have hne:b≠X:=λe=>by
   subst e;have:=hn.m;rw[hX.three 7 oM]at this;cases this
  have k:∀{j u},W (cw b j)=some u->W' (cw b j)=some u:=λh=>aA hg h hne;exact⟨b,vl,vr,hv,⟨k hn.a,k hn.n,k hn.s,k hn.l,k hn.r,k hn.d,k hn.c,k hn.m⟩,ihl hl,ihr hr⟩
theorem bG.aJk{fv:Value}{F:Fam}(hf:bG W fv F):bG W' fv F:=by
 obtain⟨a,c,mb,h1,h2,ts,h3,h4,h5⟩:=hf;refine⟨a,c,mb,h1,⟨h2.1.aJk hX hg,h2.2.le hg.size⟩,ts,h3,λp hp=>aD.aJk hX hg p.t (h4 p hp),h5.elim .inl λ⟨b,q1,q2⟩=> .inr ⟨b,q1,?_⟩⟩;refine World.ownsMap.kept q2 hg ?_;obtain⟨es,clock,hb,r⟩:=q2;obtain⟨t,_,_,_,cs,s,hty⟩:=hX.ty;intro e;injection e with e;subst e;rw[hb]at hty;cases hty
theorem StM.aJk{M b:Nat}{s:MSt Bk}(h:StM W M b s):StM W' M b s:=by
 obtain⟨⟨x,y,h1,h2⟩,h3⟩:=h;obtain⟨t,_,t2,_,ht⟩:=hX.ty;refine⟨⟨x,y,h1.grown hg (λe=> ?_),h2.aJk hX hg⟩,h3.grown hg λe=> ?_⟩
 ·injection e with e;subst e;exact h1.ty.ne ht t2 rfl
 ·injection e with e;subst e;obtain⟨es,⟨cs,clock,hb,_⟩,_⟩:=h3;obtain⟨cs,s,hty⟩:=ht;rw[hb]at hty;cases hty
theorem oU.aJk{a:OA}{ps:List PS}(h:oU W a ps):oU W' a ps:=by
 obtain⟨t,_,_,t3,ht⟩:=hX.ty;refine⟨h.1,h.2.imp id λ⟨g,o,h1,hty,h2⟩=> ?_⟩;have hne:g≠X:=hty.ne ht t3;exact⟨g,o,h1,hty.grown hg hne,λk p hk=>⟨aA hg (h2 k p hk).m hne,aA hg (h2 k p hk).b hne⟩⟩
theorem LPa.aJk{ps:List PS}(h:LPa W ps):LPa W' ps:=λp hp=>(h p hp).aJk hX hg
theorem RdB.aJk{a:OA}{D:List Bk}(h:RdB W a D):RdB W' a D:=by
 refine ⟨h.1,h.2.imp id λ⟨b,o,ha,hat⟩=>⟨b,o,ha,λk z hk=> ?_⟩⟩;have q:=hat k z hk;have hne:b≠X:=λe=>by
  subst e;have h1:=q.c7;rw[hX.three _ oM]at h1;cases h1
 exact⟨aA hg q.c0 hne,aA hg q.c1 hne,aA hg q.c2 hne,aA hg q.c3 hne,aA hg q.c4 hne,aA hg q.c5 hne,aA hg q.c6 hne,aA hg q.c7 hne⟩
end
theorem oU.source{w:Wd}{a:OA}{ps:List PS}(hr:oU w a ps):w.source 2 a ps.length (ps.flatMap PS.cells):=by
 have hl:(ps.flatMap PS.cells).length=ps.length*2:=kM PS.cells 2 (λ_=>rfl) ps;refine⟨hl,λu hu=> ?_,?_⟩
 ·obtain⟨p,_,hp⟩:=List.mem_flatMap.1 hu;exact PS.one p u hp
 ·rcases hr.2 with rfl|⟨g,o,rfl,_,hat⟩
  ·cases a with
   |none=>exact .inl ⟨rfl,rfl⟩
   |some ad=>exact .inr ⟨ad,rfl,λj u hj=>by simp at hj⟩
  ·refine .inr ⟨_,rfl,λj u hj=> ?_⟩;have hjl:=(Qx.1 hj).1;have hk:j/2<ps.length:=oM
   have hp:=hat (j/2) _ (Qa hk);have hf:=flat_get PS.cells 2 (λ_=>rfl) ps (j/2) _ (Qa hk) (j%2) oM;rw[show j/2*2+j%2=j by omega,hj]at hf;have hadd:(((cw g o):Addr).add j)=(cw g (o+j)):=by unfold Addr.add;split <;> simp_all
   rw[hadd];rcases(by omega:j%2=0∨j%2=1)with e|e
   ·rw[e]at hf;have hu:u= .pointer (cw (ps[j/2].M) 0):=by simpa [PS.cells]using hf
    rw[hu,<-hp.m];congr 2;omega
   ·rw[e]at hf;have hu:u= .map (some ps[j/2].b):=by simpa [PS.cells]using hf
    rw[hu,<-hp.b];congr 2;omega
theorem gW.lit(w:Wd)(B:Nat)(hB:B<=w.heap.size):gW (w.alloc (cq #[] 87)) B (.slice (cw w 0) 0 0) []:=by
 refine⟨sM,.inr ⟨w.heap.size,0,#[],rfl,hB,Yn,sM,by simp[maxLen],sM,sM⟩⟩
theorem Iw(ps:List PS)(a:OA)(c:Nat)(w:Wd)(hr:oU w a ps):
  ep 43 #[.slice a ps c] w λe w'=>∃v,e= .returned v/\gW w' w v ps/\Below w w w':=by
 obtain⟨i0,hi,hz0,hz1,hz2⟩:=info_parts YD;have hl:=hr.1;have q22:∀(w:Wd) (a:OA) (n c n' c':Nat),(binOp .eql 88 (.slice a n c) (.slice none n' c')).run prog w= .ok (.bool a.isNone) w:=λw a n c n' c'=>Lib.run_eql_slice_nil w _ _ a n c n' c' underlying88
 cases a with
 | none=>
  have h0:ps=[]:=by
   rcases hr.2 with h|⟨b,o,h,_⟩
   ·exact h
   ·cases h
  subst h0;go_enter func43,ntmps43;go_wp2_with fail;go_ret;exact⟨_,rfl,gW.nil _ _,bR⟩
 | some ad=>
  have H0:=hD (gW.lit w w.heap.size (Ye _));have HS:=hD (hr.keep (bR.aIw (cq #[] 87))).source;go_enter func43,ntmps43
  go_wp2_with (at_builtin;refine dB _ rfl _ _ 88 rfl w.heap.size 87 i0 (.agg #[.pointer none,.map none]) 2 16 underlying88 hi hz0 hz1 hz2 rfl dE _ _ _ rfl H0.o _ _ _ _ rfl HS.o (by first|omega|(simp only[List.length_nil,Qg,List.length_cons];omega)) (by first|(simp only[maxLen];omega)|(simp only[maxLen,List.length_nil,Qg,List.length_cons];omega)) (by first|omega|(simp only[World.size_alloc];omega)) ?_;intro v1 w1 hown1 hgrow1 hwhere1)
  go_ret;refine⟨_,rfl,?_,(bR.aIw _).aJa hgrow1 λj hj=>(H0.o.lt j hj).1⟩;exact gW.append (l:=[]) hown1 sM
end Go.Proofs.YtphfgbbbejloaaaGreatDoor
