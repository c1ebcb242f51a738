/- tegularef48: write. Conditions: as each theorem says. -/
import Derived.Test.YtphfgbbbejloaaaGreatDoorMfF
import Derived.Deep.RegionLawGrows
set_option linter.unusedSimpArgs false
set_option linter.unusedVariables false
set_option maxRecDepth 100000
set_option maxHeartbeats 16000000
namespace Go
theorem VQ{P:Prop}(h:P:=by
  have e0:=HX.o.c0;have e1:=HX.o.c1;have e2:=HX.o.c2;have e3:=HX.o.f0;have e4:=HX.o.f1;have e5:=HX.o.f2;have HFIN:=hD (WQ.of HA1.o HB4.o HX.o HO.o HP3.o HJ3.o HG.o HT.o HGT.o);refine rdy 16 λK hK=> ?_;go_simp;refine hK.out _ _ HFIN.o.held (λhHeld=> ?_);clear hK K
  try simp only[Act.put,sp]
  refine wpAnyH_done kR ?_ _;clear e0 e1 e2 e3 e4 e5 HX HO HG HP3 HJ3 HT HGT;go_wp2_with fail;go_meet;exact⟨_,rfl,HFIN⟩
  ):P:=h
theorem aDo{P:Prop}(h:P:=by
  refine hK.out _ _ hS9 (λhHeld=> ?_);clear hK K
  try simp only[Act.put,sp]
  exact wow0
  ):P:=h
theorem aDn{P:Prop}(h:P:=by
  have hS9:=HA1.o.aIx HB2.o;refine hK.out _ _ hS9 (λhHeld=> ?_);clear hK K
  try simp only[Act.put,sp]
  exact wow3
  ):P:=h
theorem aDm{P:Prop}(h:P:=by
  refine hK.out _ _ HM3.o.ma (λhHeld=> ?_);clear hK K
  try simp only[Act.put,sp]
  exact woa0
  ):P:=h
theorem aDl{P:Prop}(h:P:=by
  refine hK.out _ _ HM2.o.ma (λhHeld=> ?_);clear hK K
  try simp only[Act.put,sp]
  exact woa1
  ):P:=h
theorem aDk{P:Prop}(h:P:=by
  refine hK.out _ _ hS9 (λhHeld=> ?_);clear hK K
  try simp only[Act.put,sp]
  exact wow2
  ):P:=h
theorem aDj{P:Prop}(h:P:=by
  refine hK.out _ _ hS9 (λhHeld=> ?_);clear hK K
  try simp only[Act.put,sp]
  exact wow1
  ):P:=h
namespace RowKit
section
variable{P:Program}(w:Wd)
end
end RowKit
end Go
namespace Go.Proofs.YtphfgbbbejloaaaGreatDoor
open Go.Proofs.Tryz
open Go.RowKit Go.Maps
theorem wow0{P:Prop}(h:P:=by
  refine rdy 13 λK hK=> ?_
  ·refine yD (by rfl) (.tmp 36) (.tmp 38) (by rfl) i0 hi hz0 hz1 hz2 _ (by rfl) da dc L0 (by go_simp;rw[HL0.o]) (HRD0.o.keep HB3.o) HLN.o ?_;intro g1 k1 wq4 hge HO HBz;have HB4:=hD (HB3.o.on HBz.o);have HG:=hD (HG.o.keep HBz.o);have HGT:Hid (g1≠T):=hD (by have:=HX.o.lt;omega);have HX:=hD (HX.o.aIx HBz.o);have HO:=hD (HO.o.mono HB3.o.size);clear hge HBz;have hS9:=HA1.o.aIx HB4.o;refine hK.out _ _ hS9 (λhHeld=> ?_);clear hK K
   try simp only[Act.put,sp]
   refine rtk 14 ?_;exact VQ
  ):P:=h
theorem wow1{P:Prop}(h:P:=by
  refine TJ 13 15 (λK hK=> ?_) (λK hK=> ?_)
  ·refine yD (by rfl) (.tmp 36) (.tmp 38) (by rfl) i0 hi hz0 hz1 hz2 _ (by rfl) da dc L0 (by go_simp;rw[HL0.o]) (HRD0.o.keep HB2.o) HLN.o ?_;intro g1 k1 wq3 hge HO HBz;have HB3:=hD (HB2.o.on HBz.o);have HG:=hD (HG.o.keep HBz.o);have HO:=hD (HO.o.mono HB2.o.size);clear hge HBz;have hS9:=HA1.o.aIx HB3.o;refine hK.out _ _ hS9 (λhHeld=> ?_);clear hK K
   try simp only[Act.put,sp]
   refine rtk 14 ?_;refine rdy 15 λK hK=> ?_
   ·go_simp;have hbz:=(bQ wq3).aIw (cq #[oo,sn,sn] 31);have HX:=hD (Bx3.new wq3 _ rfl oo sn sn 31);have HB4:=hD (HB3.o.on hbz);have HT:=hD HB3.o.size;have HG:=hD (HG.o.keep hbz);have HGT:Hid (g1≠wq3.heap.size):=hD (by have:=(HO.o.lt g1 rfl).2;omega);have HO:=hD (HO.o.keep hbz);clear hbz;obtain⟨T,hT⟩:∃n,wq3.heap.size=n:=⟨_,rfl⟩;obtain⟨wq4,hwz⟩:∃W,wq3.alloc (cq #[oo,sn,sn] 31)=W:=⟨_,rfl⟩;rw[hT,hwz];rw[hwz]at HB4 HX HG HO;rw[hT]at HX HT HGT;clear hwz hT;have hS9:=HA1.o.aIx HB4.o;refine hK.out _ _ hS9 (λhHeld=> ?_);clear hK K
    try simp only[Act.put,sp]
    exact VQ
  ·go_simp;have hbz:=(bQ wq2).aIw (cq #[oo,sn,sn] 31);have HX:=hD (Bx3.new wq2 _ rfl oo sn sn 31);have HB3:=hD (HB2.o.on hbz);have HT:=hD HB2.o.size;have HG:=hD (HG.o.keep hbz);clear hbz;obtain⟨T,hT⟩:∃n,wq2.heap.size=n:=⟨_,rfl⟩;obtain⟨wq3,hwz⟩:∃W,wq2.alloc (cq #[oo,sn,sn] 31)=W:=⟨_,rfl⟩;rw[hT,hwz];rw[hwz]at HB3 HX HG;rw[hT]at HX HT;clear hwz hT;have hS9:=HA1.o.aIx HB3.o;exact aDo
  ):P:=h
theorem wow2{P:Prop}(h:P:=by
  refine rdy 10 λK hK=> ?_
  ·go_simp;have hbz:=(bQ wq2).aIw (cq #[] 56);have HB3:=hD (HB2.o.on hbz);have HX:=hD (HX.o.aIx hbz);have HG:=hD (HG.o.keep hbz);clear hbz;obtain⟨la,hla⟩:∃n,wq2.heap.size=n:=⟨_,rfl⟩;obtain⟨wq3,hwz⟩:∃W,wq2.alloc (cq #[] 56)=W:=⟨_,rfl⟩;rw[hla,hwz];rw[hwz]at HB3 HX HG;clear hwz hla;have hS9:=HA1.o.aIx HB3.o;exact aDo
  ):P:=h
theorem wow3{P:Prop}(h:P:=by
  refine rdy 9 λK hK=> ?_
  ·go_simp;refine(HW37.o _ HB2.o).m ?_;rintro e wq3 ⟨ga,gn,gc,S,G,L,rfl,HP3,HJ3,HG,HBz,HB3,H3⟩;have HX:=hD (HX.o.aIx HBz.o);have hS9:=show RW w wq3 va vn vc da dc s ⟨tag,2,ao,af,v.nm,oth,p0,data.length,data⟩ a k from H3.o;clear H3 HBz;exact aDo
  ):P:=h
theorem RdB.source{w:Wd}{a:OA}{L:List Bk}(hr:RdB w a L):w.source 8 a L.length (L.flatMap Bk.cells):=by
 have hl:(L.flatMap Bk.cells).length=L.length*8:=kM Bk.cells 8 (λ_=>rfl) L;refine⟨hl,λu hu=> ?_,?_⟩
 ·obtain⟨p,_,hp⟩:=List.mem_flatMap.1 hu;exact Bk.one p u hp
 ·rcases hr.2 with rfl|⟨g,o,rfl,hat⟩
  ·cases a with
   |none=>exact .inl ⟨rfl,rfl⟩
   |some ad=>exact .inr ⟨ad,rfl,λj u hj=>by simp at hj⟩
  ·refine .inr ⟨_,rfl,λj u hj=> ?_⟩;have hjl:=(Qx.1 hj).1;have hk:j/8<L.length:=oM
   have hp:=hat (j/8) _ (Qa hk);have hf:=flat_get Bk.cells 8 (λ_=>rfl) L (j/8) _ (Qa hk) (j%8) oM;rw[show j/8*8+j%8=j by omega,hj]at hf;have hadd:(((cw g o):Addr).add j)=(cw g (o+j)):=by unfold Addr.add;split <;> simp_all
   rw[hadd,show o+j=o+j/8*8+j%8 by omega];obtain⟨c0,c1,c2,c3,c4,c5,c6,c7⟩:=hp;generalize hq:j%8=q at hf ⊢;have hq8:q<8:=oM
   match q,hq8 with
   |0,_=>rw[hf];exact c0
   |1,_=>rw[hf];exact c1
   |2,_=>rw[hf];exact c2
   |3,_=>rw[hf];exact c3
   |4,_=>rw[hf];exact c4
   |5,_=>rw[hf];exact c5
   |6,_=>rw[hf];exact c6
   |7,_=>rw[hf];exact c7
theorem eZ.row{w:Wd}{B n:Nat}{v:Value}{l:List Bk}(h:w.ownsRow B 56 8 v n ([]++l.flatMap Bk.cells))(hn:n=l.length):eZ w B v l:=by
 subst hn;exact h
theorem yD{w:Wd}{ops:Array Oper}{o:Oper}{a:Act}{K:Act->Wd->Prop}{Q:Exit->Act->Wd->Prop}{F:Prop}(hgd:o.guard=none)(s x:Operand)
  (ho:o.op= .call {callee:= .builtin .append,args:= #[s,x],argTypes:= #[29,29]})
  (i0:TypeInfo) (hi:prog.info? 56=some i0) (hz0:i0.zero=some Bk.zero.v) (hz1:i0.size=8) (hz2:i0.bytes=8)
  (lit:Addr) (hs:a.eval s= .slice (some lit) 0 0) (da:OA) (dc:Nat) (L:List Bk) (hx:a.eval x= .slice da L dc) (hsrc:RdB w da L) (hl:0<L.length/\L.length<=65536)
  (h:∀g k1 w',w.heap.size<=g->Hid (eZ w' w (.slice (cw g 0) L k1) L)->Hid (Below w w w')->K (a.put o.dst (.slice (cw g 0) L k1)) w'):
  if Region.wanted o (yielded ops a.tmps)=true then Oper.wp prog o a w K Q else F:=by
 have hfl:(L.flatMap Bk.cells).length=L.length*8:=kM Bk.cells 8 (λ_=>rfl) L;have hsr:=hsrc.source;obtain⟨_,h1,⟨_,h0⟩|⟨ad,rfl,hnews⟩⟩:=hsr
 ·omega
 ·refine step_append_grows hgd s x 29 ho 56 i0 Bk.zero.v 8 8 underlying29 hi hz0 hz1 hz2 rfl dE (some lit) 0 0 [] hs (by intro e;cases e) rfl (by intro b _ j u hj;simp at hj) ad L.length dc (L.flatMap Bk.cells) hx hfl hnews h1 oM (by simp only[maxLen];omega) oM ?_;intro v1 w4 h1 h2;have h3:eZ w4 w v1 L:=eZ.row h1 oM;rcases h3.2 with ⟨_,hn⟩|⟨g,cap,cur,rfl,hg,_⟩
  ·omega
  ·exact h g cap w4 hg (hD h3) (hD (bR.aJa h2 λk hk=>by cases hk))
structure RW(w W:Wd)(va:OA)(vn vc:Nat)(da:OA)(dc:Nat)(s:MSt Bk)(c:Cmd Bk)(a:OA)(k:Nat):Prop where
 bx:Bx3 W w 31 s.F.N (.slice va vn vc) (.slice da s.F.N dc)
 cb:CB W (cf w) c a k
 rb:Bx3 W (ch w) 31 oo sn sn
 st:RSt W va vn vc da s
 dat:RdB W a c.data
 g:Below w w W
section
variable{w W W':Wd}{va:OA}{vn vc:Nat}{da:OA}{dc:Nat}{s:MSt Bk}{c:Cmd Bk}{a:OA}{k:Nat}
theorem RW.aIx(h:RW w W va vn vc da dc s c a k)(hb:Below W W W'):RW w W' va vn vc da dc s c a k:=
 ⟨h.bx.aIx hb,h.cb.aIx hb,h.rb.aIx hb,h.st.keep hb,h.dat.keep hb,h.g.on hb⟩
theorem RW.fam(h:RW w W va vn vc da dc s c a k):cB W (.agg #[s.F.N,.slice va vn vc]) s.F:=by
 obtain⟨_,_,h2,_⟩:=h.st;exact h2
theorem RW.init(w:Wd)(va:OA)(vn vc:Nat)(da:OA)(dc:Nat)(s:MSt Bk)(c:Cmd Bk)(a:OA)(k:Nat)(h:RSt w va vn vc da s)(hd:RdB w a c.data)(W:Wd)(hW:W=((w.alloc (cq #[s.F.N,.slice va vn vc,.slice da s.F.N dc] 31)).alloc (.cells (bB c a k) 48)).alloc (cq #[oo,sn,sn] 31)):RW w W va vn vc da dc s c a k:=by
 subst hW;have h1:=(bQ w).aIw (cq #[s.F.N,.slice va vn vc,.slice da s.F.N dc] 31);have h2:=(Below.refl (w.alloc (cq #[s.F.N,.slice va vn vc,.slice da s.F.N dc] 31)).heap.size (w.alloc (cq #[s.F.N,.slice va vn vc,.slice da s.F.N dc] 31))).aIw (.cells (bB c a k) 48);have h3:=(Below.refl ((w.alloc (cq #[s.F.N,.slice va vn vc,.slice da s.F.N dc] 31)).alloc (.cells (bB c a k) 48)).heap.size ((w.alloc (cq #[s.F.N,.slice va vn vc,.slice da s.F.N dc] 31)).alloc (.cells (bB c a k) 48))).aIw (cq #[oo,sn,sn] 31);have hk:=(h1.on h2).on h3;exact⟨((Bx3.new w _ rfl _ _ _ _).aIx h2).aIx h3,(CB.new _ _ sM _ _ _ _).aIx h3,Bx3.new _ _ sM _ _ _ _,h.keep hk,hd.keep hk,hk⟩
end
theorem yS{w W:Wd}{T:Nat}(h:Below w w W)(hT:w.heap.size<=T)(u v x:Value):Below w w (xX W T u v x):=((h.setCell hT _).setCell hT _).setCell hT _
theorem aDd:3≠31:=dE
theorem eZ.mono{w:Wd}{B B':Nat}{v:Value}{l:List Bk}(h:eZ w B v l)(hB:B'<=B):eZ w B' v l:=
 ⟨h.1,h.2.imp id λ⟨g,cap,cur,hv,hg,r⟩=>⟨g,cap,cur,hv,Nat.le_trans hB hg,r⟩⟩
def WQ(w w1 W:Wd)(va:OA)(vn vc:Nat)(da:OA)(dc:Nat)(s:MSt Bk)(c:Cmd Bk)(a:OA)(k:Nat)(v:Vol)(p n:Nat)(L0:List Bk)(q:Value):Prop:=
 RW w W va vn vc da dc s c a k/\ ∃T S G L ga gn gc g1 k1,q= .pointer (cw T 0)/\Bx3 W T 31 (.int .i64 (G:Fam).N) (.slice ga gn gc) (.slice (cw g1 0) L0 k1)/\eZ W w1 (.slice (cw g1 0) L0 k1) L0/\PW s.F v p n S/\WrJ s.F v p n S n G L/\cB W (.agg #[G.N,.slice ga gn gc]) G/\Below w1 w1 W/\g1≠T/\w1.heap.size<=T
theorem WQ.held{w w1 W:Wd}{va:OA}{vn vc:Nat}{da:OA}{dc:Nat}{s:MSt Bk}{c:Cmd Bk}{a:OA}{k:Nat}{v:Vol}{p n:Nat}{L0:List Bk}{q:Value}(h:WQ w w1 W va vn vc da dc s c a k v p n L0 q):RW w W va vn vc da dc s c a k:=h.1
theorem WQ.of{w w1 W:Wd}{va:OA}{vn vc:Nat}{da:OA}{dc:Nat}{s:MSt Bk}{c:Cmd Bk}{a:OA}{k:Nat}{v:Vol}{p n:Nat}{L0:List Bk}{T:Nat}{S:List Int}{G:Fam}{L:List E}{ga:OA}{gn gc g1 k1:Nat}
  (h:RW w w1 va vn vc da dc s c a k) (hb:Below w1 w1 W) (hx:Bx3 W T 31 oo sn sn) (ho:eZ W w1 (.slice (cw g1 0) L0 k1) L0) (h1:PW s.F v p n S) (h2:WrJ s.F v p n S n G L) (h3:cB W (.agg #[G.N,.slice ga gn gc]) G) (h4:w1.heap.size<=T) (h5:g1≠T):
  WQ w w1 (xX W T G.N (.slice ga gn gc) (.slice (cw g1 0) L0 k1)) va vn vc da dc s c a k v p n L0 (.pointer (cw T 0)):=by
 have hk:=yS hb h4 G.N (.slice ga gn gc) (.slice (cw g1 0) L0 k1);have hg:=dY W T G.N (.slice ga gn gc) (.slice (cw g1 0) L0 k1);exact⟨h.aIx hk,T,S,G,L,ga,gn,gc,g1,k1,rfl,hx.rep _ _ _,World.ownsRow.kept ho hg (.inr (by intro e;injection e with e;exact h5 e)),h1,h2,h3.aJe (hx.odN aDd (λj d e=>by cases e)) hg,hk,h5,h4⟩
theorem cB.u8{W:Wd}{gv:Value}{F:Fam}{g i:Nat}{c c':Int}(hf:cB W gv F)(hc:W (cw g i)=some (.int .u8 c)):cB (W.setCell (cw g i) (.int .u8 c')) gv F:=by
 have f:∀{b j:Nat} {v:Value},W (cw b j)=some v->(∀d,v≠ .int .u8 d)->(W.setCell (cw g i) (.int .u8 c')).cell? (cw b j)=some v:=λ{b j v} h hv=>by
  refine(Qk _ _ _ _ (λe=> ?_)).trans h;injection e with e1 e2;subst e1 e2;rw[hc]at h;exact hv c (Qv h).symm
 obtain ⟨a,k,ts,h1,h2,h3,h4⟩:=hf;have r2:RdR (W.setCell (cw g i) (.int .u8 c')) a ts:=by
  refine⟨h2.1,?_⟩;rcases h2.2 with e|⟨b,o,ha,hat⟩
  ·exact .inl e
  ·refine .inr ⟨b,o,ha,λk z hk=> ?_⟩;have q:=hat k z hk;exact⟨f q.c0 (λd e=>by cases e),f q.c1 (λd e=>by cases e),f q.c2 (λd e=>by cases e),f q.c3 (λd e=>by cases e)⟩
 refine⟨a,k,ts,h1,r2,λz hz=> ?_,h4⟩;have r:=h3 z hz;refine⟨r.1,?_⟩;rcases r.2 with e|⟨b,o,ha,hat⟩
 ·exact .inl e
 ·refine .inr ⟨b,o,ha,λk z hk=> ?_⟩;have q:=hat k z hk;exact⟨f q.a (λd e=>by cases e),f q.n (λd e=>by cases e),f q.s (λd e=>by cases e)⟩
theorem eZ.rdq{w:Wd}{B n c:Nat}{a:OA}{l:List Bk}(h:eZ w B (.slice a n c) l)(hl:l.length<=1000000):RdB w a l:=by
 obtain⟨a',c',he,hr⟩:=h.rd hl;injection he with he;rw[he];exact hr
abbrev WX(W:Wd)(g k:Nat)(x:Bk):Wd:=(((((((W.setCell (cw g (k*8)) (.int .u8 x.x0)).setCell (cw g (k*8+1)) (.int .u8 x.x1)).setCell (cw g (k*8+2)) (.int .u8 x.x2)).setCell (cw g (k*8+3)) (.int .u8 x.x3)).setCell (cw g (k*8+4)) (.int .u8 x.x4)).setCell (cw g (k*8+5)) (.int .u8 x.x5)).setCell (cw g (k*8+6)) (.int .u8 x.x6)).setCell (cw g (k*8+7)) (.int .u8 x.x7)
theorem cB.put8{W:Wd}{gv:Value}{F:Fam}{g k:Nat}{y:Bk}(hf:cB W gv F)(h:zM W g 0 k y)(x:Bk):cB (WX W g k x) gv F:=by
 have o:∀{V:Wd} {i j:Nat} {z:Value} {r:Option Value},V (cw g i)=r->i≠j->(V.setCell (cw g j) z).cell? (cw g i)=r:=λh hne=>(Qk _ _ _ _ (λe=>hne (by injection e with _ e;exact e.symm))).trans h;obtain⟨c0,c1,c2,c3,c4,c5,c6,c7⟩:=h;rw[Nat.zero_add]at c0 c1 c2 c3 c4 c5 c6 c7;have f1:=hf.u8 (c':=x.x0) c0;have f2:=f1.u8 (c':=x.x1) (o c1 oM);have f3:=f2.u8 (c':=x.x2) (o (o c2 oM) oM);have f4:=f3.u8 (c':=x.x3) (o (o (o c3 oM) oM) oM);have f5:=f4.u8 (c':=x.x4) (o (o (o (o c4 oM) oM) oM) oM);have f6:=f5.u8 (c':=x.x5) (o (o (o (o (o c5 oM) oM) oM) oM) oM);have f7:=f6.u8 (c':=x.x6) (o (o (o (o (o (o c6 oM) oM) oM) oM) oM) oM);exact f7.u8 (c':=x.x7) (o (o (o (o (o (o (o c7 oM) oM) oM) oM) oM) oM) oM)
theorem aBd{F:Fam}{v:Vol}{p n:Nat}{S:List Int}{G:Fam}{L:List E}(h:PW F v p n S)(hw:WrJ F v p n S n G L){j:Nat}(hj:j<n):aX G v.nm ((p:Int)+j)=(bK F.C v.l p S j,true,0):=by
 have hle:=h.le;have hs:=hw.at' ((p+j:Nat):Int);rw[lU hj,lJ,show((p+j:Nat):Int)=(p:Int)+j by omega]at hs;unfold aX;rw[hw.get];simp only;have hin:inB ((p:Int)+j) 1 (v.set L).n=true:=(iK _ _ _).2 (by have e:(v.set L).n=v.n:=rfl;rw[e];omega);rw[Qe (by rw[hin];decide)];show(fU L ((p:Int)+j),fI L ((p:Int)+j),(0:Int))=_;cases hf:fI L ((p:Int)+j)
 ·rw[hf,Qe dE]at hs;cases hs
 ·rw[hf,Qf rfl]at hs;rw[Qv hs]
structure WL(w w1 W:Wd)(va:OA)(vn vc:Nat)(da:OA)(dc:Nat)(s:MSt Bk)(c:Cmd Bk)(a:OA)(k:Nat)(T:Nat)(G:Fam)(ga:OA)(gn gc g1 k1:Nat)(M:List Bk):Prop where
 rw':RW w W va vn vc da dc s c a k
 bx:Bx3 W T 31 G.N (.slice ga gn gc) (.slice (cw g1 0) s.F.N k1)
 own:eZ W w1 (.slice (cw g1 0) s.F.N k1) M
 fam:cB W (.agg #[G.N,.slice ga gn gc]) G
 g:Below w1 w1 W
section
variable{w w1 W W':Wd}{va:OA}{vn vc:Nat}{da:OA}{dc:Nat}{s:MSt Bk}{c:Cmd Bk}{a:OA}{k:Nat}{T:Nat}{G:Fam}{ga:OA}{gn gc g1 k1:Nat}{M:List Bk}
theorem WL.aIx(h:WL w w1 W va vn vc da dc s c a k T G ga gn gc g1 k1 M)(hb:Below W W W'):WL w w1 W' va vn vc da dc s c a k T G ga gn gc g1 k1 M:=
 ⟨h.rw'.aIx hb,h.bx.aIx hb,h.own.keep hb,h.fam.keep hb,h.g.on hb⟩
theorem WL.put(h:WL w w1 W va vn vc da dc s c a k T G ga gn gc g1 k1 M)(h1:RW w w1 va vn vc da dc s c a k)(hM:M.length=s.F.N)(hT:g1≠T)(i:Nat)(hi:i<M.length)(x:Bk):WL w w1 (WX W g1 i x) va vn vc da dc s c a k T G ga gn gc g1 k1 (M.set i x):=by
 have q:=eZ.put hM.symm h.own i hi x (WX W g1 i x) rfl;obtain⟨q1,q2⟩:=q;have hb:Below w1 w1 (WX W g1 i x):=h.g.aJa q2 λk hk=>by injection hk with hk;rw[<-hk];exact(h.own.lt g1 rfl).1
 have hM6:M.length<=1000000:=by
  obtain⟨L,e1,_,e3,_⟩:=h1.st;rw[hM,<-e1];exact e3.1
 obtain⟨b,o,he,hat⟩:=(eZ.rdq h.own hM6).at (show 0<M.length by omega);have he:=Qv he;have e1:g1=b:=congrArg Addr.block he;have e2:0=o:=congrArg Addr.off he;have hq:=hat i _ (Qa hi);rw[<-e1,<-e2]at hq;have f3:cB (WX W g1 i x) (.agg #[G.N,.slice ga gn gc]) G:=cB.put8 h.fam hq x;exact⟨h1.aIx hb,h.bx.grown q2 (by intro e;injection e with e;exact hT e),q1,f3,hb⟩
end
def NxP(s:MSt Bk)(c:Cmd Bk)(x0:Int)(w:Wd)(e:Ending)(w':Wd):Prop:=
 ∃va vn vc da dc s',e= .returned (.tuple #[rsV s'.F.N va vn vc da dc,x0])/\RSt w' va vn vc da s'/\Nx Bk.zero s c s'/\Below w w w'
section
variable(va:OA)(vn vc:Nat)(da:OA)(dc:Nat)(s:MSt Bk)(tag ao:Int)(af:Bool)(vol oth:LU)(p n:Int)(data:List Bk)(a:OA)(k:Nat)(w:Wd)
theorem Og(hs:s.fine)(h:RSt w va vn vc da s)(hd:RdB w a data)(hv:vol.length<=maxLen)(hn:(data.length:Int)=n)(x0:Int)(he:jO s.F vol p n=x0):
  ep 63 #[rsV s.F.N va vn vc da dc,cmV ⟨tag,2,ao,af,vol,oth,p,n,data⟩ a k] w (NxP s ⟨tag,2,ao,af,vol,oth,p,n,data⟩ x0 w):=by
 have HA:=hD (RW.init w va vn vc da dc s ⟨tag,2,ao,af,vol,oth,p,n,data⟩ a k h hd _ rfl);have HCW:=hD (λgv W h=>MK s.F x0 gv vol p n W hs.sound.ok hs.sound.short h hv he);have HS:=hD hs;have HPE:=hD he;unfold cmV;unfold bB at HA;simp only at HA ⊢;subst hn;have HST:=hD h;clear h hd he hs;go_enter func63,ntmps63;go_upto_region 1 with fail;generalize ((w.alloc (cq #[s.F.N,.slice va vn vc,.slice da s.F.N dc] 31)).alloc (cq #[tag,ow,ao,.bool af,nmV vol,nmV oth,p,data.length,.slice a data k] 48)).alloc (cq #[oo,sn,sn] 31)=W at HA ⊢;have b0:=HA.o.bx.c0;have b1:=HA.o.bx.c1;have b2:=HA.o.bx.c2;have c4:=HA.o.cb.c4;have c6:=HA.o.cb.c6;have c8:=HA.o.cb.c8;have r0:=HA.o.rb.c0;have r1:=HA.o.rb.c1;have r2:=HA.o.rb.c2;have f0:=HA.o.rb.f0;have f1:=HA.o.rb.f1;have f2:=HA.o.rb.f2;simp only at c4 c6 c8;go_wp2_with fail;refine(HCW.o _ _ HA.o.fam).m ?_;rintro e w1 ⟨rfl,hb⟩;have HA1:=hD (HA.o.aIx hb);clear hb HCW HA;clear b0 b1 b2 c4 c6 c8 r0 r1 r2 f0 f1 f2;have b0:=HA1.o.bx.c0;have b1:=HA1.o.bx.c1;have b2:=HA1.o.bx.c2;have c4:=HA1.o.cb.c4;have c6:=HA1.o.cb.c6;have c8:=HA1.o.cb.c8;have r0:=HA1.o.rb.c0;have r1:=HA1.o.rb.c1;have r2:=HA1.o.rb.c2;have f0:=HA1.o.rb.f0;have f1:=HA1.o.rb.f1;have f2:=HA1.o.rb.f2;simp only at c4 c6 c8;by_cases h0:x0=0
 ·subst h0;obtain⟨v,p0,n0,kk,hgv,rfl,rfl,hn0,_,h16,_,_,hpw⟩:=WT HS.o.sound HS.o.once HPE.o;obtain rfl:n0=data.length:=oM
  have HPW:=hD hpw;obtain⟨L0,hL0,hfm0,hrd0,hD0⟩:=HA1.o.st;have HD0:=hD hD0;have HL0:=hD hL0;have hN6:=HS.o.sound.ok.hN;obtain⟨i0,hi,hz0,hz1,hz2⟩:=info_parts RU;have hfl0:(L0.flatMap Bk.cells).length=s.F.N*8:=by rw[kM Bk.cells 8 (λ_=>rfl),hL0]
  have HBd:=hD (bQ w1).drew;have HAd:=hD (HA1.o.aIx HBd.o);have HW37:=hD (λW (hb:Below w1 w1 W)=>(KG s.F v p0 data.length _ HPW.o _ W (HA1.o.aIx hb).fam).mono λe w' h=>show ∃ga gn gc S G L,e= .returned (.agg #[.int .i64 (G:Fam).N,.slice ga gn gc])/\Hid (PW s.F v p0 data.length S)/\Hid (WrJ s.F v p0 data.length S data.length G L)/\Hid (cB w' (.agg #[G.N,.slice ga gn gc]) G)/\Hid (Below W W w')/\Hid (Below w1 w1 w')/\Hid (RW w w' va vn vc da dc s ⟨tag,2,ao,af,v.nm,oth,p0,data.length,data⟩ a k) from by
   obtain⟨gv,S,G,L,rfl,h1,h2,h3,h4⟩:=h;obtain⟨ga,gn,gc,rfl⟩:=h3.form
   exact⟨ga,gn,gc,S,G,L,rfl,hD h1,hD h2,hD h3,hD h4,hD (hb.on h4),hD (HA1.o.aIx (hb.on h4))⟩)
  have HRD0:=hD hrd0;clear hpw hgv hL0 hfm0 hrd0 hD0;go_upto_region 4 with fail;clear b0 b1 b2 c4 c6 c8 r0 r1 r2 f0 f1 f2;have HLN:Hid (0<L0.length/\L0.length<=65536):=hD (by
   have h1:=HPW.o.aJi (j:=0) oM;have h2:=HL0.o
   omega)
  go_cut [7] from 26 to 40 (λq wx=>∃W9,W9=wx/\Hid (WQ w w1 W9 va vn vc da dc s ⟨tag,2,ao,af,v.nm,oth,p0,data.length,data⟩ a k v p0 data.length L0 q))
  case first=>
   obtain⟨wq0,hwq0⟩:∃W,w1.drew=W:=⟨_,rfl⟩;have HB0:=HBd;rw[hwq0]at HB0;have hS8:=HA1.o.aIx HB0.o;refine wp_region_held_drew (S:=λW=>RW w W va vn vc da dc s ⟨tag,2,ao,af,v.nm,oth,p0,data.length,data⟩ a k) kR (by rw[hwq0];exact hS8) (λhHeld=> ?_);rw[hwq0]at hHeld ⊢;clear hwq0 hS8 HBd HAd;refine rtk 0 ?_;refine rtk 1 ?_;refine rtk 2 ?_;refine rtk 3 ?_;refine rtk 4 ?_;refine rtk 5 ?_;refine rtk 6 ?_;refine rtk 7 ?_;refine rtk 8 ?_;refine rtk 11 ?_;refine rtk 12 ?_;refine rdy3 9 10 15 (λK hK=> ?_) (λK hK=> ?_) (λK hK=> ?_)
   ·go_simp;refine(HW37.o _ HB0.o).m ?_;rintro e wq1 ⟨ga,gn,gc,S,G,L,rfl,HP3,HJ3,HG,HBz,HB1,H3⟩;have hS9:=show RW w wq1 va vn vc da dc s ⟨tag,2,ao,af,v.nm,oth,p0,data.length,data⟩ a k from H3.o;clear H3 HBz;refine hK.out _ _ hS9 (λhHeld=> ?_);clear hK K
    try simp only[Act.put,sp]
    refine TJ 10 15 (λK hK=> ?_) (λK hK=> ?_)
    ·go_simp;have hbz:=(bQ wq1).aIw (cq #[] 56);have HB2:=hD (HB1.o.on hbz);have HG:=hD (HG.o.keep hbz);clear hbz;obtain⟨la,hla⟩:∃n,wq1.heap.size=n:=⟨_,rfl⟩;obtain⟨wq2,hwz⟩:∃W,wq1.alloc (cq #[] 56)=W:=⟨_,rfl⟩;rw[hla,hwz];rw[hwz]at HB2 HG;clear hwz hla;have hS9:=HA1.o.aIx HB2.o;exact aDj
    ·go_simp;have hbz:=(bQ wq1).aIw (cq #[oo,sn,sn] 31);have HX:=hD (Bx3.new wq1 _ rfl oo sn sn 31);have HB2:=hD (HB1.o.on hbz);have HT:=hD HB1.o.size;have HG:=hD (HG.o.keep hbz);clear hbz;obtain⟨T,hT⟩:∃n,wq1.heap.size=n:=⟨_,rfl⟩;obtain⟨wq2,hwz⟩:∃W,wq1.alloc (cq #[oo,sn,sn] 31)=W:=⟨_,rfl⟩;rw[hT,hwz];rw[hwz]at HB2 HX HG;rw[hT]at HX HT;clear hwz hT;have hS9:=HA1.o.aIx HB2.o;exact aDk
   ·go_simp;have hbz:=(bQ wq0).aIw (cq #[] 56);have HB1:=hD (HB0.o.on hbz);clear hbz;obtain⟨la,hla⟩:∃n,wq0.heap.size=n:=⟨_,rfl⟩;obtain⟨wq1,hwz⟩:∃W,wq0.alloc (cq #[] 56)=W:=⟨_,rfl⟩;rw[hla,hwz];rw[hwz]at HB1;clear hwz hla;have hS9:=HA1.o.aIx HB1.o;refine hK.out _ _ hS9 (λhHeld=> ?_);clear hK K
    try simp only[Act.put,sp]
    refine TJ 9 15 (λK hK=> ?_) (λK hK=> ?_)
    ·go_simp;refine(HW37.o _ HB1.o).m ?_;rintro e wq2 ⟨ga,gn,gc,S,G,L,rfl,HP3,HJ3,HG,HBz,HB2,H3⟩;have hS9:=show RW w wq2 va vn vc da dc s ⟨tag,2,ao,af,v.nm,oth,p0,data.length,data⟩ a k from H3.o;clear H3 HBz;exact aDj
    ·go_simp;have hbz:=(bQ wq1).aIw (cq #[oo,sn,sn] 31);have HX:=hD (Bx3.new wq1 _ rfl oo sn sn 31);have HB2:=hD (HB1.o.on hbz);have HT:=hD HB1.o.size;clear hbz;obtain⟨T,hT⟩:∃n,wq1.heap.size=n:=⟨_,rfl⟩;obtain⟨wq2,hwz⟩:∃W,wq1.alloc (cq #[oo,sn,sn] 31)=W:=⟨_,rfl⟩;rw[hT,hwz];rw[hwz]at HB2 HX;rw[hT]at HX HT;clear hwz hT;exact aDn
   ·go_simp;have hbz:=(bQ wq0).aIw (cq #[oo,sn,sn] 31);have HX:=hD (Bx3.new wq0 _ rfl oo sn sn 31);have HB1:=hD (HB0.o.on hbz);have HT:=hD HB0.o.size;clear hbz;obtain⟨T,hT⟩:∃n,wq0.heap.size=n:=⟨_,rfl⟩;obtain⟨wq1,hwz⟩:∃W,wq0.alloc (cq #[oo,sn,sn] 31)=W:=⟨_,rfl⟩;rw[hT,hwz];rw[hwz]at HB1 HX;rw[hT]at HX HT;clear hwz hT;have hS9:=HA1.o.aIx HB1.o;refine hK.out _ _ hS9 (λhHeld=> ?_);clear hK K
    try simp only[Act.put,sp]
    refine TJ 9 10 (λK hK=> ?_) (λK hK=> ?_)
    ·go_simp;refine(HW37.o _ HB1.o).m ?_;rintro e wq2 ⟨ga,gn,gc,S,G,L,rfl,HP3,HJ3,HG,HBz,HB2,H3⟩;have HX:=hD (HX.o.aIx HBz.o);have hS9:=show RW w wq2 va vn vc da dc s ⟨tag,2,ao,af,v.nm,oth,p0,data.length,data⟩ a k from H3.o;clear H3 HBz;exact aDk
    ·go_simp;have hbz:=(bQ wq1).aIw (cq #[] 56);have HB2:=hD (HB1.o.on hbz);have HX:=hD (HX.o.aIx hbz);clear hbz;obtain⟨la,hla⟩:∃n,wq1.heap.size=n:=⟨_,rfl⟩;obtain⟨wq2,hwz⟩:∃W,wq1.alloc (cq #[] 56)=W:=⟨_,rfl⟩;rw[hla,hwz];rw[hwz]at HB2 HX;clear hwz hla;exact aDn
  case rest=>
   obtain ⟨W9,rfl,HQ9⟩:=hcut;obtain⟨hrw,T,S,G,L,ga,gn,gc,g1,k1,rfl,hx,ho,hp,hj,hf,hb9,hgt,hT⟩:=HQ9.o;rw[HL0.o]at hx ho;have HW9:Hid (WL w w1 W9 va vn vc da dc s ⟨tag,2,ao,af,v.nm,oth,p0,data.length,data⟩ a k T G ga gn gc g1 k1 L0):=hD ⟨hrw,hx,ho,hf,hb9⟩;have HP9:=hD hp;have HJ9:=hD hj;have HGT:=hD hgt;have HTT:=hD hT;have HLK:=hD (λW (j:Nat) (hj2:j<data.length) h=>GL G (bK s.F.C v.l p0 S j) true 0 (.agg #[G.N,.slice ga gn gc]) v.nm ((p0:Int)+j) W hj.wi.ok h (pU hp.vok.name) (aBd hp hj hj2));have hpn:(p0:Int)+data.length<=65536:=by
    have h1:=hp.le;have h2:=hp.vok.n2;omega
   have h16':data.length<=16:=oM
   obtain ⟨pk,hpk⟩:∃f:Nat->Nat,f=λj=>(bK s.F.C v.l p0 S j).toNat:=⟨_,rfl⟩;have HPK:=hD hpk;have HPF:Hid (∀j,j<data.length->bK s.F.C v.l p0 S j=(pk j:Nat)/\pk j<s.F.N):=hD λj hj2=>by
    have h1:=hp.aJi hj2;rw[hpk];simp only;omega
   clear hrw hx ho hp hj hf hb9 hgt hT HQ9 HW37 HBd HAd hpk;go_wp2_with fail;go_loopw [8] (λi wr=>∃(j:Nat) (M:List Bk),j<=data.length/\i= .int .i64 j/\M.length=s.F.N/\Hid (∀i,wrD s.D pk (λj=>data.getD j Bk.zero) j i=M.getD i Bk.zero)/\Hid (WL w w1 wr va vn vc da dc s ⟨tag,2,ao,af,v.nm,oth,p0,data.length,data⟩ a k T G ga gn gc g1 k1 M)) (λi _=>data.length-(intOf i).toNat)
   case atStart=>exact⟨0,L0,Yf _,rfl,HL0.o,hD HD0.o,HW9⟩
   case round=>
    clear HW9;obtain⟨j,M,hj,rfl,hM,HD,HW⟩:=hrel;have HM:=hD hM;clear hM;have c8:=HW.o.rw'.cb.c8;have c4:=HW.o.rw'.cb.c4;have c6:=HW.o.rw'.cb.c6;simp only at c4 c6 c8;by_cases hlt:j<data.length
    ·have t0:=HW.o.bx.c0;have t1:=HW.o.bx.c1;have hlt1:(j:Int)<data.length:=oM
     have hwpj:IntKind.i64.wrap ((p0:Int)+j)=(p0:Int)+j:=IntWalk.i64_in _ oM;obtain⟨e9,l9⟩:=HPF.o j hlt;have HLKj:=hD (λW h=>HLK.o W j hlt h);rw[e9]at HLKj;have HNUM:=hD hlt;have HPJ:=hD l9;clear e9 l9;go_wp2_with fail;refine(HLKj.o _ HW.o.fam).m ?_;rintro e w2 ⟨rfl,hb⟩;have HW2:=hD (HW.o.aIx hb);clear hb t0 t1 c4 c6 c8 HW HLKj hlt1 hwpj;go_upto_region 9 with fail;have HMI:Hid (pk j<M.length):=hD (by rw[HM.o];exact HPJ.o);obtain⟨u0,v0,y0⟩:=eZ.cells HM.o.symm HW2.o.own (pk j) HMI.o 0 oM;obtain⟨u1,v1,y1⟩:=eZ.cells HM.o.symm HW2.o.own (pk j) HMI.o 1 oM;obtain⟨u2,v2,y2⟩:=eZ.cells HM.o.symm HW2.o.own (pk j) HMI.o 2 oM;obtain⟨u3,v3,y3⟩:=eZ.cells HM.o.symm HW2.o.own (pk j) HMI.o 3 oM;obtain⟨u4,v4,y4⟩:=eZ.cells HM.o.symm HW2.o.own (pk j) HMI.o 4 oM;obtain⟨u5,v5,y5⟩:=eZ.cells HM.o.symm HW2.o.own (pk j) HMI.o 5 oM;obtain⟨u6,v6,y6⟩:=eZ.cells HM.o.symm HW2.o.own (pk j) HMI.o 6 oM;obtain⟨u7,v7,y7⟩:=eZ.cells HM.o.symm HW2.o.own (pk j) HMI.o 7 oM;simp only[Nat.add_zero]at v0 y0;obtain⟨db,d0,rfl,hat⟩:=HW2.o.rw'.dat.at (show 0<data.length by have:=HNUM.o;omega);obtain⟨xb,hxb⟩:∃x,data[j]? =some x:=⟨_,Qa HNUM.o⟩;have HXB:Hid (data.getD j Bk.zero=xb):=hD (by rw[Ql,hxb];rfl);have hxk:=hat j xb hxb;have HPUT:=hD (HW2.o.put HA1.o HM.o HGT.o (pk j) HMI.o xb);obtain⟨x0,x1,x2,x3,x4,x5,x6,x7⟩:=xb;obtain⟨e0,e1,e2,e3,e4,e5,e6,e7⟩:=hxk;simp only at e0 e1 e2 e3 e4 e5 e6 e7;have t0:=HW2.o.bx.c1;have t1:=HW2.o.bx.c2;have c8:=HW2.o.rw'.cb.c8;simp only at c8;have hq0:(0:Int)<=(pk j:Nat):=oM
     have hq1:((pk j:Nat):Int)<s.F.N:=by have:=HPJ.o;omega
     have hq2:(0:Int)<=j:=oM
     have hq3:(j:Int)<data.length:=by have:=HNUM.o;omega
     clear hat hxb
     go_region_law (fail)
     all_goals
      have HPD:=hD (HPUT.o.aIx bR.drew);clear e0 e1 e2 e3 e4 e5 e6 e7 t0 t1 c8 v0 v1 v2 v3 v4 v5 v6 v7 y0 y1 y2 y3 y4 y5 y6 y7 hq0 hq1 hq2 hq3 HPUT;have hn9:=HNUM.o;go_wp2_with fail;go_roundw
      case rel=>exact⟨j+1,_,hn9,by go_num,by rw[List.length_set];exact HM.o,hD (λi=>by
       have h1:=HD.o i;show KW (wrD s.D pk (λj=>data.getD j Bk.zero) j) (pk j) (data.getD j Bk.zero) i=_;unfold KW;rw[HXB.o,Ql,List.getElem?_set];by_cases e:i=pk j
       ·subst e;rw[Qf rfl,Qf rfl,Qf HMI.o];rfl
       ·rw[Qe e,Qe (λq=>e q.symm),h1,Ql]),HPD⟩
      case measure=>simp[intOf];omega
    ·have hjn:j=data.length:=oM
     subst hjn;have HWF:=HW;have x0:=HW.o.bx.c0;have x1:=HW.o.bx.c1;have x2:=HW.o.bx.c2;have r0:=HW.o.rw'.rb.c0;have r1:=HW.o.rw'.rb.c1;have r2:=HW.o.rw'.rb.c2;have f0:=HW.o.rw'.rb.f0;have f1:=HW.o.rw'.rb.f1;have f2:=HW.o.rw'.rb.f2;have HNX:Hid (Nx Bk.zero s ⟨tag,2,ao,af,v.nm,oth,p0,data.length,data⟩ ⟨G,wrD s.D pk (λj=>data.getD j Bk.zero) data.length⟩):=hD ⟨λq=>absurd (HPE.o:fE s.F (⟨tag,2,ao,af,v.nm,oth,p0,data.length,data⟩:Cmd Bk)=0) q,λ_=>by
      rw[Qf rfl]
      exact⟨v,p0,data.length,S,L,rfl,rfl,rfl,HP9.o,HJ9.o,by rw[HPK.o]⟩⟩
     have HN:Hid (G.N=s.F.N):=hD HJ9.o.wi.N;have HST9:Hid (RSt (xX wr (ch w) G.N (.slice ga gn gc) (.slice (cw g1 0) s.F.N k1)) ga gn gc (cw g1 0) ⟨G,wrD s.D pk (λj=>data.getD j Bk.zero) data.length⟩):=hD (RSt.aJe (HW.o.rw'.rb.odN aDd (λj d e=>by cases e)) (dY wr (ch w) G.N (.slice ga gn gc) (.slice (cw g1 0) s.F.N k1)) ⟨M,HM.o.trans HN.o.symm,HW.o.fam,eZ.rdq HW.o.own (by rw[HM.o];have:=HL0.o;rw[<-this];exact HRD0.o.1),HD.o⟩);have HB9:=hD (yS HW.o.rw'.g (T:=w.heap.size+1+1) oM G.N (.slice ga gn gc) (.slice (cw g1 0) s.F.N k1));have j0:=(HW.o.rw'.rb.rep G.N (.slice ga gn gc) (.slice (cw g1 0) s.F.N k1)).c0;have j1:=(HW.o.rw'.rb.rep G.N (.slice ga gn gc) (.slice (cw g1 0) s.F.N k1)).c1;have j2:=(HW.o.rw'.rb.rep G.N (.slice ga gn gc) (.slice (cw g1 0) s.F.N k1)).c2;go_wp2_with fail;refine br (.tuple #[.agg #[G.N,.slice ga gn gc,.slice (cw g1 0) s.F.N k1],oo]) ?_;exact⟨ga,gn,gc,some (cw g1 0),k1,⟨G,wrD s.D pk (λj=>data.getD j Bk.zero) data.length⟩,by show Ending.returned (.tuple #[.agg #[G.N,.slice ga gn gc,.slice (cw g1 0) s.F.N k1],oo])= .returned (.tuple #[.agg #[G.N,.slice ga gn gc,.slice (cw g1 0) G.N k1],oo]);rw[HN.o],HST9.o,HNX.o,HB9.o⟩
 ·have h0b:(x0 != 0)=true:=by simpa using h0
  go_wp2_with fail;have j0:=(HA1.o.rb.rep s.F.N (.slice va vn vc) (.slice da s.F.N dc)).c0;have j1:=(HA1.o.rb.rep s.F.N (.slice va vn vc) (.slice da s.F.N dc)).c1;have j2:=(HA1.o.rb.rep s.F.N (.slice va vn vc) (.slice da s.F.N dc)).c2;clear b0 b1 b2 c4 c6 c8 r0 r1 r2 f0 f1 f2;refine br (.tuple #[.agg #[s.F.N,.slice va vn vc,.slice da s.F.N dc],x0]) ?_;have hg:=yS HA1.o.g (T:=w.heap.size+1+1) oM s.F.N (.slice va vn vc) (.slice da s.F.N dc);exact⟨va,vn,vc,da,dc,s,rfl,HST.o.keep hg,⟨λ_=>rfl,λq=>absurd (HPE.o.symm.trans q) h0⟩,hg⟩
end
section
variable(va:OA)(vn vc:Nat)(da:OA)(dc:Nat)(s:MSt Bk)(tag ao:Int)(af:Bool)(vol oth:LU)(p n:Int)(data:List Bk)(a:OA)(k:Nat)(w:Wd)
theorem Wq(hs:s.fine)(h:RSt w va vn vc da s)(hd:RdB w a data)(hv:vol.length<=maxLen)(hn:(data.length:Int)=n)(x0:Int)(he:fE s.F (⟨tag,2,ao,af,vol,oth,p,n,data⟩:Cmd Bk)=x0):
  ep 38 #[rsV s.F.N va vn vc da dc,cmV ⟨tag,2,ao,af,vol,oth,p,n,data⟩ a k] w (Bl s ⟨tag,2,ao,af,vol,oth,p,n,data⟩ x0 [] w):=by
 have hx:jO s.F vol p n=x0:=he;have HWR:=hD (λW (h:RSt W va vn vc da s) hd=>Og va vn vc da dc s tag ao af vol oth p n data a k W hs h hd hv hn x0 hx);unfold NxP at HWR;have HNN:Hid (x0≠0->Nx Bk.zero s ⟨tag,2,ao,af,vol,oth,p,n,data⟩ s):=hD λq=>Nx.no (λq2=>q (he.symm.trans q2));clear hs he hx hv hn;unfold cmV at HWR;simp only at HWR;have HA:=hD (NX.init w va vn vc da dc s ⟨tag,2,ao,af,vol,oth,p,n,data⟩ a k h hd _ rfl);clear h hd;unfold cmV;unfold bB at HA;simp only at HA ⊢;go_enter func38,ntmps38;go_upto_region 3 with fail;generalize (((w.alloc (cq #[s.F.N,.slice va vn vc,.slice da s.F.N dc] 31)).alloc (cq #[tag,ow,ao,.bool af,nmV vol,nmV oth,p,n,.slice a data k] 48)).alloc (cq #[oo,sn,sn] 31)).alloc (cq #[s.F.N,.slice va vn vc,.slice da s.F.N dc] 31)=W at HA ⊢;obtain⟨⟨b0,b1,b2,-,-,-,-,-⟩,⟨c0,c1,c2,c3,c4,c5,c6,c7,c8⟩,⟨r0,r1,r2,h0,h1,h2,-,-⟩,⟨o0,o1,o2,f0,f1,f2,-,-⟩,-,-,-⟩:=HA.o;simp only at c0 c1 c2 c3 c4 c5 c6 c7 c8;go_wp2_with fail;refine(HWR.o _ HA.o.st HA.o.dat).m ?_;rintro e w1 ⟨va',vn',vc',da',dc',t,rfl,hst,hnx,hb⟩;have HA1:=hD (HA.o.aIx hb);have HS1:=hD hst;have HNX:=hD hnx;clear hb hst hnx HWR;clear b0 b1 b2 c0 c1 c2 c3 c4 c5 c6 c7 c8 r0 r1 r2 h0 h1 h2 o0 o1 o2 f0 f1 f2;obtain⟨⟨b0,b1,b2,-,-,-,-,-⟩,⟨c0,c1,c2,c3,c4,c5,c6,c7,c8⟩,⟨r0,r1,r2,h0,h1,h2,-,-⟩,⟨o0,o1,o2,f0,f1,f2,-,-⟩,-,-,-⟩:=HA1.o;simp only at c0 c1 c2 c3 c4 c5 c6 c7 c8;go_upto_region 21 with fail;have HA2:=hD (HA1.o.put3 (λj d e=>by cases e) t.F.N (.slice va' vn' vc') (.slice da' t.F.N dc'));have HS2:=hD (HA1.o.stput (λj d e=>by cases e) t.F.N (.slice va' vn' vc') (.slice da' t.F.N dc') HS1.o);clear HS1;clear b0 b1 b2 c0 c1 c2 c3 c4 c5 c6 c7 c8 r0 r1 r2 h0 h1 h2 o0 o1 o2 f0 f1 f2;unfold xX at HA2 HS2;generalize ((w1.setCell (cw (ci w) 0) t.F.N).setCell (cw (ci w) 1) (.slice va' vn' vc')).setCell (cw (ci w) 2) (.slice da' t.F.N dc')=w2 at HA2 HS2 ⊢;obtain⟨⟨b0,b1,b2,-,-,-,-,-⟩,⟨c0,c1,c2,c3,c4,c5,c6,c7,c8⟩,⟨r0,r1,r2,h0,h1,h2,-,-⟩,⟨o0,o1,o2,f0,f1,f2,-,-⟩,-,-,-⟩:=HA2.o;simp only at c0 c1 c2 c3 c4 c5 c6 c7 c8;by_cases h00:x0=0
 ·subst h00;go_wp2_with fail;clear b0 b1 b2 c0 c1 c2 c3 c4 c5 c6 c7 c8 r0 r1 r2 h0 h1 h2 o0 o1 o2 f0 f1 f2;have j0:=(HA2.o.rb.rep t.F.N (.slice va' vn' vc') (.slice da' t.F.N dc')).c0;have j1:=(HA2.o.rb.rep t.F.N (.slice va' vn' vc') (.slice da' t.F.N dc')).c1;have j2:=(HA2.o.rb.rep t.F.N (.slice va' vn' vc') (.slice da' t.F.N dc')).c2;refine br (.tuple #[.agg #[t.F.N,.slice va' vn' vc',.slice da' t.F.N dc'],sn,oo]) ?_;exact NX.done (R:=[]) HA2.o HS2.o ⟨sM,.inl rfl⟩ (by rw[Qe sM];exact HNX.o) rfl
 ·have h00b:(x0 != 0)=true:=by simpa using h00
  go_wp2_with fail;clear b0 b1 b2 c0 c1 c2 c3 c4 c5 c6 c7 c8 r0 r1 r2 h0 h1 h2 o0 o1 o2 f0 f1 f2;have j0:=(HA2.o.rb.rep s.F.N (.slice va vn vc) (.slice da s.F.N dc)).c0;have j1:=(HA2.o.rb.rep s.F.N (.slice va vn vc) (.slice da s.F.N dc)).c1;have j2:=(HA2.o.rb.rep s.F.N (.slice va vn vc) (.slice da s.F.N dc)).c2;refine br (.tuple #[.agg #[s.F.N,.slice va vn vc,.slice da s.F.N dc],sn,x0]) ?_;exact NX.done (R:=[]) HA2.o HA2.o.st ⟨sM,.inl rfl⟩ (by rw[Qe sM];exact HNN.o h00) rfl
end
theorem aHg{F:Fam}{c:Cmd Bk}(k:c.kd=1):fE F c=(dP F c.vol c.p c.n).2:=by unfold fE;rw[Qf k]
theorem NB{c:Cmd Bk}(h:c.valid=true)(k:c.kd=2):(c.data.length:Int)=c.n:=by
 unfold Cmd.valid at h;simp only[Qd]at h;have hk:=h.2.2;unfold Cmd.aJj at hk;rw[Qe oM,Qf k]at hk;simp only[Qd,Qc]at hk;exact hk.2.2.2.2
theorem Vv{c:Cmd Bk}(h:c.valid=true)(k:c.kd=1):c.p<=65536:=by
 unfold Cmd.valid at h;simp only[Qd]at h;have hk:=h.2.2;unfold Cmd.aJj at hk;rw[Qf k]at hk;simp only[Qd,lK,Qc]at hk;omega
theorem TC(va:OA)(vn vc:Nat)(da:OA)(dc:Nat)(s:MSt Bk)(c:Cmd Bk)(a:OA)(k:Nat)(w:Wd)(hs:s.fine)(h:RSt w va vn vc da s)(hd:RdB w a c.data)(hf:tN c)(hv:c.valid=true)(x0:Int)(he:fE s.F c=x0)(R:List Bk)(hR:(if c.kd=1/\x0=0 then vD Bk.zero s c.vol c.p c.n else [])=R):
  ep 38 #[rsV s.F.N va vn vc da dc,cmV c a k] w (Bl s c x0 R w):=by
 have hk:=(tQ hv).1;have hvol:=hf.vol;have hoth:=hf.oth;have hF:=hs.sound.ok;by_cases k1:c.kd=1
 ·obtain ⟨v0,v1,v2⟩:=DV hv k1;have v3:=Vv hv k1;rw[aHg k1]at he;have hR2:(if x0=0 then vD Bk.zero s c.vol c.p c.n else [])=R:=by
   rw[<-hR];by_cases q:x0=0
   ·rw[Qf q,Qf ⟨k1,q⟩]
   ·rw[Qe q,Qe (λe=>q e.2)]
  obtain⟨tag,kd,ao,af,vol,oth,p,n,data⟩:=c;simp only at k1 v0 v1 v2 v3 he hvol hR2 hd;subst k1;exact Ws va vn vc da dc s tag ao af vol oth p n data a k w hF h hd hvol ⟨v0,v3⟩ ⟨oM,v2⟩ x0 he R hR2
 ·obtain rfl:R=[]:=by rw[<-hR,Qe (λe=>k1 e.1)]
  have hl2:=NB hv;obtain⟨tag,kd,ao,af,vol,oth,p,n,data⟩:=c;simp only at k1 hk hvol hoth hl2 hd;have hk7:kd=2∨kd=3∨kd=4∨kd=5∨kd=6∨kd=7:=oM
  rcases hk7 with rfl|rfl|rfl|rfl|rfl|rfl
  ·exact Wq va vn vc da dc s tag ao af vol oth p n data a k w hs h hd hvol (hl2 rfl) x0 he
  ·exact Wp va vn vc da dc s tag ao af vol oth p n data a k w hF h hd hvol x0 he
  ·obtain rfl:x0=0:=he.symm;exact Wo va vn vc da dc s tag ao af vol oth p n data a k w h hd
  ·exact Wn va vn vc da dc s tag ao af vol oth p n data a k w hF h hd hvol x0 he
  ·exact Wm va vn vc da dc s tag ao af vol oth p n data a k w hF h hd hvol hoth x0 he
  ·exact Wl va vn vc da dc s tag ao af vol oth p n data a k w hF h hd hvol x0 he
theorem Kn{w:Wd}{ops:Array Oper}{o:Oper}{a:Act}{K:Act->Wd->Prop}{Q:Exit->Act->Wd->Prop}{F:Prop}(hgd:o.guard=none)(l c:Operand)(hop:o.op=Op.makeSlice 29 l c)
  (i0:TypeInfo) (hi:prog.info? 56=some i0) (hz0:i0.zero=some Bk.zero.v) (hz1:i0.size=8) (hz2:i0.bytes=8)
  (n:Nat) (hl:a.eval l=n) (hc:a.eval c=n) (hn:n<=65536)
  (h:∀w',Hid (eZ w' w (.slice (cw w 0) n n) (List.replicate n Bk.zero))->Hid (Below w w w')->K (a.put o.dst (.slice (cw w 0) n n)) w'):
  if Region.wanted o (yielded ops a.tmps)=true then Oper.wp prog o a w K Q else F:=by
 have hw:Region.wanted o (yielded ops a.tmps)=true:=by simp[Region.wanted,hgd]
 rw[Qf hw];obtain⟨w',hrun,r1,r2⟩:=run_make_full (P:=prog) w w 29 56 i0 Bk.zero.v 8 underlying29 hi hz0 hz1 .i64 .i64 n (by rw[hz2];omega) (by unfold maxLen;omega) (Ye _);unfold Oper.wp;simp[execOp,hop,hl,hc,hrun,Result.andThen];refine h w' (hD ?_) (hD (rG r2));unfold eZ;rw[Yt,<-CQ];exact r1
theorem aGq:3≠34:=dE
theorem Wy(n:Nat)(w:Wd)(hn:n<=65536):
  ep 33 #[n] w λe w'=>∃v,e= .returned v/\RMo w' v (pJ n)/\Below w w w':=by
 obtain⟨i0,hi,hz0,hz1,hz2⟩:=info_parts RU;have HB0:=hD ((bQ w).aIw (cq #[oo,sn,sn,sn] 34));have HX0:=hD (Bx4.new w _ rfl oo sn sn sn 34);go_enter func33,ntmps33;go_wp2_with fail;refine(WE n _ hn).m ?_;rintro e w1 ⟨gv,rfl,hg,hb⟩;obtain⟨ra,rn,rc,rfl⟩:=hg.form;simp only at hg;have HB1:=hD (HB0.o.on hb);have HX1:=hD (HX0.o.aIx hb);have HG1:=hD hg;clear hg hb HB0 HX0;have HT1:=hD (Bx.new w1 _ rfl n (.slice ra rn rc) 28);have hk:=(bQ w1).aIw (cq #[n,.slice ra rn rc] 28);have HB2:=hD (HB1.o.on hk);have HX2:=hD (HX1.o.aIx hk);have HG2:=hD (HG1.o.keep hk);clear hk HB1 HX1 HG1;go_upto_region 2 with fail;generalize w1.alloc (cq #[n,.slice ra rn rc] 28)=W2 at *;generalize w1.heap.size=T at *;have HB3:=hD (HB2.o.on (bQ W2).drew);have HX3:=hD (HX2.o.aIx (bQ W2).drew);have HG3:=hD (HG2.o.keep (bQ W2).drew);have HT3:=hD (HT1.o.aIx (bQ W2).drew);clear HB2 HX2 HG2 HT1;refine wp_region_held_drew (S:=λW=>Bx W T 28 n (.slice ra rn rc)) kR HT3.o (λhHeld=> ?_);generalize W2.drew=W3 at *;refine ntk 0 ?_;refine ntk 1 ?_;refine wpAnyH_ready (rs:=[2]) kR sM ?_;refine AllReadyH.cons rfl (λK hK=> ?_) AllReadyH.nil;refine Kn (by rfl) (.tmp 11) (.tmp 11) (by rfl) i0 hi hz0 hz1 hz2 n (by rfl) (by rfl) hn ?_;intro w4 HO4 HB4;have HB5:=hD (HB3.o.on HB4.o);have HX5:=hD (HX3.o.aIx HB4.o);have HG5:=hD (HG3.o.keep HB4.o);have HT5:=hD (HT3.o.aIx HB4.o);generalize W3.heap.size=g1 at HO4 ⊢;refine hK.out _ _ HT5.o (λhHeld=> ?_);clear hK K
 try simp only[Act.put,sp]
 clear HB3 HX3 HG3 HT3 HB4;refine ntk 3 ?_;refine ntk 4 ?_;have e0:=HX5.o.c0;have e1:=HX5.o.c1;have e2:=HX5.o.c2;have e3:=HX5.o.c3;have e4:=HX5.o.f0;have e5:=HX5.o.f1;have e6:=HX5.o.f2;have e7:=HX5.o.f3;have HG:=hD (fK w4 w n (.slice ra rn rc) (.slice (cw g1 0) n n) sn);have HX6:=hD (HX5.o.rep n (.slice ra rn rc) (.slice (cw g1 0) n n) sn);have hox:=HX5.o.odN aGq (λj d e=>by cases e) (λj d e=>by cases e);have HT6:=hD (HT5.o.grown HG.o (λe=>by injection e with e;have h1:=HX5.o.ty;have h2:=HT5.o.ty;rw[<-e]at h2;exact h1.ne h2 dE rfl));have hr0:=eZ.rdq HO4.o pO;have HRB:=hD (hr0.aJe hox HG.o);have HGG:=hD (HG5.o.aJe hox HG.o);have HBG:=hD ((((HB5.o.setCell (Ye _) _).setCell (Ye _) _).setCell (Ye _) _).setCell (Ye _) _:Below w w (vT w4 w n (.slice ra rn rc) (.slice (cw g1 0) n n) sn));clear hr0 hox;refine rdy 5 λK hK=> ?_;go_simp;refine hK.out _ _ HT6.o (λhHeld=> ?_);clear hK K
 try simp only[Act.put,sp]
 clear e0 e1 e2 e3 e4 e5 e6 e7 HX5 HG5 HT5 HO4;refine wpAnyH_done kR ?_ _;have j0:=HX6.o.c0;have j1:=HX6.o.c1;have j2:=HX6.o.c2;have j3:=HX6.o.c3;go_wp2_with fail;refine br (.agg #[n,.slice ra rn rc,.slice (cw g1 0) n n,sn]) ?_;exact⟨_,rfl,⟨⟨ra,rn,rc,some (cw g1 0),n,(pJ n).cur⟩,none,0,[],rfl,rfl,rfl,⟨List.replicate n Bk.zero,by simp;rfl,HGG.o,HRB.o,λi=>by
  show Bk.zero=_;rw[Ql,List.getElem?_replicate]
  split <;> rfl⟩,mI.nil _ _,by intro p hp;simp at hp⟩,HBG.o⟩
theorem Cz{fn:Func}{p q:Tmp}{t t':TypeId}(h:fn.results= #[.cell p t,.cell q t'])(tmps:Array Value)(P:Program)(w:Wd):
  (results fn tmps).run P w=((asAddr (tmps.getD p undef)).run P w).andThen λa w₁=>((loadVar t a).run P w₁).andThen λv w₂=>((asAddr (tmps.getD q undef)).run P w₂).andThen λb w₃=>((loadVar t' b).run P w₃).andThen λu w₄=> .ok (.tuple #[v,u]) w₄:=by
 simp only[results,h];simp[Sem.run_bind,Result.andThen]
structure MA(w W:Wd)(u0 u1 u2 u3:Value)(c:Cmd Bk)(a:OA)(k:Nat)(r0 r1 r2 r3 y0 y1 y2:Value):Prop where
 mb:Bx4 W w 34 u0 u1 u2 u3
 cb:CB W (cf w) c a k
 rb:Bx4 W (ch w) 34 r0 r1 r2 r3
 yb:Bx3 W (ci w) 44 y0 y1 y2
 g:Below w w W
theorem yG:3≠34:=dE
theorem GN:3≠44:=dE
theorem NN:31≠34:=dE
theorem aFs:31≠44:=dE
section
variable{w W W':Wd}{u0 u1 u2 u3:Value}{c:Cmd Bk}{a:OA}{k:Nat}{r0 r1 r2 r3 y0 y1 y2:Value}
theorem MA.aIx(h:MA w W u0 u1 u2 u3 c a k r0 r1 r2 r3 y0 y1 y2)(hb:Below W W W'):MA w W' u0 u1 u2 u3 c a k r0 r1 r2 r3 y0 y1 y2:=
 ⟨h.mb.aIx hb,h.cb.aIx hb,h.rb.aIx hb,h.yb.aIx hb,h.g.on hb⟩
theorem MA.init(w:Wd)(u0 u1 u2 u3:Value)(c:Cmd Bk)(a:OA)(k:Nat)(W:Wd)(hW:W=(((w.alloc (cq #[u0,u1,u2,u3] 34)).alloc (.cells (bB c a k) 48)).alloc (cq #[oo,sn,sn,sn] 34)).alloc (cq #[oo,oo,sn] 44)):
  MA w W u0 u1 u2 u3 c a k oo sn sn sn oo oo sn:=by
 subst hW;have h1:=(bQ w).aIw (cq #[u0,u1,u2,u3] 34);have o1:=Bx4.new w _ rfl u0 u1 u2 u3 34;have z1:(w.alloc (cq #[u0,u1,u2,u3] 34)).heap.size=w.heap.size+1:=by simp
 generalize w.alloc (cq #[u0,u1,u2,u3] 34)=W1 at *;have h2:=(bQ W1).aIw (.cells (bB c a k) 48);have o2:=CB.new W1 _ z1 c a k 48;have z2:(W1.alloc (.cells (bB c a k) 48)).heap.size=w.heap.size+1+1:=by simp[z1]
 generalize W1.alloc (.cells (bB c a k) 48)=W2 at *;have h3:=(bQ W2).aIw (cq #[oo,sn,sn,sn] 34);have o3:=Bx4.new W2 _ z2 oo sn sn sn 34;have z3:(W2.alloc (cq #[oo,sn,sn,sn] 34)).heap.size=w.heap.size+1+1+1:=by simp[z2]
 generalize W2.alloc (cq #[oo,sn,sn,sn] 34)=W3 at *;have h4:=(bQ W3).aIw (cq #[oo,oo,sn] 44);have hk:=((h1.on h2).on h3).on h4;exact⟨((o1.aIx h2).aIx h3).aIx h4,(o2.aIx h3).aIx h4,o3.aIx h4,Bx3.new W3 _ z3 _ _ _ _,hk⟩
theorem MA.put4(h:MA w W u0 u1 u2 u3 c a k r0 r1 r2 r3 y0 y1 y2)(s0 s1 s2 s3:Value):MA w (vT W (ch w) s0 s1 s2 s3) u0 u1 u2 u3 c a k s0 s1 s2 s3 y0 y1 y2:=by
 have hg:=fK W (ch w) s0 s1 s2 s3;exact⟨h.mb.grown hg (λe=>by injection e with e;omega),h.cb.grown hg oM,h.rb.rep _ _ _ _,h.yb.grown hg (λe=>by injection e with e;omega),(((h.g.setCell sO _).setCell sO _).setCell sO _).setCell sO _⟩
theorem MA.put3(h:MA w W u0 u1 u2 u3 c a k r0 r1 r2 r3 y0 y1 y2)(s0 s1 s2:Value):MA w (xX W (ci w) s0 s1 s2) u0 u1 u2 u3 c a k r0 r1 r2 r3 s0 s1 s2:=by
 have hg:=dY W (ci w) s0 s1 s2;exact⟨h.mb.grown hg (λe=>by injection e with e;omega),h.cb.grown hg oM,h.rb.grown hg (λe=>by injection e with e;omega),h.yb.rep _ _ _,((h.g.setCell sO _).setCell sO _).setCell sO _⟩
end
def FN(m:Mo Bk)(c:Cmd Bk)(w:Wd)(e:Ending)(w':Wd):Prop:=
 ∃p pa pc ps m' a2 k2,e= .returned (.tuple #[rmV p pa ps.length pc,.agg #[.int .i64 (kW Bk.zero m.cur c).tag,.int .i64 (kW Bk.zero m.cur c).err,.slice a2 (kW Bk.zero m.cur c).data.length k2]])/\Ap Bk.zero m c m'/\RMd w' p pa ps m'/\RdB w' a2 (kW Bk.zero m.cur c).data/\Below w w w'
section
variable{w W:Wd}{u0 u1 u2 u3:Value}{c:Cmd Bk}{a:OA}{k:Nat}{r0 r1 r3 y0 y1:Value}{na:OA}{nn nk:Nat}{ma:OA}{mn mk:Nat}{qa:OA}{qn qk:Nat}
theorem MA.rm43(h:MA w W u0 u1 u2 u3 c a k r0 r1 (.slice na nn nk) (.slice ma mn mk) y0 y1 (.slice qa qn qk)){p:RS}{pa:OA}{ps:List RS}{m:Mo Bk}(hm:RMd W p pa ps m)(s0 s1:Value){xa:OA}{xn xk:Nat}{ya:OA}{yn yk:Nat}(t0 t1 t2:Value):
  RMd (xX (vT W (ch w) s0 s1 (.slice xa xn xk) (.slice ya yn yk)) (ci w) t0 t1 t2) p pa ps m:=by
 have h4:=h.put4 s0 s1 (.slice xa xn xk) (.slice ya yn yk);have m4:=hm.grownT (h.rb.odN yG (λj d e=>by cases e) (λj d e=>by cases e)) h.rb.ty NN (fK W (ch w) s0 s1 (.slice xa xn xk) (.slice ya yn yk));exact m4.grownT (h4.yb.odN GN (λj d e=>by cases e)) h4.yb.ty aFs (dY _ _ _ _ _)
theorem MA.dat43(h:MA w W u0 u1 u2 u3 c a k r0 r1 (.slice na nn nk) (.slice ma mn mk) y0 y1 (.slice qa qn qk)){D:List Bk}{da:OA}(hd:RdB W da D)(s0 s1:Value){xa:OA}{xn xk:Nat}{ya:OA}{yn yk:Nat}(t0 t1 t2:Value):
  RdB (xX (vT W (ch w) s0 s1 (.slice xa xn xk) (.slice ya yn yk)) (ci w) t0 t1 t2) da D:=by
 have h4:=h.put4 s0 s1 (.slice xa xn xk) (.slice ya yn yk);have m4:=hd.aJe (h.rb.odN yG (λj d e=>by cases e) (λj d e=>by cases e)) (fK W (ch w) s0 s1 (.slice xa xn xk) (.slice ya yn yk));exact m4.aJe (h4.yb.odN GN (λj d e=>by cases e)) (dY _ _ _ _ _)
end
section
variable{w W:Wd}{u0 u1 u2 u3:Value}{c:Cmd Bk}{a:OA}{k:Nat}{r0 r1 y0 y1:Value}{na:OA}{nn nk:Nat}{ma:OA}{mn mk:Nat}{qa:OA}{qn qk:Nat}{p:RS}{pa:OA}{pc:Nat}{ps:List RS}{m m':Mo Bk}{a2:OA}{k2:Nat}{D:List Bk}{er:Int}
theorem MA.done43(h:MA w W u0 u1 u2 u3 c a k r0 r1 (.slice na nn nk) (.slice ma mn mk) y0 y1 (.slice qa qn qk))(hm:RMd W p pa ps m')(hd:RdB W a2 D)(ha:Ap Bk.zero m c m')(hr:kW Bk.zero m.cur c=⟨c.tag,er,D⟩):
  FN m c w (.returned (.tuple #[.agg #[p.s.F.N,.slice p.va p.vn p.vc,.slice p.da p.s.F.N p.dc,.slice pa ps pc],.agg #[c.tag,er,.slice a2 D k2]])) (xX (vT W (ch w) p.s.F.N (.slice p.va p.vn p.vc) (.slice p.da p.s.F.N p.dc) (.slice pa ps pc)) (ci w) c.tag er (.slice a2 D k2)):=by
 unfold FN;rw[hr];exact⟨p,pa,pc,ps,m',a2,k2,rfl,ha,h.rm43 hm _ _ _ _ _,h.dat43 hd _ _ _ _ _,((h.put4 _ _ _ _).put3 _ _ _).g⟩
end
theorem Tz(x:Int)(q:Bool)(w:Wd)(hq:(x != 1&&x != 4)=q):ep 39 #[x] w λe w'=>e= .returned (.bool q)/\w=w':=by
 have HQ:=hD hq;clear hq;cases h1:(x != 1)
 ·go_enter func39,ntmps39;go_wp2;go_ret;exact⟨aU (by rw[<-HQ.o,h1];rfl),rfl⟩
 ·cases h4:(x != 4)
  all_goals
   go_enter func39,ntmps39;go_wp2;go_ret;exact⟨aU (by rw[<-HQ.o,h1,h4];rfl),rfl⟩
section
variable(p0:RS)(pa:OA)(pc:Nat)(ps:List RS)(m:Mo Bk)(tag kd ao:Int)(af:Bool)(vol oth:LU)(p n:Int)(data:List Bk)(a:OA)(k:Nat)(w:Wd)(hm:RMd w p0 pa ps m)
include hm
theorem KP(hf:tN ⟨tag,kd,ao,af,vol,oth,p,n,data⟩)(hd:RdB w a data)(hv:(⟨tag,kd,ao,af,vol,oth,p,n,data⟩:Cmd Bk).valid=false):
  ep 17 #[rmV p0 pa ps.length pc,cmV ⟨tag,kd,ao,af,vol,oth,p,n,data⟩ a k] w (FN m ⟨tag,kd,ao,af,vol,oth,p,n,data⟩ w):=by
 have HR:Hid (kW Bk.zero m.cur ⟨tag,kd,ao,af,vol,oth,p,n,data⟩=⟨tag,1,[]⟩):=hD (by unfold kW;rw[Qe (by rw[hv];decide)]);have HP:Hid (Ap Bk.zero m ⟨tag,kd,ao,af,vol,oth,p,n,data⟩ m):=hD (by unfold Ap;rw[Qe (λq=>by rw[hv]at q;cases q.1)]);obtain⟨va,vn,vc,da,dc,s⟩:=p0;have HM:=hD hm;have HA:=hD (MA.init w s.F.N (.slice va vn vc) (.slice da s.F.N dc) (.slice pa ps pc) ⟨tag,kd,ao,af,vol,oth,p,n,data⟩ a k _ rfl);have HVA:=hD (λW=>Cw ⟨tag,kd,ao,af,vol,oth,p,n,data⟩ a k W hf);rw[hv]at HVA;have HRD:=hD hd;clear hm hd;unfold cmV at HVA ⊢;unfold bB at HA;simp only at HA HVA ⊢;go_enter func17,ntmps17;go_upto_region 1 with fail;generalize (((w.alloc (cq #[s.F.N,.slice va vn vc,.slice da s.F.N dc,.slice pa ps pc] 34)).alloc (cq #[tag,kd,ao,.bool af,nmV vol,nmV oth,p,n,.slice a data k] 48)).alloc (cq #[oo,sn,sn,sn] 34)).alloc (cq #[oo,oo,sn] 44)=W at HA ⊢;obtain⟨⟨m0,m1,m2,m3,-,-,-,-,-,-⟩,⟨c0,c1,c2,c3,c4,c5,c6,c7,c8⟩,-,-,-⟩:=HA.o;simp only at c0 c1 c2 c3 c4 c5 c6 c7 c8;go_wp2_with fail;refine(HVA.o _).m ?_;rintro e w1 ⟨rfl,hb⟩;have HA1:=hD (HA.o.aIx hb);clear hb HVA HA;clear m0 m1 m2 m3 c0 c1 c2 c3 c4 c5 c6 c7 c8;go_upto_region 2 with fail;have HD:=hD (HA1.o.aIx (bQ w1).drew);have HMD:=hD (HM.o.keep HD.o.g);refine wp_region_held_drew (S:=λW=>Bx4 W w 34 s.F.N (.slice va vn vc) (.slice da s.F.N dc) (.slice pa ps pc)/\CB W (cf w) ⟨tag,kd,ao,af,vol,oth,p,n,data⟩ a k) kR ⟨HD.o.mb,HD.o.cb⟩ (λhHeld=> ?_);generalize w1.drew=wd at *;have H4:=hD (HD.o.put4 s.F.N (.slice va vn vc) (.slice da s.F.N dc) (.slice pa ps pc));have H43:=hD (H4.o.put3 tag ol sn);refine mtk 0 ?_;refine mtk 1 ?_;refine mtk 2 ?_;refine mtk 3 ?_;have e0:=HD.o.rb.c0;have e1:=HD.o.rb.c1;have e2:=HD.o.rb.c2;have e3:=HD.o.rb.c3;have e4:=HD.o.rb.f0;have e5:=HD.o.rb.f1;have e6:=HD.o.rb.f2;have e7:=HD.o.rb.f3;refine rdy 4 λK hK=> ?_;go_simp;refine hK.out _ _ ⟨H4.o.mb,H4.o.cb⟩ (λhHeld=> ?_);clear hK K
 try simp only[Act.put,sp]
 clear e0 e1 e2 e3 e4 e5 e6 e7;have e0:=H4.o.yb.c0;have e1:=H4.o.yb.c1;have e2:=H4.o.yb.c2;have e4:=H4.o.yb.f0;have e5:=H4.o.yb.f1;have e6:=H4.o.yb.f2;refine rdy 5 λK hK=> ?_;go_simp;refine hK.out _ _ ⟨H43.o.mb,H43.o.cb⟩ (λhHeld=> ?_);clear hK K
 try simp only[Act.put,sp]
 clear e0 e1 e2 e4 e5 e6;refine wpAnyH_done kR ?_ _;have j0:=H43.o.rb.c0;have j1:=H43.o.rb.c1;have j2:=H43.o.rb.c2;have j3:=H43.o.rb.c3;have i0:=H43.o.yb.c0;have i1:=H43.o.yb.c1;have i2:=H43.o.yb.c2;go_wp2_with fail
 (try simp only[Exit.inBlock,Exit.then])
 refine Yg (v:= .tuple #[.agg #[s.F.N,.slice va vn vc,.slice da s.F.N dc,.slice pa ps pc],.agg #[tag,ol,sn]]) (by rw[Cz rfl];go_simp;done) rfl ?_;exact MA.done43 (D:=[]) HD.o HMD.o ⟨sM,.inl rfl⟩ HP.o HR.o
end
theorem woa0{P:Prop}(h:P:=by
  refine rdy 7 λK hK=> ?_
  ·refine eH _ (by rfl) (.tmp 45) (.tmp 48) 32 (by rfl) wq0.heap.size 31 i0 (.agg #[oo,sn,sn]) 3 56 underlying32 hi hz0 hz1 hz2 rfl dE vd ps.length (ps.flatMap RS.cells) (by rfl) HOD.o (cw le 0) 1 1 (RS.cells ⟨va,vn,vc,da,dc,s9⟩) (by rfl) rfl HE.o (RS.one _) (by have:=HPL.o;omega) (by have:=HPL.o;simp only[maxLen];omega) HM3.o.ge ?_;intro v1 wq4 hown1 hgrow1 _;have HB9:=hD (HM3.o.gb.aJa hgrow1 λj hj=>(HOD.o.lt j hj).1);have ho9:=jG.snoc hown1 sM;obtain⟨P3,hP3⟩:∃P:List RS,P=ps++[⟨va,vn,vc,da,dc,s9⟩]:=⟨_,rfl⟩;rw[<-hP3]at ho9;have HP3:=hD hP3;have hl3:P3.length<=10001:=by rw[hP3];have:=HPL.o;simp;omega
   clear hP3;obtain⟨a1,c1,rfl,hr9⟩:=ho9.rd oM;have HOR:=hD hr9;have HM4:=hD (HMS.o.aIx HB9.o);clear hown1 hgrow1 ho9 hr9 HE HOD HB9 hl3;refine hK.out _ _ HM4.o.ma (λhHeld=> ?_);clear hK K
   try simp only[Act.put,sp]
   refine atk 8 ?_;have e0:=HM4.o.xb.c3;have e1:=HM4.o.xb.f3;have HFIN:=hD (HM4.o.append (c3:=c1) HP3.o HOR.o);refine rdy 9 λK hK=> ?_;go_simp;refine hK.out _ _ HFIN.o.ma (λhHeld=> ?_);clear hK K
   try simp only[Act.put,sp]
   refine wpAnyH_done kR ?_ _;clear e0 e1 HOR;go_wp2_with fail;go_meet;exact⟨_,a1,c1,P3,rfl,HP3,HFIN⟩
  ):P:=h
theorem woa1{P:Prop}(h:P:=by
  refine rdy 3 λK hK=> ?_
  ·refine vL (by rfl) (.tmp 42) (.tmp 44) (by rfl) i0 hi hz0 hz1 hz2 la wq0 HLA.o HM2.o.ge (by rfl) pa pc ps (by first|rfl|go_simp) HM2.o.row HPL.o ?_;intro wq3 vd HOD hbz;have HM3:=hD (HM2.o.aIx hbz.o);have HE:=hD (λj u hj=>hbz.o.keep (HE.o j u hj));clear hbz HLA;exact aDm
  ):P:=h
structure M9(w W0 W:Wd)(T9 T10:Nat)(p:RS)(pa:OA)(pc:Nat)(ps:List RS)(c:Cmd Bk)(a:OA)(k:Nat)(q:RS)(x0:Int)(qa:OA)(R:List Bk)(qk:Nat)(a2:OA)(ps2:List RS)(c2:Nat):Prop where
 ma:MA w W p.s.F.N (.slice p.va p.vn p.vc) (.slice p.da p.s.F.N p.dc) (.slice pa ps pc) c a k oo sn sn sn oo oo sn
 xb:Bx4 W T10 34 q.s.F.N (.slice q.va q.vn q.vc) (.slice q.da q.s.F.N q.dc) (.slice a2 ps2 c2)
 yb:Bx3 W T9 44 c.tag x0 (.slice qa R qk)
 cur:q.ok W
 pst:p.ok W
 row:mI W pa ps
 all:LRs W ps
 row2:mI W a2 ps2
 all2:LRs W ps2
 dat:RdB W qa R
 gb:Below W0 W0 W
 n9:w.heap.size+1+1+1<T9
 n10:T9<T10
 lt:T10<W0.heap.size
theorem Bx4.putd{W:Wd}{T:Nat}{t:TypeId}{u v x y:Value}(h:Bx4 W T t u v x y)(z:Value):Bx4 (W.setCell (cw T 3) z) T t u v x z:=by
 have o:∀{i:Nat} {r:Option Value},W (cw T i)=r->i≠3->(W.setCell (cw T 3) z).cell? (cw T i)=r:=λh hne=>(Qk _ _ _ _ (λe=>hne (by injection e with _ e;exact e.symm))).trans h;have f:∀i,(W.setCell (cw T 3) z).frozen? (cw T i)=W.frozen? (cw T i):=λi=>by rw[Qb]
 exact⟨o h.c0 oM,o h.c1 oM,o h.c2 oM,Qi _ _ _ h.c3,(f 0).trans h.f0,(f 1).trans h.f1,(f 2).trans h.f2,(f 3).trans h.f3,λi hi=>dL oM (h.c4 i hi),h.ty.set _ _⟩
section
variable{w W0 W W':Wd}{T9 T10:Nat}{p:RS}{pa:OA}{pc:Nat}{ps:List RS}{c:Cmd Bk}{a:OA}{k:Nat}{q:RS}{x0:Int}{qa:OA}{R:List Bk}{qk:Nat}{a2:OA}{ps2:List RS}{c2:Nat}
theorem M9.aIx(h:M9 w W0 W T9 T10 p pa pc ps c a k q x0 qa R qk a2 ps2 c2)(hb:Below W W W'):M9 w W0 W' T9 T10 p pa pc ps c a k q x0 qa R qk a2 ps2 c2:=
 ⟨h.ma.aIx hb,h.xb.aIx hb,h.yb.aIx hb,h.cur.keep hb,h.pst.keep hb,h.row.keep hb,h.all.keep hb,h.row2.keep hb,h.all2.keep hb,h.dat.keep hb,h.gb.on hb,h.n9,h.n10,h.lt⟩
theorem M9.ge(h:M9 w W0 W T9 T10 p pa pc ps c a k q x0 qa R qk a2 ps2 c2):W0.heap.size<=W.heap.size:=h.gb.size
theorem M9.refl(h:M9 w W0 W T9 T10 p pa pc ps c a k q x0 qa R qk a2 ps2 c2):M9 w W W T9 T10 p pa pc ps c a k q x0 qa R qk a2 ps2 c2:=
 ⟨h.ma,h.xb,h.yb,h.cur,h.pst,h.row,h.all,h.row2,h.all2,h.dat,bR,h.n9,h.n10,Yu h.lt h.ge⟩
theorem M9.past(h:M9 w W0 W T9 T10 p pa pc ps c a k q x0 qa R qk a2 ps2 c2)(a3:OA)(ps3:List RS)(c3:Nat)(hr:mI W a3 ps3)(hl:LRs W ps3):M9 w (W.setCell (cw T10 3) (.slice a3 ps3 c3)) (W.setCell (cw T10 3) (.slice a3 ps3 c3)) T9 T10 p pa pc ps c a k q x0 qa R qk a3 ps3 c3:=by
 have hg:=aJ W (cw T10 3) (.slice a3 ps3 c3);have ho:=h.xb.odN yG (λj d e=>by cases e) (λj d e=>by cases e);have n9:=h.n9;have n10:=h.n10;have hsz:(W.setCell (cw T10 3) (.slice a3 ps3 c3)).heap.size=W.heap.size:=by simp[World.setCell]
 refine⟨⟨h.ma.mb.grown hg (λe=>by injection e with e;simp only at e;omega),h.ma.cb.grown hg sO,h.ma.rb.grown hg (λe=>by injection e with e;simp only at e;omega),h.ma.yb.grown hg (λe=>by injection e with e;simp only at e;omega),h.ma.g.setCell sO _⟩,h.xb.putd _,h.yb.grown hg (λe=>by injection e with e;simp only at e;omega),RSt.aJe ho hg h.cur,RSt.aJe ho hg h.pst,h.row.grownT h.xb.ty NN hg,h.all.aJe ho hg,hr.grownT h.xb.ty NN hg,hl.aJe ho hg,h.dat.aJe ho hg,bR,n9,n10,?_⟩;have h1:=h.lt;have h2:=h.ge;omega
theorem M9.append(h:M9 w W0 W T9 T10 p pa pc ps c a k q x0 qa R qk pa ps pc){a3:OA}{c3:Nat}{P3:List RS}(hP:P3=ps++[p])(hr:mI W a3 P3):M9 w (W.setCell (cw T10 3) (.slice a3 P3 c3)) (W.setCell (cw T10 3) (.slice a3 P3 c3)) T9 T10 p pa pc ps c a k q x0 qa R qk a3 P3 c3:=
 h.past a3 P3 c3 hr (λz hz=>by
  rw[hP,Qn,List.mem_singleton]at hz;rcases hz with hz|rfl
  ·exact h.all z hz
  ·exact h.pst)
end
theorem jG.lit9(W:Wd)(la:Nat)(hla:W.heap.size=la)(B:Nat)(hB:B<=W.heap.size)(W':Wd)(hw:W.alloc (cq #[] 31)=W'):jG W' B (.slice (cw la 0) 0 0) []:=by
 subst hla hw;exact⟨sM,.inr ⟨W.heap.size,0,#[],rfl,hB,Yn,sM,by simp[maxLen],sM,sM⟩⟩
theorem vL{w:Wd}{ops:Array Oper}{o:Oper}{a:Act}{K:Act->Wd->Prop}{Q:Exit->Act->Wd->Prop}{F:Prop}(hgd:o.guard=none)(s x:Operand)
  (ho:o.op= .call {callee:= .builtin .append,args:= #[s,x],argTypes:= #[32,32]})
  (i0:TypeInfo) (hi:prog.info? 31=some i0) (hz0:i0.zero=some (.agg #[oo,sn,sn])) (hz1:i0.size=3) (hz2:i0.bytes=56)
  (la B:Nat) (hown:jG w B (.slice (cw la 0) 0 0) []) (hB:B<=w.heap.size) (hs:a.eval s= .slice (cw la 0) 0 0) (pa:OA) (pc:Nat) (ps:List RS) (hx:a.eval x= .slice pa ps pc) (hsrc:mI w pa ps) (hl:ps.length<=10000)
  (h:∀w' v,Hid (jG w' B v ps)->Hid (Below w w w')->K (a.put o.dst v) w'):
  if Region.wanted o (yielded ops a.tmps)=true then Oper.wp prog o a w K Q else F:=by
 have hfl:(ps.flatMap RS.cells).length=ps.length*3:=kM RS.cells 3 (λ_=>rfl) ps;by_cases h0:ps.length=0
 ·obtain rfl:=Qz h0;have hw:Region.wanted o (yielded ops a.tmps)=true:=by simp[Region.wanted,hgd]
  rw [Qf hw];have hr:(Builtin.append_ #[32,32] o.type #[.slice (cw la 0) 0 0,.slice pa 0 pc]).run prog w= .ok (.slice (cw la 0) 0 0) w:=by
   cases pa <;> simp[Builtin.append_,run_underlying underlying32,sizeOf,typeInfo,hi,Builtin.lenOf,Builtin.firstCells,storeCells,loadCells,loadCellsFrom]
  unfold Oper.wp execOp;simp only[ho,resolve,invoke,builtin,Sem.run_bind,Sem.run_pure,Result.andThen_ok,List.map_toArray,List.map_cons,List.map_nil,hs,hx,List.length_nil,hr];exact h w _ (hD hown) (hD bR)
 ·have hsr:=hsrc.source;obtain⟨_,h1,⟨_,h2⟩|⟨ad,rfl,hnews⟩⟩:=hsr
  ·omega
  ·refine step_append_grows hgd s x 32 ho 31 i0 (.agg #[oo,sn,sn]) 3 56 underlying32 hi hz0 hz1 hz2 rfl dE (cw la 0) 0 0 [] hs (by intro e;cases e) rfl (by intro b _ j u hj;simp at hj) ad ps.length pc (ps.flatMap RS.cells) hx hfl hnews h1 oM (by simp only[maxLen];omega) oM ?_;intro v1 w4 h3 h4;have h5:jG w4 w v1 ps:=by
    have:=jG.append (l:=[]) (r:=ps) h3 sM
    simpa using this
   exact h w4 v1 (hD (h5.mono hB)) (hD (bR.aJa h4 λk hk=>by cases hk))
theorem br2{P:Program}{fn:Func}{R:Ending->Wd->Prop}{e:Exit}{a:Act}{w:Wd}{v:Value}(hR:R (.returned v) w)(he:e= .ret:=by first|rfl|simp only[Exit.inBlock,Exit.then])
  (hr:(results fn a.tmps).run P w= .ok v w:=by rw[Cz rfl];go_simp;done) (hd:a.defers=[]:=by rfl):bodyPost P fn R e a w:=by
 subst he;exact Yg hr hd hR
theorem mst{P:Prop}(h:P:=by
  have e0:=HD.o.rb.c0;have e1:=HD.o.rb.c1;have e2:=HD.o.rb.c2;have e3:=HD.o.rb.c3;have e4:=HD.o.rb.f0;have e5:=HD.o.rb.f1;have e6:=HD.o.rb.f2;have e7:=HD.o.rb.f3;refine rdy 2 λK hK=> ?_;go_simp;refine hK.out _ _ HS4.o (λhHeld=> ?_);clear hK K
  try simp only[Act.put,sp]
  clear e0 e1 e2 e3 e4 e5 e6 e7;have e0:=H4.o.yb.c0;have e1:=H4.o.yb.c1;have e2:=H4.o.yb.c2;have e4:=H4.o.yb.f0;have e5:=H4.o.yb.f1;have e6:=H4.o.yb.f2;refine rdy 3 λK hK=> ?_;go_simp;refine hK.out _ _ HS43.o (λhHeld=> ?_);clear hK K
  try simp only[Act.put,sp]
  clear e0 e1 e2 e4 e5 e6;refine wpAnyH_done kR ?_ _;have j0:=H43.o.rb.c0;have j1:=H43.o.rb.c1;have j2:=H43.o.rb.c2;have j3:=H43.o.rb.c3;have i0:=H43.o.yb.c0;have i1:=H43.o.yb.c1;have i2:=H43.o.yb.c2;go_wp2_with fail
  exact br2 HFIN.o):P:=h
theorem aBb{P:Prop}(h:P:=by
  have HMD:=hD (HM9.o.aIx (bQ W9).drew);refine wp_region_held_drew (S:=λW=>Bx4 W T10 34 t.F.N (.slice na nn nc) (.slice ea t.F.N ec) (.slice a2 ps2 c2)/\Bx3 W T9 44 tag oo (.slice qa R qk)) kR ⟨HMD.o.xb,HMD.o.yb⟩ (λhHeld=> ?_);generalize W9.drew=wd at *;have HD:=hD HMD.o.ma;have H4:=hD (HD.o.put4 t.F.N (.slice na nn nc) (.slice ea t.F.N ec) (.slice a2 ps2 c2));have H43:=hD (H4.o.put3 tag oo (.slice qa R qk));have HX4:=hD (HMD.o.xb.grown (fK wd (ch w) t.F.N (.slice na nn nc) (.slice ea t.F.N ec) (.slice a2 ps2 c2)) (λe=>by injection e with e;have h1:=HMD.o.n9;have h2:=HMD.o.n10;omega));have HX43:=hD (HX4.o.grown (dY _ (w.heap.size+1+1+1) tag oo (.slice qa R qk)) (λe=>by injection e with e;have h1:=HMD.o.n9;have h2:=HMD.o.n10;omega));have HY4:=hD (HMD.o.yb.grown (fK wd (ch w) t.F.N (.slice na nn nc) (.slice ea t.F.N ec) (.slice a2 ps2 c2)) (λe=>by injection e with e;have h1:=HMD.o.n9;omega));have HY43:=hD (HY4.o.grown (dY _ (w.heap.size+1+1+1) tag oo (.slice qa R qk)) (λe=>by injection e with e;have h1:=HMD.o.n9;omega));have HS4:=hD (And.intro HX4.o HY4.o);have HS43:=hD (And.intro HX43.o HY43.o);have HFIN:=hD (MA.done43 (D:=R) (p:=⟨na,nn,nc,ea,ec,t⟩) (ps:=ps2) (pc:=c2) (k2:=qk) (m':=⟨t,P2⟩) HD.o ⟨rfl,HPX.o,HMD.o.cur,HMD.o.row2,HMD.o.all2⟩ HMD.o.dat HAP9.o HR.o);refine mtk 0 ?_ (hS:=hHeld);refine mtk 1 ?_ (hS:=hHeld)
  exact mst):P:=h
theorem IV{c:Cmd Bk}(h:c.valid=true)(k:c.kd=1):c.af=false:=by
 unfold Cmd.valid at h;simp only[Qd]at h;have hk:=h.2.2;unfold Cmd.aJj at hk;rw[Qf k]at hk;simp only[Qd,Bool.not_eq_true']at hk;exact hk.2.2.1
section
variable(p0:RS)(pa:OA)(pc:Nat)(ps:List RS)(m:Mo Bk)(tag kd ao:Int)(af:Bool)(vol oth:LU)(p n:Int)(data:List Bk)(a:OA)(k:Nat)(w:Wd)(hm:RMd w p0 pa ps m)
include hm
theorem TH(hs:m.cur.fine)(hpl:m.past.length<=10000)(hf:tN ⟨tag,kd,ao,af,vol,oth,p,n,data⟩)(hd:RdB w a data)(hv:(⟨tag,kd,ao,af,vol,oth,p,n,data⟩:Cmd Bk).valid=true)(x0:Int)(he:fE m.cur.F (⟨tag,kd,ao,af,vol,oth,p,n,data⟩:Cmd Bk)=x0):
  ep 17 #[rmV p0 pa ps.length pc,cmV ⟨tag,kd,ao,af,vol,oth,p,n,data⟩ a k] w (FN m ⟨tag,kd,ao,af,vol,oth,p,n,data⟩ w):=by
 have HPN:Hid (x0≠0∨kd=1->Ap Bk.zero m ⟨tag,kd,ao,af,vol,oth,p,n,data⟩ m):=hD (λh=>by
  unfold Ap
  rw[Qe (λq=>h.elim (λh=>h (he.symm.trans q.2.1)) q.2.2)])
 have HP4:Hid (x0=0->kd=4->Ap Bk.zero m ⟨tag,kd,ao,af,vol,oth,p,n,data⟩ ⟨m.cur,[]⟩):=hD (λh00 hk4=>by
  unfold Ap
  rw[Qf ⟨hv,he.trans h00,by show ¬kd=1;omega⟩,Qf hk4])
 have HPT:Hid (x0=0-> ¬kd=1-> ¬kd=4-> ∀t,Nx Bk.zero m.cur ⟨tag,kd,ao,af,vol,oth,p,n,data⟩ t->Ap Bk.zero m ⟨tag,kd,ao,af,vol,oth,p,n,data⟩ ⟨t,if af=true then []else m.past++[m.cur]⟩):=hD (λh00 hk1 hk4 t ht=>by
  unfold Ap;rw[Qf ⟨hv,he.trans h00,hk1⟩,Qe hk4]
  exact⟨ht,rfl⟩)
 have HV:=hD hv;obtain⟨s,past⟩:=m;obtain⟨va,vn,vc,da,dc,s9⟩:=p0;obtain rfl:s9=s:=hm.cur;have hpp:ps.map RS.s=past:=hm.past;have HPL:Hid (ps.length<=10000):=hD (by have h1:past.length<=10000:=hpl;rw[<-hpp,Yy]at h1;exact h1);have HPP:=hD hpp;have hs9:s9.fine:=hs;obtain⟨R,hR⟩:∃R,(if kd=1/\x0=0 then vD Bk.zero s9 vol p n else [])=R:=⟨_,rfl⟩;have he9:fE s9.F (⟨tag,kd,ao,af,vol,oth,p,n,data⟩:Cmd Bk)=x0:=he;have HR:Hid (kW Bk.zero s9 ⟨tag,kd,ao,af,vol,oth,p,n,data⟩=⟨tag,x0,R⟩):=hD (by
  unfold kW;rw[Qf hv,he9];simp only
  rw[hR])
 have HNX:=hD (λW (h:RSt W va vn vc da s9) (hd:RdB W a data)=>TC va vn vc da dc s9 ⟨tag,kd,ao,af,vol,oth,p,n,data⟩ a k W hs9 h hd hf hv x0 he9 R hR);have HM:=hD hm;have HA:=hD (MA.init w s9.F.N (.slice va vn vc) (.slice da s9.F.N dc) (.slice pa ps pc) ⟨tag,kd,ao,af,vol,oth,p,n,data⟩ a k _ rfl);have HVA:=hD (λW=>Cw ⟨tag,kd,ao,af,vol,oth,p,n,data⟩ a k W hf);rw[hv]at HVA;have HRD:=hD hd;clear hm hd hpp hs9 hR he9 hpl hs;unfold cmV at HVA HNX ⊢;unfold bB at HA;simp only at HA HVA HNX ⊢;go_enter func17,ntmps17;go_upto_region 1 with fail;generalize (((w.alloc (cq #[s9.F.N,.slice va vn vc,.slice da s9.F.N dc,.slice pa ps pc] 34)).alloc (cq #[tag,kd,ao,.bool af,nmV vol,nmV oth,p,n,.slice a data k] 48)).alloc (cq #[oo,sn,sn,sn] 34)).alloc (cq #[oo,oo,sn] 44)=W at HA ⊢;obtain⟨⟨m0,m1,m2,m3,-,-,-,-,-,-⟩,⟨c0,c1,c2,c3,c4,c5,c6,c7,c8⟩,-,-,-⟩:=HA.o;simp only at c0 c1 c2 c3 c4 c5 c6 c7 c8;go_wp2_with fail;refine(HVA.o _).m ?_;rintro e w1 ⟨rfl,hb⟩;have HA1:=hD (HA.o.aIx hb);clear hb HVA HA;clear m0 m1 m2 m3 c0 c1 c2 c3 c4 c5 c6 c7 c8;obtain⟨⟨m0,m1,m2,m3,-,-,-,-,-,-⟩,⟨c0,c1,c2,c3,c4,c5,c6,c7,c8⟩,-,-,-⟩:=HA1.o;simp only at c0 c1 c2 c3 c4 c5 c6 c7 c8;go_wp2_with fail;refine(HNX.o _ (RSt.keep HM.o.st HA1.o.g) (HRD.o.keep HA1.o.g)).m ?_;rintro e w2 ⟨na,nn,nc,ea,ec,t,qa,qk,rfl,hst,hnx,hrd,hb⟩;have HNQ:=hD hnx;have hk6:=(bQ w2).aIw (cq #[.int .i64 t.F.N,.slice na nn nc,.slice ea t.F.N ec] 31);have HA2:=hD ((HA1.o.aIx hb).aIx hk6);have HS2:Hid (RS.ok _ ⟨na,nn,nc,ea,ec,t⟩):=hD (RSt.keep hst hk6);have HX2:=hD (Bx3.new w2 _ rfl (.int .i64 t.F.N) (.slice na nn nc) (.slice ea t.F.N ec) 31);have HQ2:=hD (hrd.keep hk6);clear m0 m1 m2 m3 c0 c1 c2 c3 c4 c5 c6 c7 c8;clear hst hnx hrd hb hk6 HNX HA1;go_upto_region 4 with fail;generalize w2.alloc (cq #[.int .i64 t.F.N,.slice na nn nc,.slice ea t.F.N ec] 31)=W3 at *;generalize w2.heap.size=T6 at *;have hk9:=(bQ W3).aIw (cq #[tag,x0,.slice qa R.length qk] 44);have HA3:=hD (HA2.o.aIx hk9);have HS3:=hD (HS2.o.keep hk9);have HX3:=hD (HX2.o.aIx hk9);have HQ3:=hD (HQ2.o.keep hk9);have HY3:=hD (Bx3.new W3 _ rfl tag x0 (.slice qa R.length qk) 44);have HT9:Hid (w.heap.size+1+1+1<W3.heap.size):=hD HA2.o.yb.lt;have c0:=HA2.o.cb.c0;simp only at c0;go_upto_region 5 with fail;clear c0 hk9 HA2 HS2 HX2 HQ2;generalize W3.alloc (cq #[tag,x0,.slice qa R.length qk] 44)=W4 at *;generalize W3.heap.size=T9 at *;clear he hv;by_cases h00:x0=0
 ·obtain rfl:x0=0:=h00;obtain⟨tb,htb⟩:∃b,(kd != 1&&kd != 4)=b:=⟨_,rfl⟩;have HTR:=hD htb;clear htb;have x0':=HX3.o.c0;have x1':=HX3.o.c1;have x2':=HX3.o.c2;have m3:=HA3.o.mb.c3;have HK10:=hD ((bQ W4).aIw (cq #[.int .i64 t.F.N,.slice na nn nc,.slice ea t.F.N ec,.slice pa ps pc] 34));have HM5:Hid (M9 w (W4.alloc (cq #[.int .i64 t.F.N,.slice na nn nc,.slice ea t.F.N ec,.slice pa ps pc] 34)) (W4.alloc (cq #[.int .i64 t.F.N,.slice na nn nc,.slice ea t.F.N ec,.slice pa ps pc] 34)) T9 W4 ⟨va,vn,vc,da,dc,s9⟩ pa pc ps ⟨tag,kd,ao,af,vol,oth,p,n,data⟩ a k ⟨na,nn,nc,ea,ec,t⟩ 0 qa R qk pa ps pc):=hD
   ⟨HA3.o.aIx HK10.o,Bx4.new W4 _ rfl _ _ _ _ _,HY3.o.aIx HK10.o,HS3.o.keep HK10.o,RSt.keep HM.o.st (HA3.o.aIx HK10.o).g,HM.o.row.keep (HA3.o.aIx HK10.o).g,HM.o.all.keep (HA3.o.aIx HK10.o).g,HM.o.row.keep (HA3.o.aIx HK10.o).g,HM.o.all.keep (HA3.o.aIx HK10.o).g,HQ3.o.keep HK10.o,bR,HT9.o,HY3.o.lt,sM⟩
  go_upto_region 8 with fail;clear x0' x1' x2' m3 HK10 HA3 HY3 HS3 HX3 HQ3;generalize W4.alloc (cq #[.int .i64 t.F.N,.slice na nn nc,.slice ea t.F.N ec,.slice pa ps pc] 34)=W5 at *;generalize W4.heap.size=T10 at *;have c1:=HM5.o.ma.cb.c1;simp only at c1;go_wp2_with fail;refine(Tz kd _ _ HTR.o).m ?_;rintro e w5 ⟨rfl,rfl⟩;clear c1;have c1:=HM5.o.ma.cb.c1;have c3:=HM5.o.ma.cb.c3;simp only at c1 c3;by_cases hk1:kd=1
  ·have HK1:=hD hk1;obtain rfl:tb=false:=by rw[<-HTR.o,hk1];rfl
   have hff:af=false:=IV HV.o hk1;have hk4b:(kd==4)=false:=by rw[hk1];rfl
   rw[hff]at c3;have HTS:Hid (t=s9):=hD (by have:=HNQ.o;rwa [Qf (.inl HK1.o)]at this);obtain⟨W9,rfl⟩:∃W,W=W5:=⟨_,rfl⟩;obtain⟨a2,ps2,c2,P2,HM9,HAP9,HPX⟩:∃a2 ps2 c2 P2,Hid (M9 w W9 W9 T9 T10 ⟨va,vn,vc,da,dc,s9⟩ pa pc ps ⟨tag,kd,ao,af,vol,oth,p,n,data⟩ a k ⟨na,nn,nc,ea,ec,t⟩ 0 qa R qk a2 ps2 c2)/\Hid (Ap Bk.zero ⟨s9,past⟩ ⟨tag,kd,ao,af,vol,oth,p,n,data⟩ ⟨t,P2⟩)/\Hid (ps2.map RS.s=P2):=⟨_,_,_,_,HM5,hD (by rw[HTS.o];exact HPN.o (.inr HK1.o)),HPP⟩;clear hk1 hff;go_upto_region 12 with fail;clear c1 c3 hk4b;exact aBb
  ·by_cases hk4:kd=4
   ·have HK4:=hD hk4;obtain rfl:tb=false:=by rw[<-HTR.o,hk4];rfl
    have hk4b:(kd==4)=true:=by rw[hk4];rfl
    have HTS:Hid (t=s9):=hD (by have:=HNQ.o;rwa [Qf (.inr HK4.o)]at this);have HM6:=hD (HM5.o.past none [] 0 (mI.nil _ _) (by intro z hz;simp at hz));have e0:=HM5.o.xb.c3;have e1:=HM5.o.xb.f3;clear hk1 hk4;go_upto_region 12 with fail;clear c1 c3 e0 e1 hk4b;rw[List.length_nil]at HM6;generalize W5.setCell (cw T10 3) sn=W9 at *;obtain⟨a2,ps2,c2,P2,HM9,HAP9,HPX⟩:∃a2 ps2 c2 P2,Hid (M9 w W9 W9 T9 T10 ⟨va,vn,vc,da,dc,s9⟩ pa pc ps ⟨tag,kd,ao,af,vol,oth,p,n,data⟩ a k ⟨na,nn,nc,ea,ec,t⟩ 0 qa R qk a2 ps2 c2)/\Hid (Ap Bk.zero ⟨s9,past⟩ ⟨tag,kd,ao,af,vol,oth,p,n,data⟩ ⟨t,P2⟩)/\Hid (ps2.map RS.s=P2):=⟨_,_,_,[],HM6,hD (by rw[HTS.o];exact HP4.o (by trivial) HK4.o),hD rfl⟩;exact aBb
   ·have HK1:=hD (And.intro hk1 hk4);obtain rfl:tb=true:=by rw[<-HTR.o];simp[hk1,hk4]
    have hk4b:(kd==4)=false:=by simpa using hk4
    have HNT:Hid (Nx Bk.zero s9 ⟨tag,kd,ao,af,vol,oth,p,n,data⟩ t):=hD (by have:=HNQ.o;rwa [Qe (λh=>h.elim HK1.o.1 HK1.o.2)]at this);obtain⟨i0,hi,hz0,hz1,hz2⟩:=info_parts aGy;clear hk1 hk4;go_upto_region 9 with fail;clear c1 c3
    go_cut [] from 42 to 50 (λwx=>∃W9 a1 c1 P3,W9=wx/\Hid (P3=ps++[⟨va,vn,vc,da,dc,s9⟩])/\Hid (M9 w W9 W9 T9 T10 ⟨va,vn,vc,da,dc,s9⟩ pa pc ps ⟨tag,kd,ao,af,vol,oth,p,n,data⟩ a k ⟨na,nn,nc,ea,ec,t⟩ 0 qa R qk a1 P3 c1))
    case first=>
     have HM0:=hD (M9.refl (HM5.o.aIx (bQ W5).drew));obtain⟨wq0,hwq0⟩:∃W,W5.drew=W:=⟨_,rfl⟩;rw[hwq0]at HM0;refine wp_region_held_drew (S:=λW=>MA w W s9.F.N (.slice va vn vc) (.slice da s9.F.N dc) (.slice pa ps pc) ⟨tag,kd,ao,af,vol,oth,p,n,data⟩ a k oo sn sn sn oo oo sn) kR (by rw[hwq0];exact HM0.o.ma) (λhHeld=> ?_);rw[hwq0]at hHeld ⊢;clear hwq0 HM5;have HMS:=HM0;refine atk 1 ?_;refine atk 2 ?_;refine atk 4 ?_;refine atk 5 ?_;refine TJ 0 6 (λK hK=> ?_) (λK hK=> ?_)
     ·go_simp;have hbz:=(bQ wq0).aIw (cq #[] 31);have HM1:=hD (HM0.o.aIx hbz);obtain⟨la,hla⟩:∃n,wq0.heap.size=n:=⟨_,rfl⟩;obtain⟨wq1,hwz⟩:∃W,wq0.alloc (cq #[] 31)=W:=⟨_,rfl⟩;rw[hla,hwz];rw[hwz]at HM1;have HLA:=hD (jG.lit9 wq0 la hla wq0 HM0.o.ge wq1 hwz);clear hbz hwz hla;refine hK.out _ _ HM1.o.ma (λhHeld=> ?_);clear hK K
      try simp only[Act.put,sp]
      refine TJ 3 6 (λK hK=> ?_) (λK hK=> ?_)
      ·refine vL (by rfl) (.tmp 42) (.tmp 44) (by rfl) i0 hi hz0 hz1 hz2 la wq0 HLA.o HM1.o.ge (by rfl) pa pc ps (by first|rfl|go_simp) HM1.o.row HPL.o ?_;intro wq2 vd HOD hbz;have HM2:=hD (HM1.o.aIx hbz.o);clear hbz HLA;refine hK.out _ _ HM2.o.ma (λhHeld=> ?_);clear hK K
       try simp only[Act.put,sp]
       refine rdy 6 λK hK=> ?_
       ·go_simp;have hbz:=(bQ wq2).aIw (cq #[s9.F.N,.slice va vn vc,.slice da s9.F.N dc] 31);have HM3:=hD (HM2.o.aIx hbz);have HE:=hD (Xx wq2 _ rfl ⟨va,vn,vc,da,dc,s9⟩ 31);have HOD:=hD (HOD.o.keep hbz);obtain⟨le,hle⟩:∃n,wq2.heap.size=n:=⟨_,rfl⟩;obtain⟨wq3,hwz⟩:∃W,wq2.alloc (cq #[s9.F.N,.slice va vn vc,.slice da s9.F.N dc] 31)=W:=⟨_,rfl⟩;rw[hle,hwz];have HE:Hid (∀j u,(RS.cells ⟨va,vn,vc,da,dc,s9⟩)[j]? =some u->wq3.cell? (((cw le 0):Addr).add j)=some u):=by rw[<-hwz,<-hle];exact HE
        rw[hwz]at HM3 HOD;clear hbz hwz hle;exact aDm
      ·go_simp;have hbz:=(bQ wq1).aIw (cq #[s9.F.N,.slice va vn vc,.slice da s9.F.N dc] 31);have HM2:=hD (HM1.o.aIx hbz);have HE:=hD (Xx wq1 _ rfl ⟨va,vn,vc,da,dc,s9⟩ 31);have HLA:=hD (HLA.o.keep hbz);obtain⟨le,hle⟩:∃n,wq1.heap.size=n:=⟨_,rfl⟩;obtain⟨wq2,hwz⟩:∃W,wq1.alloc (cq #[s9.F.N,.slice va vn vc,.slice da s9.F.N dc] 31)=W:=⟨_,rfl⟩;rw[hle,hwz];have HE:Hid (∀j u,(RS.cells ⟨va,vn,vc,da,dc,s9⟩)[j]? =some u->wq2.cell? (((cw le 0):Addr).add j)=some u):=by rw[<-hwz,<-hle];exact HE
       rw[hwz]at HM2 HLA;clear hbz hwz hle;exact aDl
     ·go_simp;have hbz:=(bQ wq0).aIw (cq #[s9.F.N,.slice va vn vc,.slice da s9.F.N dc] 31);have HM1:=hD (HM0.o.aIx hbz);have HE:=hD (Xx wq0 _ rfl ⟨va,vn,vc,da,dc,s9⟩ 31);obtain⟨le,hle⟩:∃n,wq0.heap.size=n:=⟨_,rfl⟩;obtain⟨wq1,hwz⟩:∃W,wq0.alloc (cq #[s9.F.N,.slice va vn vc,.slice da s9.F.N dc] 31)=W:=⟨_,rfl⟩;rw[hle,hwz];have HE:Hid (∀j u,(RS.cells ⟨va,vn,vc,da,dc,s9⟩)[j]? =some u->wq1.cell? (((cw le 0):Addr).add j)=some u):=by rw[<-hwz,<-hle];exact HE
      rw[hwz]at HM1;clear hbz hwz hle;refine hK.out _ _ HM1.o.ma (λhHeld=> ?_);clear hK K
      try simp only[Act.put,sp]
      refine rdy 0 λK hK=> ?_
      ·go_simp;have hbz:=(bQ wq1).aIw (cq #[] 31);have HM2:=hD (HM1.o.aIx hbz);have HE:=hD (λj u hj=>hbz.keep (HE.o j u hj));obtain⟨la,hla⟩:∃n,wq1.heap.size=n:=⟨_,rfl⟩;obtain⟨wq2,hwz⟩:∃W,wq1.alloc (cq #[] 31)=W:=⟨_,rfl⟩;rw[hla,hwz];rw[hwz]at HM2 HE;have HLA:=hD (jG.lit9 wq1 la hla wq0 HM1.o.ge wq2 hwz);clear hbz hwz hla;exact aDl
    case rest=>
     obtain⟨W9,a1,c1,P3,rfl,HP3,HMC⟩:=hcut;have c1':=HMC.o.ma.cb.c1;have c3':=HMC.o.ma.cb.c3;simp only at c1' c3';cases af
     ·obtain⟨a2,ps2,c2,P2,HM9,HAP9,HPX⟩:∃a2 ps2 c2 P2,Hid (M9 w W9 W9 T9 T10 ⟨va,vn,vc,da,dc,s9⟩ pa pc ps ⟨tag,kd,ao,false,vol,oth,p,n,data⟩ a k ⟨na,nn,nc,ea,ec,t⟩ 0 qa R qk a2 ps2 c2)/\Hid (Ap Bk.zero ⟨s9,past⟩ ⟨tag,kd,ao,false,vol,oth,p,n,data⟩ ⟨t,P2⟩)/\Hid (ps2.map RS.s=P2):=⟨_,_,_,_,HMC,hD (HPT.o (by trivial) HK1.o.1 HK1.o.2 t HNT.o),hD (by rw[HP3.o,Yz,HPP.o];rfl)⟩;go_upto_region 12 with fail;clear c1' c3' hk4b;exact aBb
     ·have HM6:=hD (HMC.o.past none [] 0 (mI.nil _ _) (by intro z hz;simp at hz));have e0:=HMC.o.xb.c3;have e1:=HMC.o.xb.f3;go_upto_region 12 with fail;clear c1' c3' e0 e1 hk4b;rw[List.length_nil]at HM6;generalize W9.setCell (cw T10 3) sn=w6 at *;obtain⟨W9,rfl⟩:∃W,W=w6:=⟨_,rfl⟩;obtain⟨a2,ps2,c2,P2,HM9,HAP9,HPX⟩:∃a2 ps2 c2 P2,Hid (M9 w W9 W9 T9 T10 ⟨va,vn,vc,da,dc,s9⟩ pa pc ps ⟨tag,kd,ao,true,vol,oth,p,n,data⟩ a k ⟨na,nn,nc,ea,ec,t⟩ 0 qa R qk a2 ps2 c2)/\Hid (Ap Bk.zero ⟨s9,past⟩ ⟨tag,kd,ao,true,vol,oth,p,n,data⟩ ⟨t,P2⟩)/\Hid (ps2.map RS.s=P2):=⟨_,_,_,[],HM6,hD (HPT.o (by trivial) HK1.o.1 HK1.o.2 t HNT.o),hD rfl⟩;exact aBb
 ·have HFP:Hid (Ap Bk.zero ⟨s9,past⟩ ⟨tag,kd,ao,af,vol,oth,p,n,data⟩ ⟨s9,past⟩):=hD (HPN.o (.inl h00));have h00b:(x0 != 0)=true:=by simpa using h00
  clear h00;go_upto_region 6 with fail;have HD:=hD (HA3.o.aIx (bQ W4).drew);have HYD:=hD (HY3.o.aIx (bQ W4).drew);have HQD:=hD (HQ3.o.keep (bQ W4).drew);have HMD:=hD (HM.o.keep HD.o.g);refine wp_region_held_drew (S:=λW=>Bx4 W w 34 s9.F.N (.slice va vn vc) (.slice da s9.F.N dc) (.slice pa ps pc)/\Bx3 W T9 44 tag x0 (.slice qa R.length qk)) kR ⟨HD.o.mb,HYD.o⟩ (λhHeld=> ?_);generalize W4.drew=wd at *;have H4:=hD (HD.o.put4 s9.F.N (.slice va vn vc) (.slice da s9.F.N dc) (.slice pa ps pc));have H43:=hD (H4.o.put3 tag x0 (.slice qa R.length qk));have HY4:=hD (HYD.o.grown (fK wd (ch w) s9.F.N (.slice va vn vc) (.slice da s9.F.N dc) (.slice pa ps pc)) (λe=>by injection e with e;have:=HT9.o;omega));have HY43:=hD (HY4.o.grown (dY _ (w.heap.size+1+1+1) tag x0 (.slice qa R.length qk)) (λe=>by injection e with e;have:=HT9.o;omega));have HS4:=hD (And.intro H4.o.mb HY4.o);have HS43:=hD (And.intro H43.o.mb HY43.o);have HFIN:=hD (MA.done43 (D:=R) (pc:=pc) (k2:=qk) HD.o HMD.o HQD.o HFP.o HR.o);refine mtk 0 ?_ (hS:=hHeld);refine mtk 1 ?_ (hS:=hHeld);exact mst
end
theorem Cy(p0:RS)(pa:OA)(pc:Nat)(ps:List RS)(m:Mo Bk)(c:Cmd Bk)(a:OA)(k:Nat)(w:Wd)(hm:RMd w p0 pa ps m)(hs:m.fine)(hpl:m.past.length<=10000)(hf:tN c)(hd:RdB w a c.data):
  ep 17 #[rmV p0 pa ps.length pc,cmV c a k] w (FN m c w):=by
 obtain⟨tag,kd,ao,af,vol,oth,p,n,data⟩:=c;by_cases hv:(⟨tag,kd,ao,af,vol,oth,p,n,data⟩:Cmd Bk).valid=true
 ·exact TH p0 pa pc ps m tag kd ao af vol oth p n data a k w hm hs.cur hpl hf hd hv _ rfl
 ·exact KP p0 pa pc ps m tag kd ao af vol oth p n data a k w hm hf hd (by simpa using hv)
end Go.Proofs.YtphfgbbbejloaaaGreatDoor
