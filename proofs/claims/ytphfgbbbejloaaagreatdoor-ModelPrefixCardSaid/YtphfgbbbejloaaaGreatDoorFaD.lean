/- package extree: trees in memory; deep, size, mapped, build. Conditions: as each theorem says. -/
import Derived.Test.YtphfgbbbejloaaaGreatDoorGD
set_option linter.unusedSimpArgs false
set_option linter.unusedVariables false
set_option maxRecDepth 100000
set_option maxHeartbeats 16000000
namespace Go.Proofs.YtphfgbbbejloaaaGreatDoor
open Go.RowKit
open Go.Proofs.Tryz
theorem sh12{P:Prop}(h:P:=by show tm.size<=_;have:=HSZ.o;omega):P:=h
theorem sh14{P:Prop}(h:P:=by first|omega|(dsimp only;omega)):P:=h
theorem sh15{P:Prop}(h:P:=by have:=(aB _).1 HXX.o;first|(simp only;omega)|(dsimp only at *;omega)):P:=h
theorem aGi{P:Prop}(h:P:=by rw[HL5.o];intro z hz;exact HOC.o z (by rw[HL1.o];simp[hz])):P:=h
theorem sh0{P:Prop}(h:P:=by
  rintro e w8 ⟨v8,t8,rfl,ht8,hl8,hb8⟩;obtain⟨a8,rfl⟩:=ht8.form;have HTM:=hD (aD.keep hb8 tm HTM.o);have HP:=hD (HP.o.aIx hb8);have HT8:=hD ht8;have HL8:=hD hl8;clear ht8 hl8 hb8;go_wp2_with fail;refine(xG tm (.pointer am) w8 HTM.o (by have:=HSZ.o;omega)).m ?_;rintro e w9 ⟨sv,rfl,ho,hb9⟩;obtain⟨sa,sc,rfl,_⟩:=ho.rd sh12;have P9:=HP.o.aIx hb9;have r0:=P9.r0;have rf:=P9.rf;have hsz8:=HP.o.bel.size;have hr8:=Qj w8 (cw (ch w) 0) HP.o.r0;have HT9:=hD (aD.away (i:=0) (u:= .pointer a8) P9.r7 t8 (aD.keep hb9 t8 HT8.o));have HB9:=hD (P9.bel.setCell (p:=(cw (ch w) 0)) sO (.pointer a8));have HO9:=hD (aG.far ho (cw (ch w) 0) (.pointer a8) λh=>by have:=(ho.lt (ch w) h).1;simp only at hr8;omega);clear P9 ho hb9 hr8;go_wp2_with fail;have r1:=Qi w9 (cw (ch w) 0) (.pointer a8) r0;refine br (.tuple #[.agg #[.pointer a8],.slice sa tm.toL.length sc,oo]) ?_;exact⟨_,t8,_,rfl,HT9.o,by rw[HL8.o];(rw[HPUT.o,<-HC.o,<-HL.o,HL1.o,KU _ _ _ _ (by rw[<-HL1.o];exact HNC.o) hm'.o,HL5.o];rfl),by rw[<-HM.o];exact aG.mono HO9.o hsz8,HB9.o⟩
  ):P:=h
theorem sh1{P:Prop}(h:P:=by
  rintro e w8 ⟨v8,t8,rfl,ht8,hl8,hb8⟩;obtain⟨a8,rfl⟩:=ht8.form;have HTM:=hD (aD.keep hb8 tm HTM.o);have HP:=hD (HP.o.aIx hb8);have HT8:=hD ht8;have HL8:=hD hl8;clear ht8 hl8 hb8;go_wp2_with fail;refine(xG tm (.pointer am) w8 HTM.o (by have:=HSZ.o;omega)).m ?_;rintro e w9 ⟨sv,rfl,ho,hb9⟩;obtain⟨sa,sc,rfl,_⟩:=ho.rd sh12;have P9:=HP.o.aIx hb9;have r0:=P9.r0;have rf:=P9.rf;have hsz8:=HP.o.bel.size;have hr8:=Qj w8 (cw (ch w) 0) HP.o.r0;have HT9:=hD (aD.away (i:=0) (u:= .pointer a8) P9.r7 t8 (aD.keep hb9 t8 HT8.o));have HB9:=hD (P9.bel.setCell (p:=(cw (ch w) 0)) sO (.pointer a8));have HO9:=hD (aG.far ho (cw (ch w) 0) (.pointer a8) λh=>by have:=(ho.lt (ch w) h).1;simp only at hr8;omega);clear P9 ho hb9 hr8;go_wp2_with fail;have r1:=Qi w9 (cw (ch w) 0) (.pointer a8) r0;refine br (.tuple #[.agg #[.pointer a8],.slice sa tm.toL.length sc,oo]) ?_;exact⟨_,t8,_,rfl,HT9.o,by rw[HL8.o];(rw[HPUT.o,<-HC.o,<-HL.o,OC _ _ _ HNC.o (by rw[HL1.o];simp[hm'.o])]),by rw[<-HM.o];exact aG.mono HO9.o hsz8,HB9.o⟩
  ):P:=h
theorem sh2{P:Prop}(h:P:=by
  rintro e w8 ⟨v8,t8,rfl,ht8,hl8,hb8⟩;obtain⟨a8,rfl⟩:=ht8.form;have HTM:=hD (aD.keep hb8 tm HTM.o);have HP:=hD (HP.o.aIx hb8);have HT8:=hD ht8;have HL8:=hD hl8;clear ht8 hl8 hb8;go_wp2_with fail;refine(xG tm (.pointer am) w8 HTM.o (by have:=HSZ.o;omega)).m ?_;rintro e w9 ⟨sv,rfl,ho,hb9⟩;obtain⟨sa,sc,rfl,_⟩:=ho.rd sh12;have P9:=HP.o.aIx hb9;have r0:=P9.r0;have rf:=P9.rf;have hsz8:=HP.o.bel.size;have hr8:=Qj w8 (cw (ch w) 0) HP.o.r0;have HT9:=hD (aD.away (i:=0) (u:= .pointer a8) P9.r7 t8 (aD.keep hb9 t8 HT8.o));have HB9:=hD (P9.bel.setCell (p:=(cw (ch w) 0)) sO (.pointer a8));have HO9:=hD (aG.far ho (cw (ch w) 0) (.pointer a8) λh=>by have:=(ho.lt (ch w) h).1;simp only at hr8;omega);clear P9 ho hb9 hr8;go_wp2_with fail;have r1:=Qi w9 (cw (ch w) 0) (.pointer a8) r0;refine br (.tuple #[.agg #[.pointer a8],.slice sa tm.toL.length sc,oo]) ?_;exact⟨_,t8,_,rfl,HT9.o,by rw[HL8.o];(rw[HPUT.o,<-HC.o,<-HL.o];simp[Tr.toL,bX]),by rw[<-HM.o];exact aG.mono HO9.o hsz8,HB9.o⟩
  ):P:=h
theorem sh3{P:Prop}(h:P:=by
  have HB4:=hD (((HB1.o.aIw (cq #[x1.a,x1.n,x1.s] 128)).drew).on hb4);have h7:w4 (cw w 7)=none:=by
   rw[hb4.cell (by have:=HB1.o.size;have:=Qj _ _ c0;simp;omega)];simp;exact(Ya _ _ (cw w 7) (Qj _ (cw w 0) c0)).trans c7
  have H7:=hD h7;have H4:=hD ht4;clear hb4 ht4 h7;go_wp2_with fail;obtain⟨j0,j1,j2⟩:=Ao (u0:=x1.a) (u1:=x1.n) (u2:=x1.s) g0 g1 g2;refine br (.tuple #[.agg #[x1.a,x1.n,x1.s],v4]) ?_;exact⟨v4,t4,rfl,aD.set3 H7.o t4 H4.o,by rw[hl4,<-HLL.o,HL1.o],((HB4.o.setCell (Ye _) _).setCell (Ye _) _).setCell (Ye _) _⟩
  ):P:=h
theorem sh4{P:Prop}(h:P:=by
  refine(dU l r x (.pointer al) (.pointer ar) _ (aD.keep HB.o l HL0.o) (aD.keep HB.o r HR0.o) HOK.o).m ?_;rintro e w4 ⟨v4,rfl,ht4,hb4⟩;go_wp2_with fail;go_ret;exact⟨v4,_,rfl,ht4,by simp[Tr.toL],HB.o.on hb4⟩
  ):P:=h
theorem sh5{P:Prop}(h:P:=by
  exact⟨b,vl,vr,hv,⟨(k _).trans hn.a,(k _).trans hn.n,(k _).trans hn.s,(k _).trans hn.l,(k _).trans hn.r,(k _).trans hn.d,(k _).trans hn.c,(k _).trans hn.m⟩,ihl hl,ihr hr⟩
  ):P:=h
theorem sh6{P:Prop}(h:P:=by
  cases h:(Tr.node cl yc cr).toL with
  |nil=>simp[Tr.toL]at h
  |cons a b=>exact⟨a,b,rfl⟩
  ):P:=h
theorem sh7{P:Prop}(h:P:=by
  go_wp2_with fail;go_ret;exact⟨v5,t5,rfl,ht5,by rw[hl5,hl4];simp[Tr.toL],(HBd.o.on hb4).on hb5⟩
  ):P:=h
theorem sh8{P:Prop}(h:P:=by
  go_wp2_with fail;go_ret;exact⟨v5,_,rfl,ht5,by simp[Tr.toL],(HBd.o.on hb4).on hb5⟩
  ):P:=h
theorem sh9{P:Prop}(h:P:=by
  go_enter func295,ntmps295;go_wp2;go_ret;exact⟨rfl,bR⟩
  ):P:=h
theorem aGj{P:Prop}(h:P:=by
  go_enter func276,ntmps276;go_wp2;go_ret;exact⟨rfl,bR⟩
  ):P:=h
theorem sh11{P:Prop}(h:P:=by
  go_enter func130,ntmps130;go_wp2;go_ret;exact⟨rfl,bR⟩
  ):P:=h
def Tr.blocks(t:Tr):Int:=aR t.toL
theorem Tr.blocks_node(l r:Tr)(x:E):(Tr.node l x r).blocks=l.blocks+x.n+r.blocks:=by
 show aR (l.toL++x::r.toL)=aR l.toL+x.n+aR r.toL;unfold aR;rw[Yz,List.map_cons,List.sum_append,List.sum_cons];omega
structure JV(w:Wd)(b:Nat)(x:E)(vl vr:Value)(dp ct:Nat)(mp:Int):Prop where
 a:w (cw b 0)=x.a
 n:w (cw b 1)=x.n
 s:w (cw b 2)=x.s
 l:w (cw b 3)=some vl
 r:w (cw b 4)=some vr
 d:w (cw b 5)=dp
 c:w (cw b 6)=ct
 m:w (cw b 7)=mp
theorem JV.keep{w w':Wd}(h:Below w w w'){b:Nat}{x:E}{vl vr:Value}{d n:Nat}{m:Int}(ha:JV w b x vl vr d n m):JV w' b x vl vr d n m:=
 ⟨h.keep ha.a,h.keep ha.n,h.keep ha.s,h.keep ha.l,h.keep ha.r,h.keep ha.d,h.keep ha.c,h.keep ha.m⟩
def aD(w:Wd):Value->Tr->Prop
 |v,.nil=>v= .pointer none
 |v,.node l x r=>∃b vl vr,v= .pointer (cw b 0)/\JV w b x vl vr (Tr.node l x r).deep (Tr.node l x r).size (Tr.node l x r).blocks/\aD w vl l/\aD w vr r
theorem aD.keep{w w':Wd}(h:Below w w w')(t:Tr):∀{v:Value},aD w v t->aD w' v t:=by
 induction t with
 |nil=>exactλhv=>hv
 | node l x r ihl ihr=>
  rintro v ⟨b,vl,vr,hv,hn,hl,hr⟩;exact⟨b,vl,vr,hv,hn.keep h,ihl hl,ihr hr⟩
theorem aD.form{w:Wd}{v:Value}{t:Tr}(h:aD w v t):∃a,v= .pointer a:=by
 cases t with
 |nil=>exact⟨none,h⟩
 |node l x r=>obtain⟨b,_,_,hv,_⟩:=h;exact⟨_,hv⟩
def Tr.ok(t:Tr):Prop:=(∀x∈t.toL,okB x=true)/\t.size<=1000000
theorem Tr.ok_left{l r:Tr}{x:E}(h:(Tr.node l x r).ok):l.ok:=⟨λy hy=>h.1 y (by simp[Tr.toL,hy]),by have:=h.2;rw[Tr.aJg]at this;omega⟩
theorem Tr.aJl{l r:Tr}{x:E}(h:(Tr.node l x r).ok):r.ok:=⟨λy hy=>h.1 y (by simp[Tr.toL,hy]),by have:=h.2;rw[Tr.aJg]at this;omega⟩
theorem Tr.ok_mid{l r:Tr}{x:E}(h:(Tr.node l x r).ok):okB x=true:=h.1 x (by simp[Tr.toL])
theorem Tr.blocks_bd{t:Tr}(h:t.ok):0<=t.blocks/\t.blocks<=65536000000:=by
 obtain⟨h1,h2⟩:=yY t.toL h.1;have:=h.2;unfold Tr.size at this;exact⟨h1,by unfold Tr.blocks;omega⟩
theorem Zm(t:Tr)(v:Value)(w:Wd)(h:aD w v t):ep 276 #[v] w (RB w t.deep):=by
 cases t with
 | nil=>
  obtain rfl:v= .pointer none:=h;exact aGj
 | node l x r=>
  obtain⟨b,vl,vr,rfl,hn,_,_⟩:=h;have hd:=hn.d;generalize (Tr.node l x r).deep=d at *;exact aGj
theorem SV(t:Tr)(v:Value)(w:Wd)(h:aD w v t):ep 295 #[v] w (RB w t.size):=by
 cases t with
 | nil=>
  obtain rfl:v= .pointer none:=h;exact sh9
 | node l x r=>
  obtain⟨b,vl,vr,rfl,hn,_,_⟩:=h;have hd:=hn.c;generalize (Tr.node l x r).size=d at *;exact sh9
theorem Pk(t:Tr)(v:Value)(w:Wd)(h:aD w v t):ep 130 #[v] w (RB w t.blocks):=by
 cases t with
 | nil=>
  obtain rfl:v= .pointer none:=h;exact sh11
 | node l x r=>
  obtain⟨b,vl,vr,rfl,hn,_,_⟩:=h;have hd:=hn.m;generalize (Tr.node l x r).blocks=d at *;exact sh11
theorem jL(t:Tr)(d:Nat)(v:Value)(w:Wd)(hd:t.deep=d)(h:aD w v t):ep 276 #[v] w (RB w d):=by
 subst hd;exact Zm t v w h
theorem Kk(t:Tr)(d:Nat)(v:Value)(w:Wd)(hd:t.size=d)(h:aD w v t):ep 295 #[v] w (RB w d):=by
 subst hd;exact SV t v w h
theorem BL(t:Tr)(d:Int)(v:Value)(w:Wd)(hd:t.blocks=d)(h:aD w v t):ep 130 #[v] w (RB w d):=by
 subst hd;exact Pk t v w h
def Grown(w:Wd)(L:List E)(e:Ending)(w':Wd):Prop:= ∃v t,e= .returned v/\aD w' v t/\t.toL=L/\Below w w w'
theorem dU(l r:Tr)(x:E)(vl vr:Value)(w:Wd)(hl:aD w vl l)(hr:aD w vr r)(hok:(Tr.node l x r).ok):
  ep 278 #[vl,.agg #[x.a,x.n,x.s],vr] w λe w'=>∃v,e= .returned v/\aD w' v (.node l x r)/\Below w w w':=by
 obtain⟨al,rfl⟩:=hl.form;obtain⟨ar,rfl⟩:=hr.form;have hk:=(bQ w).aIw (cq #[x.a,x.n,x.s] 128);have HL:=hD (aD.keep hk l hl);have HL0:=hD hl;have HR0:=hD hr;have HR:=hD (aD.keep hk r hr);have hd1:=l.deep_le;have hd2:=r.deep_le;have hs:=hok.2;rw[Tr.aJg]at hs;obtain⟨b1,b2⟩:=Tr.blocks_bd (Tr.ok_left hok);obtain⟨b3,b4⟩:=Tr.blocks_bd (Tr.aJl hok);obtain⟨c1,c2,c3,c4,c5⟩:=(aB x).1 (Tr.ok_mid hok);have HD:Hid ((Tr.node l x r).deep=1+max l.deep r.deep):=hD rfl;have HSZ:=hD (Tr.aJg l r x);have HBL:=hD (Tr.blocks_node l r x);obtain⟨d1,e1⟩:∃d,l.deep=d:=⟨_,rfl⟩;obtain⟨d2,e2⟩:∃d,r.deep=d:=⟨_,rfl⟩;obtain⟨n1,e3⟩:∃d,l.size=d:=⟨_,rfl⟩;obtain⟨n2,e4⟩:∃d,r.size=d:=⟨_,rfl⟩;obtain⟨m1,e5⟩:∃d,l.blocks=d:=⟨_,rfl⟩;obtain⟨m2,e6⟩:∃d,r.blocks=d:=⟨_,rfl⟩;rw[e1,e3]at hd1;rw[e2,e4]at hd2;rw[e3,e4]at hs;rw[e5]at b1 b2;rw[e6]at b3 b4;have E1:=hD e1;have E2:=hD e2;have E3:=hD e3;have E4:=hD e4;have E5:=hD e5;have E6:=hD e6;have HK:=hD hk;clear hl hr hk hok e1 e2 e3 e4 e5 e6;go_enter func278,ntmps278;go_wp2_with fail;refine aAe 23 ?_;simp only[List.take_succ_cons,List.take_zero,List.drop_succ_cons,List.drop_zero]
 repeat(go_big_quiet_step (first|(go_at_call_of 276 (Value.pointer al);exact Calls.aJb (jL l d1 _ _ E1.o (aD.keep (World.aIy _ _) l HL.o)))|(go_at_call_of 276 (Value.pointer ar);exact Calls.aJb (jL r d2 _ _ E2.o (aD.keep (World.aIy _ _) r HR.o)))|(go_at_call_of 295 (Value.pointer al);exact Calls.aJb (Kk l n1 _ _ E3.o (aD.keep (World.aIy _ _) l HL.o)))|(go_at_call_of 295 (Value.pointer ar);exact Calls.aJb (Kk r n2 _ _ E4.o (aD.keep (World.aIy _ _) r HR.o)))|(go_at_call_of 130 (Value.pointer al);exact Calls.aJb (BL l m1 _ _ E5.o (aD.keep (World.aIy _ _) l HL.o)))|(go_at_call_of 130 (Value.pointer ar);exact Calls.aJb (BL r m2 _ _ E6.o (aD.keep (World.aIy _ _) r HR.o)))))
 refine wqn λnq=> ?_;go_wp2
 all_goals go_ret
 all_goals (
  have hb:=HK.o.aJd nq;have hd:=HD.o;have hz:=HSZ.o;have hm:=HBL.o;rw[E1.o,E2.o]at hd;rw[E3.o,E4.o]at hz;rw[E5.o,E6.o]at hm;generalize ((w.alloc _).next nq)=W at *;refine⟨_,rfl,⟨_,_,_,rfl,⟨sM,sM,sM,sM,sM,?_,?_,?_⟩,aD.keep (hb.aIw _) l HL0.o,aD.keep (hb.aIw _) r HR0.o⟩,hb.aIw _⟩
  ·rw[hd,World.cell?_alloc_new];simp;omega
  ·rw[hz,World.cell?_alloc_new];simp;omega
  ·rw[hm,World.cell?_alloc_new];simp
   omega)
theorem Tr.ok_sub{t u:Tr}(h:t.ok)(hs:u.toL.Sublist t.toL):u.ok:=⟨λx hx=>h.1 x (hs.subset hx),Nat.le_trans hs.length_le h.2⟩
theorem Tr.ok_same{t u:Tr}(h:t.ok)(hs:u.toL=t.toL):u.ok:=Tr.ok_sub h (by rw[hs];exact List.Sublist.refl _)
theorem Bh(l r:Tr)(x:E)(vl vr:Value)(w:Wd)(hl:aD w vl l)(hr:aD w vr r)(hok:(Tr.node l x r).ok):
  ep 277 #[vl,.agg #[x.a,x.n,x.s],vr] w (Grown w (l.toL++x::r.toL)):=by
 obtain⟨al,rfl⟩:=hl.form;obtain⟨ar,rfl⟩:=hr.form;have hk:=(bQ w).aIw (cq #[x.a,x.n,x.s] 128);have HL:=hD (aD.keep hk l hl);have HR:=hD (aD.keep hk r hr);have HL0:=hD hl;have HR0:=hD hr;have hd1:=l.deep_le;have hd2:=r.deep_le;have hs:=hok.2;rw[Tr.aJg]at hs;have HOK:=hD hok;obtain⟨d1,e1⟩:∃d,l.deep=d:=⟨_,rfl⟩;obtain⟨d2,e2⟩:∃d,r.deep=d:=⟨_,rfl⟩;rw[e1]at hd1;rw[e2]at hd2;have E1:=hD e1;have E2:=hD e2;have HK:=hD hk;clear hl hr hk hok e1 e2;go_enter func277,ntmps277;go_wp2_with fail;refine(jL l d1 _ _ E1.o HL.o).m ?_;rintro e w1 ⟨rfl,hb1⟩;go_wp2_with fail;refine(jL r d2 _ _ E2.o (aD.keep hb1 r HR.o)).m ?_;rintro e w2 ⟨rfl,hb2⟩;have hb3:=Below.trans hb1 (hb2.mono hb1.size);have y0:w2 (cw w 0)=x.a:=hb3.keep sM;have y1:w2 (cw w 1)=x.n:=hb3.keep sM;have y2:w2 (cw w 2)=x.s:=hb3.keep sM;have HB:=hD (HK.o.on hb3);clear hb1 hb2 hb3;go_wp2_with fail
 ·cases l with
  | nil=>
   have:=E1.o;simp[Tr.deep]at this;omega
  | node ll lx lr=>
   obtain⟨b,vll,vlr,hv,hn,hll,hlr⟩:=aD.keep HB.o (Tr.node ll lx lr) HL0.o;cases hv;obtain⟨all,rfl⟩:=hll.form;obtain⟨alr,rfl⟩:=hlr.form;have z0:=hn.a;have z1:=hn.n;have z2:=hn.s;have z3:=hn.l;have z4:=hn.r;have HLL:=hD hll;have HLR:=hD hlr;obtain⟨g1,e1⟩:∃d,ll.deep=d:=⟨_,rfl⟩;obtain⟨g2,e2⟩:∃d,lr.deep=d:=⟨_,rfl⟩;have G1:=hD e1;have G2:=hD e2;clear hn hll hlr e1 e2;refine wpr ?_
   repeat(go_big_quiet_step (first|(go_at_call_of 276 (Value.pointer all);exact Calls.aJb (jL ll g1 _ _ G1.o (aD.keep (World.aIy _ _) ll HLL.o)))|(go_at_call_of 276 (Value.pointer alr);exact Calls.aJb (jL lr g2 _ _ G2.o (aD.keep (World.aIy _ _) lr HLR.o)))))
   refine wqn λnq=> ?_;have hq:=World.aIy w2 nq;have HB3:=hD (HB.o.on hq);have HLL:=hD (aD.keep hq ll HLL.o);have HLR:=hD (aD.keep hq lr HLR.o);have z0:=hq.keep z0;have z1:=hq.keep z1;have z2:=hq.keep z2;have z3:=hq.keep z3;have z4:=hq.keep z4;have y0:=hq.keep y0;have y1:=hq.keep y1;have y2:=hq.keep y2;clear hq;generalize w2.next nq=w3 at *;go_wp2_with fail
   ·have hok1:(Tr.node ll lx (.node lr x r)).ok:=Tr.ok_same HOK.o (by simp[Tr.toL]);have hok2:(Tr.node lr x r).ok:=Tr.aJl hok1;have hT1:=aD.keep (bQ w3).drew ll HLL.o;have hT2:=aD.keep (bQ w3).drew lr HLR.o;have hT3:=aD.keep HB3.o.drew r HR0.o;have hB:=HB3.o.drew;have HI:=hD (dU lr r x (.pointer alr) (.pointer ar) w3.drew hT2 hT3 hok2);have HT1:=hD hT1;have HO1:=hD hok1;have HBd:=hD hB;clear hok1 hok2 hT1 hT2 hT3 hB
    go_region_held3 (λw'=>w' (cw b 0)=lx.a/\w' (cw b 1)=lx.n/\w' (cw b 2)=lx.s/\w' (cw b 3)=some (.pointer all)/\w' (cw b 4)=some (.pointer alr)/\w' (cw w 0)=x.a/\w' (cw w 1)=x.n/\w' (cw w 2)=x.s)
     (first|exact⟨z0,z1,z2,z3,z4,y0,y1,y2⟩|exact⟨hb4.keep z0,hb4.keep z1,hb4.keep z2,hb4.keep z3,hb4.keep z4,hb4.keep y0,hb4.keep y1,hb4.keep y2⟩|exact⟨hb5.keep (hb4.keep z0),hb5.keep (hb4.keep z1),hb5.keep (hb4.keep z2),hb5.keep (hb4.keep z3),hb5.keep (hb4.keep z4),hb5.keep (hb4.keep y0),hb5.keep (hb4.keep y1),hb5.keep (hb4.keep y2)⟩)
     (first
      |(go_at_call_of 278 (Value.pointer alr);refine HI.o.m ?_;rintro e w4 ⟨v4,rfl,ht4,hb4⟩)
      |(go_at_call_of 278 (Value.pointer all);refine(dU ll (.node lr x r) lx (.pointer all) v4 w4 (aD.keep hb4 ll HT1.o) ht4 HO1.o).m ?_;rintro e w5 ⟨v5,rfl,ht5,hb5⟩))
    exact sh8
   ·cases lr with
    | nil=>
     have:=G2.o;simp[Tr.deep]at this;omega
    | node c y d=>
     obtain⟨b2,vc,vd,hv2,hn2,hc,hd⟩:=HLR.o;cases hv2;obtain⟨ac,rfl⟩:=hc.form;obtain⟨ad,rfl⟩:=hd.form;have x0:=hn2.a;have x1:=hn2.n;have x2:=hn2.s;have x3:=hn2.l;have x4:=hn2.r;have hok0:(Tr.node (.node ll lx c) y (.node d x r)).ok:=Tr.ok_same HOK.o (by simp[Tr.toL]);have hok1:(Tr.node ll lx c).ok:=Tr.ok_left hok0;have hok2:(Tr.node d x r).ok:=Tr.aJl hok0;have HT1:=hD (aD.keep (bQ w3).drew ll HLL.o);have HT2:=hD (aD.keep (bQ w3).drew c hc);have HT3:=hD (aD.keep (bQ w3).drew d hd);have HT4:=hD (aD.keep HB3.o.drew r HR0.o);have HBd:=hD HB3.o.drew;have HO0:=hD hok0;have HO1:=hD hok1;have HO2:=hD hok2;clear hok0 hok1 hok2 hn2 hc hd
     go_region_held3 (λw'=>w' (cw b 0)=lx.a/\w' (cw b 1)=lx.n/\w' (cw b 2)=lx.s/\w' (cw b 3)=some (.pointer all)/\w' (cw b2 0)=y.a/\w' (cw b2 1)=y.n/\w' (cw b2 2)=y.s/\w' (cw b2 3)=some (.pointer ac)/\w' (cw b2 4)=some (.pointer ad)/\w' (cw w 0)=x.a/\w' (cw w 1)=x.n/\w' (cw w 2)=x.s)
      (first
       |exact⟨z0,z1,z2,z3,x0,x1,x2,x3,x4,y0,y1,y2⟩
       |exact⟨(hb4.keep z0),(hb4.keep z1),(hb4.keep z2),(hb4.keep z3),(hb4.keep x0),(hb4.keep x1),(hb4.keep x2),(hb4.keep x3),(hb4.keep x4),(hb4.keep y0),(hb4.keep y1),(hb4.keep y2)⟩
       |exact⟨(hb5.keep (hb4.keep z0)),(hb5.keep (hb4.keep z1)),(hb5.keep (hb4.keep z2)),(hb5.keep (hb4.keep z3)),(hb5.keep (hb4.keep x0)),(hb5.keep (hb4.keep x1)),(hb5.keep (hb4.keep x2)),(hb5.keep (hb4.keep x3)),(hb5.keep (hb4.keep x4)),(hb5.keep (hb4.keep y0)),(hb5.keep (hb4.keep y1)),(hb5.keep (hb4.keep y2))⟩
       |exact⟨(hb6.keep (hb5.keep (hb4.keep z0))),(hb6.keep (hb5.keep (hb4.keep z1))),(hb6.keep (hb5.keep (hb4.keep z2))),(hb6.keep (hb5.keep (hb4.keep z3))),(hb6.keep (hb5.keep (hb4.keep x0))),(hb6.keep (hb5.keep (hb4.keep x1))),(hb6.keep (hb5.keep (hb4.keep x2))),(hb6.keep (hb5.keep (hb4.keep x3))),(hb6.keep (hb5.keep (hb4.keep x4))),(hb6.keep (hb5.keep (hb4.keep y0))),(hb6.keep (hb5.keep (hb4.keep y1))),(hb6.keep (hb5.keep (hb4.keep y2)))⟩)
      (first
       |(go_at_call_of 278 (Value.pointer all);first|(refine(dU ll c lx (.pointer all) (.pointer ac) w3.drew HT1.o HT2.o HO1.o).m ?_;rintro e w4 ⟨v4,rfl,ht4,hb4⟩)|(refine(dU ll c lx (.pointer all) (.pointer ac) w4 (aD.keep hb4 ll HT1.o) (aD.keep hb4 c HT2.o) HO1.o).m ?_;rintro e w5 ⟨v5,rfl,ht5,hb5⟩))
       |(go_at_call_of 278 (Value.pointer ad);first|(refine(dU d r x (.pointer ad) (.pointer ar) w3.drew HT3.o HT4.o HO2.o).m ?_;rintro e w4 ⟨v4,rfl,ht4,hb4⟩)|(refine(dU d r x (.pointer ad) (.pointer ar) w4 (aD.keep hb4 d HT3.o) (aD.keep hb4 r HT4.o) HO2.o).m ?_;rintro e w5 ⟨v5,rfl,ht5,hb5⟩))
       |(go_at_call_of 278 v4;refine(dU (.node ll lx c) (.node d x r) y v4 v5 w5 (aD.keep hb5 _ ht4) ht5 HO0.o).m ?_;rintro e w6 ⟨v6,rfl,ht6,hb6⟩)
       |(go_at_call_of 278 v5;refine(dU (.node ll lx c) (.node d x r) y v5 v4 w5 ht5 (aD.keep hb5 _ ht4) HO0.o).m ?_;rintro e w6 ⟨v6,rfl,ht6,hb6⟩))
     all_goals
      go_wp2_with fail;go_ret;exact⟨v6,_,rfl,ht6,by simp[Tr.toL],((HBd.o.on hb4).on hb5).on hb6⟩
 ·refine (jL r d2 _ _ E2.o (aD.keep HB.o r HR0.o)).m ?_;rintro e w1' ⟨rfl,hb1⟩;have HBa:=hD (HB.o.on hb1);have y0:=hb1.keep y0;have y1:=hb1.keep y1;have y2:=hb1.keep y2;clear hb1;go_wp2_with fail;refine(jL l d1 _ _ E1.o (aD.keep HBa.o l HL0.o)).m ?_;rintro e w2' ⟨rfl,hb1⟩;have HB:=hD (HBa.o.on hb1);have y0:=hb1.keep y0;have y1:=hb1.keep y1;have y2:=hb1.keep y2;clear hb1;go_wp2_with fail
  ·cases r with
   | nil=>
    have:=E2.o;simp[Tr.deep]at this;omega
   | node rl rx rr=>
    obtain⟨b,vrl,vrr,hv,hn,hrl,hrr⟩:=aD.keep HB.o (Tr.node rl rx rr) HR0.o;cases hv;obtain⟨arl,rfl⟩:=hrl.form;obtain⟨arr,rfl⟩:=hrr.form;have z0:=hn.a;have z1:=hn.n;have z2:=hn.s;have z3:=hn.l;have z4:=hn.r;have HLL:=hD hrl;have HLR:=hD hrr;obtain⟨g1,e1⟩:∃d,rl.deep=d:=⟨_,rfl⟩;obtain⟨g2,e2⟩:∃d,rr.deep=d:=⟨_,rfl⟩;have G1:=hD e1;have G2:=hD e2;clear hn hrl hrr e1 e2;refine wpr ?_
    repeat(go_big_quiet_step (first|(go_at_call_of 276 (Value.pointer arl);exact Calls.aJb (jL rl g1 _ _ G1.o (aD.keep (World.aIy _ _) rl HLL.o)))|(go_at_call_of 276 (Value.pointer arr);exact Calls.aJb (jL rr g2 _ _ G2.o (aD.keep (World.aIy _ _) rr HLR.o)))))
    refine wqn λnq=> ?_;have hq:=World.aIy w2' nq;have HB3:=hD (HB.o.on hq);have HLL:=hD (aD.keep hq rl HLL.o);have HLR:=hD (aD.keep hq rr HLR.o);have z0:=hq.keep z0;have z1:=hq.keep z1;have z2:=hq.keep z2;have z3:=hq.keep z3;have z4:=hq.keep z4;have y0:=hq.keep y0;have y1:=hq.keep y1;have y2:=hq.keep y2;clear hq;generalize w2'.next nq=w3 at *;go_wp2_with fail
    ·have hok1:(Tr.node (.node l x rl) rx rr).ok:=Tr.ok_same HOK.o (by simp[Tr.toL]);have hok2:(Tr.node l x rl).ok:=Tr.ok_left hok1;have hT1:=aD.keep (bQ w3).drew rl HLL.o;have hT2:=aD.keep (bQ w3).drew rr HLR.o;have hT3:=aD.keep HB3.o.drew l HL0.o;have hB:=HB3.o.drew;have HI:=hD (dU l rl x (.pointer al) (.pointer arl) w3.drew hT3 hT1 hok2);have HT2:=hD hT2;have HO1:=hD hok1;have HBd:=hD hB;clear hok1 hok2 hT1 hT2 hT3 hB
     go_region_held3 (λw'=>w' (cw b 0)=rx.a/\w' (cw b 1)=rx.n/\w' (cw b 2)=rx.s/\w' (cw b 3)=some (.pointer arl)/\w' (cw b 4)=some (.pointer arr)/\w' (cw w 0)=x.a/\w' (cw w 1)=x.n/\w' (cw w 2)=x.s)
      (first
       |exact⟨z0,z1,z2,z3,z4,y0,y1,y2⟩
       |exact⟨(hb4.keep z0),(hb4.keep z1),(hb4.keep z2),(hb4.keep z3),(hb4.keep z4),(hb4.keep y0),(hb4.keep y1),(hb4.keep y2)⟩
       |exact⟨(hb5.keep (hb4.keep z0)),(hb5.keep (hb4.keep z1)),(hb5.keep (hb4.keep z2)),(hb5.keep (hb4.keep z3)),(hb5.keep (hb4.keep z4)),(hb5.keep (hb4.keep y0)),(hb5.keep (hb4.keep y1)),(hb5.keep (hb4.keep y2))⟩)
      (first
       |(go_at_call_of 278 (Value.pointer al);refine HI.o.m ?_;rintro e w4 ⟨v4,rfl,ht4,hb4⟩)
       |(go_at_call_of 278 v4;refine(dU (.node l x rl) rr rx v4 (.pointer arr) w4 ht4 (aD.keep hb4 rr HT2.o) HO1.o).m ?_;rintro e w5 ⟨v5,rfl,ht5,hb5⟩))
     exact sh8
    ·cases rl with
     | nil=>
      have:=G1.o;simp[Tr.deep]at this;omega
     | node c y d=>
      obtain⟨b2,vc,vd,hv2,hn2,hc,hd⟩:=HLL.o;cases hv2;obtain⟨ac,rfl⟩:=hc.form;obtain⟨ad,rfl⟩:=hd.form;have x0:=hn2.a;have x1:=hn2.n;have x2:=hn2.s;have x3:=hn2.l;have x4:=hn2.r;have hok0:(Tr.node (.node l x c) y (.node d rx rr)).ok:=Tr.ok_same HOK.o (by simp[Tr.toL]);have hok1:(Tr.node l x c).ok:=Tr.ok_left hok0;have hok2:(Tr.node d rx rr).ok:=Tr.aJl hok0;have HT1:=hD (aD.keep HB3.o.drew l HL0.o);have HT2:=hD (aD.keep (bQ w3).drew c hc);have HT3:=hD (aD.keep (bQ w3).drew d hd);have HT4:=hD (aD.keep (bQ w3).drew rr HLR.o);have HBd:=hD HB3.o.drew;have HO0:=hD hok0;have HO1:=hD hok1;have HO2:=hD hok2;clear hok0 hok1 hok2 hn2 hc hd
      go_region_held3 (λw'=>w' (cw b 0)=rx.a/\w' (cw b 1)=rx.n/\w' (cw b 2)=rx.s/\w' (cw b 4)=some (.pointer arr)/\w' (cw b2 0)=y.a/\w' (cw b2 1)=y.n/\w' (cw b2 2)=y.s/\w' (cw b2 3)=some (.pointer ac)/\w' (cw b2 4)=some (.pointer ad)/\w' (cw w 0)=x.a/\w' (cw w 1)=x.n/\w' (cw w 2)=x.s)
       (first
        |exact⟨z0,z1,z2,z4,x0,x1,x2,x3,x4,y0,y1,y2⟩
        |exact⟨(hb4.keep z0),(hb4.keep z1),(hb4.keep z2),(hb4.keep z4),(hb4.keep x0),(hb4.keep x1),(hb4.keep x2),(hb4.keep x3),(hb4.keep x4),(hb4.keep y0),(hb4.keep y1),(hb4.keep y2)⟩
        |exact⟨(hb5.keep (hb4.keep z0)),(hb5.keep (hb4.keep z1)),(hb5.keep (hb4.keep z2)),(hb5.keep (hb4.keep z4)),(hb5.keep (hb4.keep x0)),(hb5.keep (hb4.keep x1)),(hb5.keep (hb4.keep x2)),(hb5.keep (hb4.keep x3)),(hb5.keep (hb4.keep x4)),(hb5.keep (hb4.keep y0)),(hb5.keep (hb4.keep y1)),(hb5.keep (hb4.keep y2))⟩
        |exact⟨(hb6.keep (hb5.keep (hb4.keep z0))),(hb6.keep (hb5.keep (hb4.keep z1))),(hb6.keep (hb5.keep (hb4.keep z2))),(hb6.keep (hb5.keep (hb4.keep z4))),(hb6.keep (hb5.keep (hb4.keep x0))),(hb6.keep (hb5.keep (hb4.keep x1))),(hb6.keep (hb5.keep (hb4.keep x2))),(hb6.keep (hb5.keep (hb4.keep x3))),(hb6.keep (hb5.keep (hb4.keep x4))),(hb6.keep (hb5.keep (hb4.keep y0))),(hb6.keep (hb5.keep (hb4.keep y1))),(hb6.keep (hb5.keep (hb4.keep y2)))⟩)
       (first
        |(go_at_call_of 278 (Value.pointer al);first|(refine(dU l c x (.pointer al) (.pointer ac) w3.drew HT1.o HT2.o HO1.o).m ?_;rintro e w4 ⟨v4,rfl,ht4,hb4⟩)|(refine(dU l c x (.pointer al) (.pointer ac) w4 (aD.keep hb4 l HT1.o) (aD.keep hb4 c HT2.o) HO1.o).m ?_;rintro e w5 ⟨v5,rfl,ht5,hb5⟩))
        |(go_at_call_of 278 (Value.pointer ad);first|(refine(dU d rr rx (.pointer ad) (.pointer arr) w3.drew HT3.o HT4.o HO2.o).m ?_;rintro e w4 ⟨v4,rfl,ht4,hb4⟩)|(refine(dU d rr rx (.pointer ad) (.pointer arr) w4 (aD.keep hb4 d HT3.o) (aD.keep hb4 rr HT4.o) HO2.o).m ?_;rintro e w5 ⟨v5,rfl,ht5,hb5⟩))
        |(go_at_call_of 278 v4;refine(dU (.node l x c) (.node d rx rr) y v4 v5 w5 (aD.keep hb5 _ ht4) ht5 HO0.o).m ?_;rintro e w6 ⟨v6,rfl,ht6,hb6⟩)
        |(go_at_call_of 278 v5;refine(dU (.node l x c) (.node d rx rr) y v5 v4 w5 ht5 (aD.keep hb5 _ ht4) HO0.o).m ?_;rintro e w6 ⟨v6,rfl,ht6,hb6⟩))
      all_goals
       go_wp2_with fail;go_ret;exact⟨v6,_,rfl,ht6,by simp[Tr.toL],((HBd.o.on hb4).on hb5).on hb6⟩
  ·exact sh4
def Joins(l r:Tr)(x:E):Prop:= ∀(vl vr:Value) (w:Wd),aD w vl l->aD w vr r->(Tr.node l x r).ok->
  ep 245 #[vl,.agg #[x.a,x.n,x.s],vr] w (Grown w (l.toL++x::r.toL))
theorem join_step(l r:Tr)(x:E)(ih:∀l' r' x',l'.size+r'.size<l.size+r.size->Joins l' r' x'):Joins l r x:=by
 intro vl vr w hl hr hok;obtain⟨al,rfl⟩:=hl.form;obtain⟨ar,rfl⟩:=hr.form;have hk:=(bQ w).aIw (cq #[x.a,x.n,x.s] 128);have HL:=hD (aD.keep hk l hl);have HR:=hD (aD.keep hk r hr);have HL0:=hD hl;have HR0:=hD hr;have hd1:=l.deep_le;have hd2:=r.deep_le;have hs:=hok.2;rw[Tr.aJg]at hs;have HOK:=hD hok;have IH:=hD ih;obtain⟨d1,e1⟩:∃d,l.deep=d:=⟨_,rfl⟩;obtain⟨d2,e2⟩:∃d,r.deep=d:=⟨_,rfl⟩;rw[e1]at hd1;rw[e2]at hd2;have E1:=hD e1;have E2:=hD e2;have HK:=hD hk;clear hl hr hk hok e1 e2 ih;go_enter func245,ntmps245;go_wp2_with fail;refine(jL l d1 _ _ E1.o HL.o).m ?_;rintro e w1 ⟨rfl,hb1⟩;go_wp2_with fail;refine(jL r d2 _ _ E2.o (aD.keep hb1 r HR.o)).m ?_;rintro e w2 ⟨rfl,hb2⟩;have hb3:=Below.trans hb1 (hb2.mono hb1.size);have y0:w2 (cw w 0)=x.a:=hb3.keep sM;have y1:w2 (cw w 1)=x.n:=hb3.keep sM;have y2:w2 (cw w 2)=x.s:=hb3.keep sM;have HB:=hD (HK.o.on hb3);clear hb1 hb2 hb3;go_wp2_with fail
 ·cases l with
  | nil=>
   have:=E1.o;simp[Tr.deep]at this;omega
  | node ll lx lr=>
   obtain⟨b,vll,vlr,hv,hn,hll,hlr⟩:=aD.keep HB.o (Tr.node ll lx lr) HL0.o;cases hv;obtain⟨all,rfl⟩:=hll.form;obtain⟨alr,rfl⟩:=hlr.form;have z0:=hn.a;have z1:=hn.n;have z2:=hn.s;have z3:=hn.l;have z4:=hn.r;have hz:=Tr.aJg ll lr lx;have hok1:(Tr.node lr x r).ok:=Tr.aJl (l:=ll) (x:=lx) (Tr.ok_same HOK.o (by simp[Tr.toL]));have HI:=hD (IH.o lr r x oM (.pointer alr) (.pointer ar) w2.drew (aD.keep (bQ w2).drew lr hlr) (aD.keep HB.o.drew r HR0.o) hok1);have HT1:=hD (aD.keep (bQ w2).drew ll hll);have HBd:=hD HB.o.drew;clear hz hok1 hn hll hlr
   go_region_held3 (λw'=>w' (cw b 0)=lx.a/\w' (cw b 1)=lx.n/\w' (cw b 2)=lx.s/\w' (cw b 3)=some (.pointer all)/\w' (cw b 4)=some (.pointer alr)/\w' (cw w 0)=x.a/\w' (cw w 1)=x.n/\w' (cw w 2)=x.s)
    (first
     |exact⟨z0,z1,z2,z3,z4,y0,y1,y2⟩
     |exact⟨(hb4.keep z0),(hb4.keep z1),(hb4.keep z2),(hb4.keep z3),(hb4.keep z4),(hb4.keep y0),(hb4.keep y1),(hb4.keep y2)⟩
     |exact⟨(hb5.keep (hb4.keep z0)),(hb5.keep (hb4.keep z1)),(hb5.keep (hb4.keep z2)),(hb5.keep (hb4.keep z3)),(hb5.keep (hb4.keep z4)),(hb5.keep (hb4.keep y0)),(hb5.keep (hb4.keep y1)),(hb5.keep (hb4.keep y2))⟩)
    (first
     |(go_at_call_of 245 (Value.pointer alr);refine HI.o.m ?_;rintro e w4 ⟨v4,t4,rfl,ht4,hl4,hb4⟩)
     |(go_at_call_of 277 (Value.pointer all);refine(Bh ll t4 lx (.pointer all) v4 w4 (aD.keep hb4 ll HT1.o) ht4 (Tr.ok_same HOK.o (by simp[Tr.toL,hl4]))).m ?_;rintro e w5 ⟨v5,t5,rfl,ht5,hl5,hb5⟩))
   exact sh7
 ·refine (jL r d2 _ _ E2.o (aD.keep HB.o r HR0.o)).m ?_;rintro e w1' ⟨rfl,hb1⟩;have HBa:=hD (HB.o.on hb1);have y0:=hb1.keep y0;have y1:=hb1.keep y1;have y2:=hb1.keep y2;clear hb1;go_wp2_with fail;refine(jL l d1 _ _ E1.o (aD.keep HBa.o l HL0.o)).m ?_;rintro e w2' ⟨rfl,hb1⟩;have HB:=hD (HBa.o.on hb1);have y0:=hb1.keep y0;have y1:=hb1.keep y1;have y2:=hb1.keep y2;clear hb1;go_wp2_with fail
  ·cases r with
   | nil=>
    have:=E2.o;simp[Tr.deep]at this;omega
   | node rl rx rr=>
    obtain⟨b,vrl,vrr,hv,hn,hrl,hrr⟩:=aD.keep HB.o (Tr.node rl rx rr) HR0.o;cases hv;obtain⟨arl,rfl⟩:=hrl.form;obtain⟨arr,rfl⟩:=hrr.form;have z0:=hn.a;have z1:=hn.n;have z2:=hn.s;have z3:=hn.l;have z4:=hn.r;have hz:=Tr.aJg rl rr rx;have hok1:(Tr.node l x rl).ok:=Tr.ok_left (r:=rr) (x:=rx) (Tr.ok_same HOK.o (by simp[Tr.toL]));have HI:=hD (IH.o l rl x oM (.pointer al) (.pointer arl) w2'.drew (aD.keep HB.o.drew l HL0.o) (aD.keep (Below.refl w2' w2').drew rl hrl) hok1);have HT1:=hD (aD.keep (Below.refl w2' w2').drew rr hrr);have HBd:=hD HB.o.drew;clear hz hok1 hn hrl hrr
    go_region_held3 (λw'=>w' (cw b 0)=rx.a/\w' (cw b 1)=rx.n/\w' (cw b 2)=rx.s/\w' (cw b 3)=some (.pointer arl)/\w' (cw b 4)=some (.pointer arr)/\w' (cw w 0)=x.a/\w' (cw w 1)=x.n/\w' (cw w 2)=x.s)
     (first
      |exact⟨z0,z1,z2,z3,z4,y0,y1,y2⟩
      |exact⟨(hb4.keep z0),(hb4.keep z1),(hb4.keep z2),(hb4.keep z3),(hb4.keep z4),(hb4.keep y0),(hb4.keep y1),(hb4.keep y2)⟩
      |exact⟨(hb5.keep (hb4.keep z0)),(hb5.keep (hb4.keep z1)),(hb5.keep (hb4.keep z2)),(hb5.keep (hb4.keep z3)),(hb5.keep (hb4.keep z4)),(hb5.keep (hb4.keep y0)),(hb5.keep (hb4.keep y1)),(hb5.keep (hb4.keep y2))⟩)
     (first
      |(go_at_call_of 245 (Value.pointer al);refine HI.o.m ?_;rintro e w4 ⟨v4,t4,rfl,ht4,hl4,hb4⟩)
      |(go_at_call_of 277 v4;refine(Bh t4 rr rx v4 (.pointer arr) w4 ht4 (aD.keep hb4 rr HT1.o) (Tr.ok_same HOK.o (by simp[Tr.toL,hl4]))).m ?_;rintro e w5 ⟨v5,t5,rfl,ht5,hl5,hb5⟩))
    exact sh7
  ·exact sh4
theorem fH(l r:Tr)(x:E):Joins l r x:=by
 have h:∀m l r x,l.size+r.size=m->Joins l r x:=by
  intro m
  induction m using Nat.strongRecOn with
  |_ m ih=>exactλl r x hm=>join_step l r x λl' r' x' hlt=>ih _ oM l' r' x' rfl
 exact h _ l r x rfl
theorem mP{fn:Func}{p:Tmp}{ty:TypeId}(h:fn.results= #[.cell p ty])(tmps:Array Value)(P:Program)(w:Wd):
  (results fn tmps).run P w=((asAddr (tmps.getD p undef)).run P w).andThen λa w₁=>(loadVar ty a).run P w₁:=by
 simp only[results,h];simp[Sem.run_bind,Result.andThen]
theorem Ag{fn:Func}{p u u':Tmp}{ty:TypeId}(h:fn.results= #[.cell p ty,.tmp u,.tmp u'])(tmps:Array Value)(P:Program)(w:Wd):
  (results fn tmps).run P w=
   ((asAddr (tmps.getD p undef)).run P w).andThen λa w₁=>((loadVar ty a).run P w₁).andThen λv w₂=> .ok (.tuple #[v,tmps.getD u undef,tmps.getD u' undef]) w₂:=by
 simp only[results,h];simp[Sem.run_bind,Result.andThen]
theorem br{P:Program}{fn:Func}{R:Ending->Wd->Prop}{e:Exit}{a:Act}{w:Wd}(v:Value)(hR:R (.returned v) w)(he:e= .ret:=by first|rfl|simp only[Exit.inBlock,Exit.then])
  (hr:(results fn a.tmps).run P w= .ok v w:=by first|(rw[results_cell_tmp rfl];go_simp;done)|(rw[Ag rfl];go_simp;done)|(rw[mP rfl];go_simp;done)) (hd:a.defers=[]:=by rfl):bodyPost P fn R e a w:=by
 subst he;exact Yg hr hd hR
theorem eX{w:Wd}{a p q r:Addr}{u v x:Value}(h1:a.block≠p.block)(h2:a.block≠q.block)(h3:a.block≠r.block):(((w.setCell p u).setCell q v).setCell r x).cell? a=w.cell? a:=by
 have k:∀(w:Wd) (p:Addr) (u:Value),a.block≠p.block->(w.setCell p u).cell? a=w.cell? a:=λw p u h=>by
  simp only[World.cell?];rw[RowKit.Below.heap_setCell _ _ _ _ h]
 rw[k _ _ _ h3,k _ _ _ h2,k _ _ _ h1]
theorem aD.set3{w:Wd}{B:Nat}{u0 u1 u2:Value}(h7:w (cw B 7)=none)(t:Tr):∀{v:Value},aD w v t->aD (((w.setCell (cw B 0) u0).setCell (cw B 1) u1).setCell (cw B 2) u2) v t:=by
 induction t with
 |nil=>exactλhv=>hv
 | node l x r ihl ihr=>
  rintro v ⟨b,vl,vr,hv,hn,hl,hr⟩;have hne:b≠B:=λe=>by
   subst e;have:=hn.m;rw[h7]at this;cases this
  have k:∀i,(((w.setCell (cw B 0) u0).setCell (cw B 1) u1).setCell (cw B 2) u2).cell? (cw b i)=w (cw b i):=λi=>eX hne hne hne;exact sh5
theorem Ao{w:Wd}{b:Nat}{u0 u1 u2 x0 x1 x2:Value}(h0:w (cw b 0)=some x0)(h1:w (cw b 1)=some x1)(h2:w (cw b 2)=some x2):
  (((w.setCell (cw b 0) u0).setCell (cw b 1) u1).setCell (cw b 2) u2).cell? (cw b 0)=some u0/\(((w.setCell (cw b 0) u0).setCell (cw b 1) u1).setCell (cw b 2) u2).cell? (cw b 1)=some u1/\
   (((w.setCell (cw b 0) u0).setCell (cw b 1) u1).setCell (cw b 2) u2).cell? (cw b 2)=some u2:=by
 have n01:((cw b 0):Addr)≠(cw b 1):=by simp
 have n02:((cw b 0):Addr)≠(cw b 2):=by simp
 have n12:((cw b 1):Addr)≠(cw b 2):=by simp
 refine⟨?_,?_,?_⟩
 ·rw[Qk _ _ _ _ n02.symm,Qk _ _ _ _ n01.symm,Qi _ _ _ h0]
 ·rw[Qk _ _ _ _ n12.symm,Qi (u:=x1)];rw[Qk _ _ _ _ n01,h1]
 ·rw[Qi (u:=x2)];rw[Qk _ _ _ _ n12,Qk _ _ _ _ n02,h2]
def SB(w:Wd)(x:E)(L:List E)(e:Ending)(w':Wd):Prop:=
 ∃v t,e= .returned (.tuple #[.agg #[x.a,x.n,x.s],v])/\aD w' v t/\t.toL=L/\Below w w w'
theorem uR(t:Tr):∀(v:Value) (w:Wd) (x:E) (L:List E),t.toL=x::L->aD w v t->t.ok->ep 246 #[v] w (SB w x L):=by
 induction t with
 |nil=>intro v w x L h;simp[Tr.toL]at h
 | node l y r ihl _=>
  intro v w x L hL ht hok;obtain⟨b,vl,vr,rfl,hn,hl,hr⟩:=ht;have hk:=(bQ w).aIw (cq #[oo,oo,oo] 128);obtain⟨ar,rfl⟩:=hr.form;have z0:=hn.a;have z1:=hn.n;have z2:=hn.s;have z3:=hn.l;have z4:=hn.r;have HOK:=hD hok;have HK:=hD hk
  cases l with
  | nil=>
   obtain rfl:vl= .pointer none:=hl;simp only[Tr.toL,List.nil_append,List.cons.injEq]at hL;obtain⟨rfl,rfl⟩:=hL;have HR:=hD hr;clear hn hr hok hk;go_enter func246,ntmps246;go_wp2_with fail
   go_region
   go_wp2_with fail;refine br (.tuple #[.agg #[y.a,y.n,y.s],.pointer ar]) ?_;have hB:Below w w ((w.alloc (cq #[y.a,y.n,y.s] 128)).drew):=bL
   exact⟨_,r,rfl,aD.keep hB r HR.o,rfl,hB⟩
  | node ll lx lr=>
   obtain ⟨al,rfl⟩:=hl.form;have hal:al≠none:=by
    obtain⟨b2,_,_,hal,_⟩:=hl;cases hal;simp
   obtain ⟨p,rfl⟩:∃p,al=some p:=by
    cases al with
    |none=>exact absurd rfl hal
    |some p=>exact⟨p,rfl⟩
   obtain ⟨x1,L1,hL1⟩:∃x1 L1,(Tr.node ll lx lr).toL=x1::L1:=by
    cases h:(Tr.node ll lx lr).toL with
    |nil=>simp[Tr.toL]at h
    |cons a b=>exact⟨a,b,rfl⟩
   have hL2:x1::(L1++y::r.toL)=x::L:=by
    rw[<-hL];show _=(Tr.node ll lx lr).toL++_;rw[hL1];rfl
   simp only[List.cons.injEq]at hL2;obtain⟨rfl,hL3⟩:=hL2;have HI:=hD (ihl (.pointer (some p)) (w.alloc (cq #[oo,oo,oo] 128)) x1 L1 hL1 (aD.keep hk _ hl) (Tr.ok_left hok));have HR:=hD (aD.keep hk r hr);have HLL:=hD hL3;have HI1:=hD hL1;have hn0:=hD hn;clear ihl hn hr hl hok hk hal hL hL3 hL1;go_enter func246,ntmps246;go_wp2_with fail;refine HI.o.m ?_;rintro e w1 ⟨v1,t1,rfl,ht1,hl1,hb1⟩;have hB1:=HK.o.on hb1;have c0:w1 (cw w 0)=oo:=hb1.keep sM;have c1:w1 (cw w 1)=oo:=hb1.keep sM;have c2:w1 (cw w 2)=oo:=hb1.keep sM;have f0:w1.frozen? (cw w 0)=false:=hb1.aJc (v:=oo) sM sM;have f1:w1.frozen? (cw w 1)=false:=hb1.aJc (v:=oo) sM sM;have f2:w1.frozen? (cw w 2)=false:=hb1.aJc (v:=oo) sM sM;have c7:w1 (cw w 7)=none:=by
    rw[hb1.cell sM];simp
   have z0:=hB1.keep z0;have z1:=hB1.keep z1;have z2:=hB1.keep z2;have z4:=hB1.keep z4;have hR1:=hD (aD.keep hb1 r HR.o);have hJ:=fH t1 r y v1 (.pointer ar) ((w1.alloc (cq #[.int .i64 x1.a,.int .i64 x1.n,.int .i64 x1.s] 128)).drew) (aD.keep bL t1 ht1) (aD.keep bL r hR1.o) (by
    refine Tr.ok_sub HOK.o ?_;have:=HI1.o;simp only[Tr.toL]at this ⊢;rw[hl1];refine List.Sublist.append (List.Sublist.trans (List.sublist_cons_self x1 L1) ?_) (List.Sublist.refl _);rw[this]
    exact List.Sublist.refl _)
   have hbn:b≠w.heap.size:=Nat.ne_of_lt (Qj w _ hn0.o.a);have hxn:w1.heap.size≠w.heap.size:=by
    have:=hb1.size;simp at this;omega
   have HBN:=hD hbn;have HXN:=hD hxn;have HJ:=hD hJ;have HB1:=hD hB1;have HT1:=hD ht1;have HL1:=hD hl1;clear hJ hb1 hB1 ht1 hl1 hbn hxn;go_wp2_with fail
   go_region_held3 (λw'=>w' (cw b 0)=y.a/\w' (cw b 1)=y.n/\w' (cw b 2)=y.s/\w' (cw b 4)=some (.pointer ar)/\w' (cw w1 0)=some (.int .i64 x1.a)/\w' (cw w1 1)=some (.int .i64 x1.n)/\w' (cw w1 2)=some (.int .i64 x1.s))
    (first
     |(simp[z0,z1,z2,z4];done)
     |exact⟨hb4.keep (by simp[z0]),hb4.keep (by simp[z1]),hb4.keep (by simp[z2]),hb4.keep (by simp[z4]),hb4.keep sM,hb4.keep sM,hb4.keep sM⟩
     |exact⟨(eX HBN.o HBN.o HBN.o).trans (hb4.keep (by simp[z0])),(eX HBN.o HBN.o HBN.o).trans (hb4.keep (by simp[z1])),(eX HBN.o HBN.o HBN.o).trans (hb4.keep (by simp[z2])),(eX HBN.o HBN.o HBN.o).trans (hb4.keep (by simp[z4])),(eX HXN.o HXN.o HXN.o).trans (hb4.keep sM),(eX HXN.o HXN.o HXN.o).trans (hb4.keep sM),(eX HXN.o HXN.o HXN.o).trans (hb4.keep sM)⟩)
    ((go_at_call 245;refine HJ.o.m ?_;rintro e w4 ⟨v4,t4,rfl,ht4,hl4,hb4⟩;have g0:w4 (cw w 0)=oo:=hb4.keep (by simp[c0]);have g1:w4 (cw w 1)=oo:=hb4.keep (by simp[c1]);have g2:w4 (cw w 2)=oo:=hb4.keep (by simp[c2]);have k0:w4.frozen? (cw w 0)=false:=hb4.aJc (v:=oo) (by simp[c0]) (by simp[c0,f0]);have k1:w4.frozen? (cw w 1)=false:=hb4.aJc (v:=oo) (by simp[c1]) (by simp[c1,f1]);have k2:w4.frozen? (cw w 2)=false:=hb4.aJc (v:=oo) (by simp[c2]) (by simp[c2,f2])))
   exact sh3
theorem Uv(t:Tr):∀(v:Value) (w:Wd) (x:E) (L:List E),t.toL=L++[x]->aD w v t->t.ok->ep 264 #[v] w (SB w x L):=by
 induction t with
 |nil=>intro v w x L h;simp[Tr.toL]at h
 | node l y r _ ihr=>
  intro v w x L hL ht hok;obtain⟨b,vl,vr,rfl,hn,hl,hr⟩:=ht;have hk:=(bQ w).aIw (cq #[oo,oo,oo] 128);obtain⟨al,rfl⟩:=hl.form;have z0:=hn.a;have z1:=hn.n;have z2:=hn.s;have z3:=hn.l;have z4:=hn.r;have HOK:=hD hok;have HK:=hD hk
  cases r with
  | nil=>
   obtain rfl:vr= .pointer none:=hr;obtain⟨rfl,hy⟩:=List.append_inj' (show l.toL++[y]=L++[x] from hL) rfl;simp only[List.cons.injEq,and_true]at hy;subst hy;have HR:=hD hl;clear hn hl hok hk;go_enter func264,ntmps264;go_wp2_with fail
   go_region
   go_wp2_with fail;refine br (.tuple #[.agg #[y.a,y.n,y.s],.pointer al]) ?_;have hB:Below w w ((w.alloc (cq #[y.a,y.n,y.s] 128)).drew):=bL
   exact⟨_,l,rfl,aD.keep hB l HR.o,rfl,hB⟩
  | node ll lx lr=>
   obtain ⟨ar,rfl⟩:=hr.form;have hal:ar≠none:=by
    obtain⟨b2,_,_,hal,_⟩:=hr;cases hal;simp
   obtain ⟨p,rfl⟩:∃p,ar=some p:=by
    cases ar with
    |none=>exact absurd rfl hal
    |some p=>exact⟨p,rfl⟩
   obtain ⟨L1,x1,hL1⟩:=fB (Tr.node ll lx lr).toL (by simp[Tr.toL]);obtain⟨hL3,hx⟩:=List.append_inj' (show(l.toL++y::L1)++[x1]=L++[x] by rw[<-hL];show _=l.toL++y::(Tr.node ll lx lr).toL;rw[hL1];simp) rfl;simp only[List.cons.injEq,and_true]at hx;subst hx;have HI:=hD (ihr (.pointer (some p)) (w.alloc (cq #[oo,oo,oo] 128)) x1 L1 hL1 (aD.keep hk _ hr) (Tr.aJl hok));have HR:=hD (aD.keep hk l hl);have HLL:=hD hL3;have HI1:=hD hL1;have hn0:=hD hn;clear ihr hn hr hl hok hk hal hL hL3 hL1;go_enter func264,ntmps264;go_wp2_with fail;refine HI.o.m ?_;rintro e w1 ⟨v1,t1,rfl,ht1,hl1,hb1⟩;have hB1:=HK.o.on hb1;have c0:w1 (cw w 0)=oo:=hb1.keep sM;have c1:w1 (cw w 1)=oo:=hb1.keep sM;have c2:w1 (cw w 2)=oo:=hb1.keep sM;have f0:w1.frozen? (cw w 0)=false:=hb1.aJc (v:=oo) sM sM;have f1:w1.frozen? (cw w 1)=false:=hb1.aJc (v:=oo) sM sM;have f2:w1.frozen? (cw w 2)=false:=hb1.aJc (v:=oo) sM sM;have c7:w1 (cw w 7)=none:=by
    rw[hb1.cell sM];simp
   have z0:=hB1.keep z0;have z1:=hB1.keep z1;have z2:=hB1.keep z2;have z3:=hB1.keep z3;have hR1:=hD (aD.keep hb1 l HR.o);have hJ:=fH l t1 y (.pointer al) v1 ((w1.alloc (cq #[x1.a,x1.n,x1.s] 128)).drew) (aD.keep bL l hR1.o) (aD.keep bL t1 ht1) (by
    refine Tr.ok_sub HOK.o ?_;have:=HI1.o;simp only[Tr.toL]at this ⊢;rw[hl1,this]
    exact List.Sublist.append (List.Sublist.refl _) (List.Sublist.cons_cons _ (List.sublist_append_left _ _)))
   have hbn:b≠w.heap.size:=Nat.ne_of_lt (Qj w _ hn0.o.a);have hxn:w1.heap.size≠w.heap.size:=by
    have:=hb1.size;simp at this;omega
   have HBN:=hD hbn;have HXN:=hD hxn;have HJ:=hD hJ;have HB1:=hD hB1;have HT1:=hD ht1;have HL1:=hD hl1;clear hJ hb1 hB1 ht1 hl1 hbn hxn;go_wp2_with fail
   go_region_held3 (λw'=>w' (cw b 0)=y.a/\w' (cw b 1)=y.n/\w' (cw b 2)=y.s/\w' (cw b 3)=some (.pointer al)/\w' (cw w1 0)=x1.a/\w' (cw w1 1)=x1.n/\w' (cw w1 2)=x1.s)
    (first
     |(simp[z0,z1,z2,z3];done)
     |exact⟨hb4.keep (by simp[z0]),hb4.keep (by simp[z1]),hb4.keep (by simp[z2]),hb4.keep (by simp[z3]),hb4.keep sM,hb4.keep sM,hb4.keep sM⟩
     |exact⟨(eX HBN.o HBN.o HBN.o).trans (hb4.keep (by simp[z0])),(eX HBN.o HBN.o HBN.o).trans (hb4.keep (by simp[z1])),(eX HBN.o HBN.o HBN.o).trans (hb4.keep (by simp[z2])),(eX HBN.o HBN.o HBN.o).trans (hb4.keep (by simp[z3])),(eX HXN.o HXN.o HXN.o).trans (hb4.keep sM),(eX HXN.o HXN.o HXN.o).trans (hb4.keep sM),(eX HXN.o HXN.o HXN.o).trans (hb4.keep sM)⟩)
    ((go_at_call 245;refine HJ.o.m ?_;rintro e w4 ⟨v4,t4,rfl,ht4,hl4,hb4⟩;have g0:w4 (cw w 0)=oo:=hb4.keep (by simp[c0]);have g1:w4 (cw w 1)=oo:=hb4.keep (by simp[c1]);have g2:w4 (cw w 2)=oo:=hb4.keep (by simp[c2]);have k0:w4.frozen? (cw w 0)=false:=hb4.aJc (v:=oo) (by simp[c0]) (by simp[c0,f0]);have k1:w4.frozen? (cw w 1)=false:=hb4.aJc (v:=oo) (by simp[c1]) (by simp[c1,f1]);have k2:w4.frozen? (cw w 2)=false:=hb4.aJc (v:=oo) (by simp[c2]) (by simp[c2,f2])))
   exact sh3
theorem MO(l r:Tr)(vl vr:Value)(w:Wd)(hl:aD w vl l)(hr:aD w vr r)(h1:∀x∈l.toL++r.toL,okB x=true)(h2:(l.toL++r.toL).length<=1000000):
  ep 202 #[vl,vr] w (Grown w (l.toL++r.toL)):=by
 obtain⟨al,rfl⟩:=hl.form
 cases r with
 | nil=>
  obtain rfl:vr= .pointer none:=hr;go_enter func202,ntmps202;go_wp2_with fail;go_ret;exact⟨_,l,rfl,hl,by simp[Tr.toL],bR⟩
 | node rl ry rr=>
  obtain ⟨ar,rfl⟩:=hr.form;have har:ar≠none:=by
   obtain⟨b2,_,_,hal,_⟩:=hr;cases hal;simp
  obtain ⟨p,rfl⟩:∃p,ar=some p:=by
   cases ar with
   |none=>exact absurd rfl har
   |some p=>exact⟨p,rfl⟩
  obtain ⟨x1,L1,hL1⟩:∃x1 L1,(Tr.node rl ry rr).toL=x1::L1:=by
   cases h:(Tr.node rl ry rr).toL with
   |nil=>simp[Tr.toL]at h
   |cons a b=>exact⟨a,b,rfl⟩
  have HF:=hD (uR (.node rl ry rr) (.pointer (some p)) w x1 L1 hL1 hr ⟨λx hx=>h1 x (by simp[hx]),by rw[Qg]at h2;show(Tr.node rl ry rr).toL.length<=_;omega⟩);have HL:=hD hl;have HL1:=hD hL1;have H1:=hD h1;have H2:=hD h2;clear hl hr hL1 h1 h2 har;go_enter func202,ntmps202;go_wp2_with fail;refine HF.o.m ?_;rintro e w1 ⟨v1,t1,rfl,ht1,hl1,hb1⟩;have HB1:=hD hb1;have HT1:=hD ht1;have HM1:=hD hl1;clear hb1 ht1 hl1;go_wp2_with fail;have hb2:Below w w (w1.alloc (cq #[.int .i64 x1.a,.int .i64 x1.n,.int .i64 x1.s] 128)):=HB1.o.aIw _;refine(fH l t1 x1 (.pointer al) v1 _ (aD.keep hb2 l HL.o) (aD.keep bL t1 HT1.o) ⟨λx hx=>H1.o x (by rw[HL1.o];simp only[Tr.toL,HM1.o]at hx;exact hx),by have:=H2.o;rw[HL1.o]at this;show(l.toL++x1::t1.toL).length<=_;rw[HM1.o];exact this⟩).m ?_;rintro e w2 ⟨v2,t2,rfl,ht2,hl2,hb3⟩;have hb4:=hb2.on hb3;clear hb3 hb2;go_wp2_with fail;go_ret;exact⟨v2,t2,rfl,ht2,by rw[hl2,HM1.o,HL1.o],hb4⟩
theorem jZ{l r:Tr}{x:E}{A B:List E}(hA:l.toL=A)(hB:r.toL=B)(h:∀y∈A,okB y=true)(hx:okB x=true)(h':∀y∈B,okB y=true)(hlen:A.length+1+B.length<=1000000):(Tr.node l x r).ok:=by
 subst hA;subst hB;refine⟨λy hy=> ?_,by rw[Tr.aJg];exact hlen⟩;simp only[Tr.toL,Qn,Yl]at hy;rcases hy with hy|rfl|hy
 ·exact h y hy
 ·exact hx
 ·exact h' y hy
def Vs(w:Wd)(A B:List E)(e:Ending)(w':Wd):Prop:=
 ∃va vb ta tb,e= .returned (.tuple #[va,vb])/\aD w' va ta/\aD w' vb tb/\ta.toL=A/\tb.toL=B/\Below w w w'
theorem tT(p:Int)(hp0:0<=p)(hp1:p<=131072)(t:Tr):∀(v:Value) (w:Wd),aD w v t->t.ok->aH t.toL=true->
  ep 201 #[v,p] w (Vs w (aI t.toL 0 p) (aI t.toL p 65536)):=by
 induction t with
 | nil=>
  intro v w ht _ _;obtain rfl:v= .pointer none:=ht;go_enter func201,ntmps201;go_wp2_with fail
  (try simp only[Exit.inBlock,Exit.then])
  refine Yg (results_tmp2 rfl _ _ _) rfl ?_;exact⟨_,_,.nil,.nil,rfl,rfl,rfl,rfl,rfl,bR⟩
 | node l x r ihl ihr=>
  intro v w ht hok hv;obtain⟨b,vl,vr,rfl,hn,hl,hr⟩:=ht;obtain⟨al,rfl⟩:=hl.form;obtain⟨ar,rfl⟩:=hr.form;obtain⟨c1,c2,c3,c4,c5⟩:=(aB x).1 (Tr.ok_mid hok);have z0:=hn.a;have z1:=hn.n;have z2:=hn.s;have z3:=hn.l;have z4:=hn.r;have HOK:=hD hok;have HV:=hD (show aH (l.toL++x::r.toL)=true from hv);have hk:=(bQ w).aIw (cq #[x.a,x.n,x.s] 128);have HK:=hD hk;have HL:=hD hl;have HR:=hD hr;have HIL:=hD ihl;have HIR:=hD ihr;clear hn hl hr hok hv hk ihl ihr;by_cases h1:p<=x.a
  ·have HS:=hD (NP HV.o p h1);go_enter func201,ntmps201;go_wp2_with fail;refine(HIL.o (.pointer al) _ (aD.keep HK.o l HL.o) (Tr.ok_left HOK.o) (jV HV.o).1).m ?_;rintro e w1 ⟨va,vb,ta,tb,rfl,hta,htb,hA,hB,hb1⟩;have x0:w1 (cw w 0)=x.a:=hb1.keep sM;have x1:w1 (cw w 1)=x.n:=hb1.keep sM;have x2:w1 (cw w 2)=x.s:=hb1.keep sM;have hb2:=HK.o.on hb1;have z4:=hb2.keep z4;have hlen:=Tr.aJg l r x;have hok2:=HOK.o.2;have hpl:=bV l.toL p 65536;have hlsz:l.toL.length=l.size:=rfl;have HJ:=hD (fH tb r x vb (.pointer ar) w1.drew (aD.keep bR.drew tb htb) (aD.keep hb2.drew r HR.o) (jZ hB rfl (dO l.toL _ _ (Tr.ok_left HOK.o).1) (Tr.ok_mid HOK.o) (Tr.aJl HOK.o).1 (by show _+1+r.size<=_;omega)));have HA:=hD hA;have HTA:=hD (aD.keep bR.drew ta hta);have HB2:=hD hb2.drew;have HBB:=hD hB;clear hb1 hb2 hlen hok2 hpl hlsz hA hB hta htb;go_wp2_with fail
   go_region_held3 (λw'=>w' (cw b 4)=some (.pointer ar)/\w' (cw w 0)=x.a/\w' (cw w 1)=x.n/\w' (cw w 2)=x.s)
    (first
     |exact⟨z4,x0,x1,x2⟩
     |exact⟨hb4.keep z4,hb4.keep x0,hb4.keep x1,hb4.keep x2⟩)
    ((go_at_call 245;refine HJ.o.m ?_;rintro e w4 ⟨v4,t4,rfl,ht4,hl4,hb4⟩))
   go_wp2_with fail
   (try simp only[Exit.inBlock,Exit.then])
   refine Yg (results_tmp2 rfl _ _ _) rfl ?_;exact⟨_,_,ta,t4,rfl,aD.keep hb4 ta HTA.o,ht4,by rw[HA.o];exact HS.o.1.symm,by rw[hl4,HBB.o];exact HS.o.2.symm,HB2.o.on hb4⟩
  ·by_cases h2:x.a+x.n<=p
   ·have HS:=hD (Kr HV.o p h2);go_enter func201,ntmps201;go_wp2_with fail;refine(HIR.o (.pointer ar) _ (aD.keep HK.o r HR.o) (Tr.aJl HOK.o) (jV HV.o).2.2.1).m ?_;rintro e w1 ⟨va,vb,ta,tb,rfl,hta,htb,hA,hB,hb1⟩;have x0:w1 (cw w 0)=x.a:=hb1.keep sM;have x1:w1 (cw w 1)=x.n:=hb1.keep sM;have x2:w1 (cw w 2)=x.s:=hb1.keep sM;have hb2:=HK.o.on hb1;have z3:=hb2.keep z3;have hlen:=Tr.aJg l r x;have hok2:=HOK.o.2;have hpl:=bV r.toL 0 p;have hlsz:r.toL.length=r.size:=rfl;have HJ:=hD (fH l ta x (.pointer al) va w1.drew (aD.keep hb2.drew l HL.o) (aD.keep bR.drew ta hta) (jZ rfl hA (Tr.ok_left HOK.o).1 (Tr.ok_mid HOK.o) (dO r.toL _ _ (Tr.aJl HOK.o).1) (by show l.size+1+_<=_;omega)));have HA:=hD hA;have HTB:=hD (aD.keep bR.drew tb htb);have HB2:=hD hb2.drew;have HBB:=hD hB;clear hb1 hb2 hlen hok2 hpl hlsz hA hB hta htb;go_wp2_with fail
    go_region_held3 (λw'=>w' (cw b 3)=some (.pointer al)/\w' (cw w 0)=x.a/\w' (cw w 1)=x.n/\w' (cw w 2)=x.s)
     (first
      |exact⟨z3,x0,x1,x2⟩
      |exact⟨hb4.keep z3,hb4.keep x0,hb4.keep x1,hb4.keep x2⟩)
     ((go_at_call 245;refine HJ.o.m ?_;rintro e w4 ⟨v4,t4,rfl,ht4,hl4,hb4⟩))
    go_wp2_with fail
    (try simp only[Exit.inBlock,Exit.then])
    refine Yg (results_tmp2 rfl _ _ _) rfl ?_;exact⟨_,_,t4,tb,rfl,ht4,aD.keep hb4 tb HTB.o,by rw[hl4,HA.o];exact HS.o.1.symm,by rw[HBB.o];exact HS.o.2.symm,HB2.o.on hb4⟩
   ·have HS:=hD (Tc HV.o p oM oM);go_enter func201,ntmps201;go_wp2_with fail
    go_region
    have hb1:Below w w ((w.alloc (cq #[x.a,x.n,x.s] 128)).alloc (cq #[x.a,.int .i64 (p-x.a),x.s] 128)).drew:=bL
    have z0:=hb1.keep z0;have z1:=hb1.keep z1;have z2:=hb1.keep z2;have z3:=hb1.keep z3;have z4:=hb1.keep z4;have g0:(((w.alloc (cq #[x.a,x.n,x.s] 128)).alloc (cq #[x.a,.int .i64 (p-x.a),x.s] 128)).drew).cell? (cw (cf w) 0)=x.a:=by simp
    have g1:(((w.alloc (cq #[x.a,x.n,x.s] 128)).alloc (cq #[x.a,.int .i64 (p-x.a),x.s] 128)).drew).cell? (cw (cf w) 1)=some (.int .i64 (p-x.a)):=by simp
    have g2:(((w.alloc (cq #[x.a,x.n,x.s] 128)).alloc (cq #[x.a,.int .i64 (p-x.a),x.s] 128)).drew).cell? (cw (cf w) 2)=x.s:=by simp
    generalize ((w.alloc (cq #[x.a,x.n,x.s] 128)).alloc (cq #[x.a,.int .i64 (p-x.a),x.s] 128)).drew=w1 at *;go_wp2_with fail
    go_region
    have hb2:Below w1 w1 (w1.alloc (cq #[p,.int .i64 (x.n-(p-x.a)),.int .i64 (x.s+(p-x.a))] 128)).drew:=bL
    have z3:=hb2.keep z3;have z4:=hb2.keep z4;have g0:=hb2.keep g0;have g1:=hb2.keep g1;have g2:=hb2.keep g2;have j0:((w1.alloc (cq #[p,.int .i64 (x.n-(p-x.a)),.int .i64 (x.s+(p-x.a))] 128)).drew).cell? (cw w1 0)=p:=by simp
    have j1:((w1.alloc (cq #[p,.int .i64 (x.n-(p-x.a)),.int .i64 (x.s+(p-x.a))] 128)).drew).cell? (cw w1 1)=some (.int .i64 (x.n-(p-x.a))):=by simp
    have j2:((w1.alloc (cq #[p,.int .i64 (x.n-(p-x.a)),.int .i64 (x.s+(p-x.a))] 128)).drew).cell? (cw w1 2)=some (.int .i64 (x.s+(p-x.a))):=by simp
    have hb3:=hb1.on hb2;generalize (w1.alloc (cq #[p,.int .i64 (x.n-(p-x.a)),.int .i64 (x.s+(p-x.a))] 128)).drew=w2 at *;go_wp2_with fail;have hlen:=Tr.aJg l r x;have hok2:=HOK.o.2;have HJ1:=hD (λw' (hb:Below w2 w2 w')=>fH l .nil ⟨x.a,p-x.a,x.s⟩ (.pointer al) (.pointer none) w' (aD.keep (hb3.on hb) l HL.o) rfl (jZ rfl rfl (Tr.ok_left HOK.o).1 ((aB _).2 sO) (by simp[Tr.toL]) (by show l.size+1+0<=_;omega)));have HJ2:=hD (λw' (hb:Below w2 w2 w')=>fH .nil r ⟨p,x.n-(p-x.a),x.s+(p-x.a)⟩ (.pointer none) (.pointer ar) w' rfl (aD.keep (hb3.on hb) r HR.o) (jZ rfl rfl (by simp[Tr.toL]) ((aB _).2 sO) (Tr.aJl HOK.o).1 (by show 0+1+r.size<=_;omega)));have HB3:=hD hb3;clear hb1 hb2 hb3 hlen hok2 z0 z1 z2
    go_region_held3 (λw'=>w' (cw b 3)=some (.pointer al)/\w' (cw b 4)=some (.pointer ar)/\w' (cw (cf w) 0)=x.a/\w' (cw (cf w) 1)=some (.int .i64 (p-x.a))/\w' (cw (cf w) 2)=x.s/\w' (cw w1 0)=p/\w' (cw w1 1)=some (.int .i64 (x.n-(p-x.a)))/\w' (cw w1 2)=some (.int .i64 (x.s+(p-x.a))))
     (first
      |exact⟨z3,z4,g0,g1,g2,j0,j1,j2⟩
      |exact⟨hb4.keep z3,hb4.keep z4,hb4.keep g0,hb4.keep g1,hb4.keep g2,hb4.keep j0,hb4.keep j1,hb4.keep j2⟩
      |exact⟨hb5.keep (hb4.keep z3),hb5.keep (hb4.keep z4),hb5.keep (hb4.keep g0),hb5.keep (hb4.keep g1),hb5.keep (hb4.keep g2),hb5.keep (hb4.keep j0),hb5.keep (hb4.keep j1),hb5.keep (hb4.keep j2)⟩)
     (first
      |(go_at_call_of 245 (Value.pointer al);first|(refine(HJ1.o w2.drew bR.drew).m ?_;rintro e w4 ⟨v4,t4,rfl,ht4,hl4,hb4⟩)|(refine(HJ1.o w4 ((bQ w2).drew.on hb4)).m ?_;rintro e w5 ⟨v5,t5,rfl,ht5,hl5,hb5⟩))
      |(go_at_call_of 245 (Value.pointer none);first|(refine(HJ2.o w2.drew bR.drew).m ?_;rintro e w4 ⟨v4,t4,rfl,ht4,hl4,hb4⟩)|(refine(HJ2.o w4 ((bQ w2).drew.on hb4)).m ?_;rintro e w5 ⟨v5,t5,rfl,ht5,hl5,hb5⟩)))
    ·go_wp2_with fail
     (try simp only[Exit.inBlock,Exit.then])
     refine Yg (results_tmp2 rfl _ _ _) rfl ?_;exact⟨_,_,t4,t5,rfl,aD.keep hb5 t4 ht4,ht5,by rw[hl4];exact HS.o.1.symm,by rw[hl5];exact HS.o.2.symm,(HB3.o.drew.on hb4).on hb5⟩
theorem PI{w w':Wd}{row:Option Nat}(hg:w.grownBy w' row)(a:Addr)(hlt:a.block<w.heap.size)(hne:some a.block≠row):w'.cell? a=w.cell? a/\w'.frozen? a=w.frozen? a:=by
 have:=hg.block a.block hlt hne;simp only[World.cell?,World.frozen?,this,and_self]
theorem PH(w:Wd)(a:Addr)(u:Value):w.grownBy (w.setCell a u) (some a.block):=
 ⟨rfl,rfl,rfl,by simp[World.setCell],λk hk hne=>Below.heap_setCell _ _ _ _ (λe=>hne (by rw[e]))⟩
theorem aG.far{w:Wd}{B:Nat}{v:Value}{l:List E}(h:aG w B v l)(a:Addr)(u:Value)(hne:v.ownBlock≠some a.block):aG (w.setCell a u) B v l:=
 h.other (row:=some a.block) (PH w a u) (.inr hne)
def LS(w0:Wd)(B:Nat)(w:Wd)(L:List E):Prop:=
 w0.heap.size<=B/\B<w.heap.size/\Below w0 w0 w/\ ∃sv,w (cw B 0)=some sv/\w.frozen? (cw B 0)=false/\aG w (B+1) sv L
theorem Ur(w0:Wd)(B:Nat)(L:List E)(x:E)(w:Wd)(h:LS w0 B w L)(hl:L.length<=1000000000):
  ep 247 #[.agg #[x.a,x.n,x.s],.pointer (cw B 0)] w λe w'=>e= .returned (.bool true)/\LS w0 B w' (L++[x]):=by
 obtain⟨i0,hi,hz0,hz1,hz2⟩:=info_parts kK;obtain⟨hB0,hB1,hb,sv,hc,hf,ho⟩:=h;obtain⟨a0,c0,rfl,_⟩:=ho.rd oM;have hne:(Value.slice a0 L c0).ownBlock≠some B:=λh=>by have:=(ho.lt B h).1;omega
 have HNE:=hD hne;have HO:=hD (aG.keep ho ((bQ w).aIw (cq #[x.a,x.n,x.s] 128)));have HB:=hD hb;clear ho hb hne;go_enter func247,ntmps247
 go_wp2_with (at_builtin;go_loud (refine aO _ rfl _ _ 52 rfl (B+1) 128 i0 (.agg #[oo,oo,oo]) 3 24 underlying52 hi hz0 hz1 hz2 rfl dE _ _ _ rfl (Qu HO.o _) (cw (cf w) 0) 1 1 (E.cells x) rfl rfl (sI _ _ sM _ _) (dF _) oM (by simp only[maxLen];omega) (by simp only[World.size_alloc];omega) ?_;intro v1 w1 hown1 hgrow1 hwhere1;have ho1:=aG.snoc hown1 oM;obtain⟨a1,c1,rfl,hrd1⟩:=ho1.rd pO;have hq:=PI hgrow1 (cw B 0) (by simp only[World.size_alloc];omega) (λh=>HNE.o h.symm);have hc1:w1 (cw B 0)=some (.slice a0 L c0):=hq.1.trans (by simp[hc]);have hf1:w1.frozen? (cw B 0)=false:=hq.2.trans (by simp[hc,hf]);have HO1:=hD ho1;have HG:=hD hgrow1;clear hown1 hgrow1 hwhere1 ho1 hrd1 hq))
 go_ret;have hg:=HG.o;have h5:=aG.far HO1.o (cw B 0) (.slice a1 (L++[x]).length c1) λh=>by have:B+1<=B:=(HO1.o.lt B h).1;omega
 rw[show(L++[x]).length=L.length+1 by simp]at h5;refine⟨rfl,hB0,?_,?_,_,Qi _ _ _ hc1,by rw[Qb];exact hf1,h5⟩
 ·have:=hg.size;simp at this ⊢;omega
 ·refine Below.setCell ?_ hB0 _;exact(bL:Below w0 w0 ((w.alloc _).alloc _)).grown hg pO (λk hk=>by have:=(HO.o.lt k hk).1;omega)
theorem SF(w0:Wd)(B:Nat)(t:Tr):∀(v:Value) (L:List E) (w:Wd),aD w0 v t->LS w0 B w L->L.length+t.size<=1000000000->
  ep 191 #[v,.func (.func 247) #[] #[.pointer (cw B 0)]] w λe w'=>e= .returned (.bool true)/\LS w0 B w' (L++t.toL):=by
 induction t with
 | nil=>
  intro v L w ht hL _;obtain rfl:v= .pointer none:=ht;go_enter func191,ntmps191;go_wp2_with fail;go_ret;exact⟨rfl,by simpa [Tr.toL]using hL⟩
 | node l x r ihl ihr=>
  intro v L w ht hL hlen;obtain⟨b,vl,vr,rfl,hn,hl,hr⟩:=ht;obtain⟨al,rfl⟩:=hl.form;obtain⟨ar,rfl⟩:=hr.form;rw[Tr.aJg]at hlen;have hlsz:l.toL.length=l.size:=rfl;have hb0:=hL.2.2.1;have z0:=hb0.keep hn.a;have z1:=hb0.keep hn.n;have z2:=hb0.keep hn.s;have z3:=hb0.keep hn.l;have HN:=hD hn;have HL:=hD (ihl (.pointer al) L w hl hL oM);have HR:=hD (λL w hL hlen=>ihr (.pointer ar) L w hr hL hlen);clear hl hr ihl ihr hb0 hL hn;go_enter func191,ntmps191
  go_wp2_with (first
   |(go_at_call_of 191 (Value.pointer al);refine HL.o.m ?_;rintro e w1 ⟨rfl,h1⟩;have y0:=h1.2.2.1.keep HN.o.a;have y1:=h1.2.2.1.keep HN.o.n;have y2:=h1.2.2.1.keep HN.o.s;have H1:=hD h1;clear h1)
   |(go_at_call 247;refine(Ur w0 B (L++l.toL) x w1 H1.o (by rw[Qg];omega)).m ?_;rintro e w2 ⟨rfl,h2⟩;have u4:=h2.2.2.1.keep HN.o.r;have H2:=hD h2;clear h2)
   |(go_at_call_of 191 (Value.pointer ar);refine(HR.o (L++l.toL++[x]) w2 H2.o (by simp only[Qg,List.length_singleton];omega)).m ?_;rintro e w3 ⟨rfl,h3⟩))
  go_ret;exact⟨rfl,by simpa [Tr.toL,Yc]using h3⟩
theorem xG(t:Tr)(v:Value)(w:Wd)(ht:aD w v t)(hlen:t.size<=1000000000):
  ep 203 #[v] w λe w'=>∃sv,e= .returned sv/\aG w' w sv t.toL/\Below w w w':=by
 obtain⟨a,rfl⟩:=ht.form;have h0:LS w w (w.alloc (cq #[sn] 52)) []:=⟨Ye _,sM,bR.aIw _,_,sM,sM,aG.nil _ _⟩;have HW:=hD (SF w w t (.pointer a) [] _ ht h0 (by simpa using hlen));clear h0 ht;go_enter func203,ntmps203;go_wp2_with fail;refine HW.o.m ?_;rintro e w1 ⟨rfl,h1⟩;obtain⟨_,_,hb,sv,hc,hf,ho⟩:=h1;have HO:=hD ho;have HB:=hD hb;clear ho hb;go_wp2_with fail;go_ret;exact⟨sv,rfl,aG.mono HO.o oM,HB.o⟩
theorem Mm(x y:E)(w:Wd)(h0: -9223372036854775808<=x.a+x.n/\x.a+x.n<=9223372036854775807)(h1: -9223372036854775808<=x.s+x.n/\x.s+x.n<=9223372036854775807):
  ep 265 #[.agg #[x.a,x.n,x.s],.agg #[y.a,y.n,y.s]] w (RB w (.bool (meets x y))):=by
 go_enter func265,ntmps265;go_wp2
 all_goals
  go_ret;exact⟨by unfold meets;first|(simp[*];done)|(simp[*];rfl),bL⟩
theorem jR(x y:E)(r:Bool)(w:Wd)(hr:meets x y=r)(h0: -9223372036854775808<=x.a+x.n/\x.a+x.n<=9223372036854775807)(h1: -9223372036854775808<=x.s+x.n/\x.s+x.n<=9223372036854775807):
  ep 265 #[.agg #[x.a,x.n,x.s],.agg #[y.a,y.n,y.s]] w (RB w (.bool r)):=by
 subst hr;exact Mm x y w h0 h1
theorem aD.away{w:Wd}{B i:Nat}{u:Value}(h7:w (cw B 7)=none)(t:Tr):∀{v:Value},aD w v t->aD (w.setCell (cw B i) u) v t:=by
 induction t with
 |nil=>exactλhv=>hv
 | node l x r ihl ihr=>
  rintro v ⟨b,vl,vr,hv,hn,hl,hr⟩;have hne:b≠B:=λe=>by
   subst e;have:=hn.m;rw[h7]at this;cases this
  have k:∀j,(w.setCell (cw B i) u).cell? (cw b j)=w (cw b j):=λj=>by
   simp only[World.cell?];rw[RowKit.Below.heap_setCell _ _ _ _ hne]
  exact sh5
theorem cell_far{w:Wd}{a p:Addr}{u:Value}(h:a.block≠p.block):(w.setCell p u).cell? a=w.cell? a:=by
 simp only[World.cell?];rw[RowKit.Below.heap_setCell _ _ _ _ h]
theorem dL{w:Wd}{b i j:Nat}{u:Value}(hij:i≠j)(h:w (cw b j)=none):(w.setCell (cw b i) u).cell? (cw b j)=none:=by
 rw[Qk _ _ _ _ (by simp[hij]),h]
structure PSt(w W:Wd)(x:E):Prop where
 x0:W (cw (cf w) 0)=x.a
 x1:W (cw (cf w) 1)=x.n
 x2:W (cw (cf w) 2)=x.s
 f0:W.frozen? (cw (cf w) 0)=false
 f1:W.frozen? (cw (cf w) 1)=false
 f2:W.frozen? (cw (cf w) 2)=false
 h7:W (cw (cf w) 7)=none
 r0:W (cw (ch w) 0)=some (.pointer none)
 rf:W.frozen? (cw (ch w) 0)=false
 r7:W (cw (ch w) 7)=none
 bel:Below w w W
theorem PSt.init(w:Wd)(v:Value)(x:E)(t e:TypeId)(S:Obj):PSt w ((((w.alloc (cq #[v] t)).alloc (cq #[x.a,x.n,x.s] e)).alloc (cq #[.pointer none] t)).alloc S) x:=by
 have k1:∀i,((((w.alloc (cq #[v] t)).alloc (cq #[x.a,x.n,x.s] e)).alloc (cq #[.pointer none] t)).alloc S).cell? (cw (cf w) i)=((w.alloc (cq #[v] t)).alloc (cq #[x.a,x.n,x.s] e)).cell? (cw (cf w) i):=λi=>by
  rw[Ya _ _ _ sM,Ya _ _ _ sM]
 have k2:∀i,((((w.alloc (cq #[v] t)).alloc (cq #[x.a,x.n,x.s] e)).alloc (cq #[.pointer none] t)).alloc S).frozen? (cw (cf w) i)=((w.alloc (cq #[v] t)).alloc (cq #[x.a,x.n,x.s] e)).frozen? (cw (cf w) i):=λi=>by
  rw[World.frozen?_alloc_old _ _ _ sM,World.frozen?_alloc_old _ _ _ sM]
 have k3:∀i,((((w.alloc (cq #[v] t)).alloc (cq #[x.a,x.n,x.s] e)).alloc (cq #[.pointer none] t)).alloc S).cell? (cw (ch w) i)=(((w.alloc (cq #[v] t)).alloc (cq #[x.a,x.n,x.s] e)).alloc (cq #[.pointer none] t)).cell? (cw (ch w) i):=λi=>by
  rw[Ya _ _ _ sM]
 have k4:∀i,((((w.alloc (cq #[v] t)).alloc (cq #[x.a,x.n,x.s] e)).alloc (cq #[.pointer none] t)).alloc S).frozen? (cw (ch w) i)=(((w.alloc (cq #[v] t)).alloc (cq #[x.a,x.n,x.s] e)).alloc (cq #[.pointer none] t)).frozen? (cw (ch w) i):=λi=>by
  rw[World.frozen?_alloc_old _ _ _ sM]
 refine⟨?_,?_,?_,?_,?_,?_,?_,?_,?_,?_,bL⟩
 ·rw[k1];simp
 ·rw[k1];simp
 ·rw[k1];simp
 ·rw[k2];simp
 ·rw[k2];simp
 ·rw[k2];simp
 ·rw[k1];simp
 ·rw[k3,World.cell?_alloc_at (hn:=by simp)];rfl
 ·rw[k4,World.frozen?_alloc_at (hn:=by simp)]
 ·rw[k3,World.cell?_alloc_at (hn:=by simp)];rfl
theorem PSt.aIx{w W W':Wd}{x:E}(h:PSt w W x)(hb:Below W W W'):PSt w W' x:=
 ⟨hb.keep h.x0,hb.keep h.x1,hb.keep h.x2,hb.aJc h.x0 h.f0,hb.aJc h.x1 h.f1,hb.aJc h.x2 h.f2,(hb.cell (p:=(cw (cf w) 7)) (Qj W (cw (cf w) 0) h.x0)).trans h.h7,hb.keep h.r0,hb.aJc h.r0 h.rf,(hb.cell (p:=(cw (ch w) 7)) (Qj W (cw (ch w) 0) h.r0)).trans h.r7,h.bel.on hb⟩
theorem PSt.set{w W:Wd}{x:E}(h:PSt w W x)(y:E):PSt w (((W.setCell (cw (cf w) 0) y.a).setCell (cw (cf w) 1) y.n).setCell (cw (cf w) 2) y.s) y:=by
 obtain⟨j0,j1,j2⟩:=Ao (u0:=y.a) (u1:=y.n) (u2:=y.s) h.x0 h.x1 h.x2;have hne:w.heap.size+1+1≠w.heap.size+1:=oM
 refine⟨j0,j1,j2,?_,?_,?_,dL dE (dL dE (dL dE h.h7)),(eX hne hne hne).trans h.r0,?_,(eX hne hne hne).trans h.r7,((h.bel.setCell sO _).setCell sO _).setCell sO _⟩
 ·rw[Qb,Qb,Qb];exact h.f0
 ·rw[Qb,Qb,Qb];exact h.f1
 ·rw[Qb,Qb,Qb];exact h.f2
 ·rw[Qb,Qb,Qb];exact h.rf
theorem PSt.setn{w W:Wd}{x:E}(h:PSt w W x)(n:Int):PSt w (W.setCell (cw (cf w) 1) n) ⟨x.a,n,x.s⟩:=by
 have hne:w.heap.size+1+1≠w.heap.size+1:=oM
 refine⟨(Qk _ _ _ _ sM).trans h.x0,Qi _ _ _ h.x1,(Qk _ _ _ _ sM).trans h.x2,?_,?_,?_,dL dE h.h7,(cell_far hne).trans h.r0,?_,(cell_far hne).trans h.r7,h.bel.setCell sO _⟩
 ·rw[Qb];exact h.f0
 ·rw[Qb];exact h.f1
 ·rw[Qb];exact h.f2
 ·rw[Qb];exact h.rf
def SA(w:Wd)(L M:List E)(e:Ending)(w':Wd):Prop:=
 ∃v t sv,e= .returned (.tuple #[.agg #[v],sv,oo])/\aD w' v t/\t.toL=L/\aG w' w sv M/\Below w w w'
theorem SG{x:E}(hx:okB x=true):aH [x]=true:=(bP _).2 ⟨λy hy=>by simp at hy;rw[hy];exact hx,List.pairwise_singleton _ _⟩
theorem TR(t:Tr)(x:E)(v:Value)(w:Wd)(ht:aD w v t)(hv:aH t.toL=true)(hn:fT t.toL=true)(hx:okB x=true):
  ep 228 #[.agg #[v],.agg #[x.a,x.n,x.s]] w (SA w (bM t.toL x) (inL t.toL x.a x.n)):=by
 obtain⟨a,rfl⟩:=ht.form;obtain⟨c1,c2,c3,c4,c5⟩:=(aB x).1 hx;have HV:=hD hv;have HN:=hD hn;have HX:=hD hx;have HT:=hD ht;have hw1:=iM (l:=[x]) (λy hy=>by simp at hy;rw[hy];exact hx);have HW:=hD hw1;clear hv hn hx ht hw1;go_enter func228,ntmps228;go_wp2_with fail;refine(Gq [x] _ _ _ (Rd.lit _ _ [x] _ sM rfl sM) HW.o).m ?_;rintro e w1 ⟨rfl,hb1⟩;have P:PSt w w1 x:=PSt.aIx (PSt.init w _ x _ _ _) hb1;have g0:w1 (cw w 0)=some (.pointer a):=hb1.keep sM;rw[SG HX.o];have y0:=P.x0;have HP:=hD P;clear P hb1;go_wp2_with fail;have hsz:=nL HV.o;have hts:t.toL.length=t.size:=rfl;refine(tT x.a oM oM t (.pointer a) w1 (aD.keep HP.o.bel t HT.o) ⟨aL HV.o,oM⟩ HV.o).m ?_;rintro e w2 ⟨va,vb,ta,tb,rfl,hta,htb,hA,hB,hb2⟩;have P:=HP.o.aIx hb2;have y0:=P.x0;have y1:=P.x1;have y2:=P.x2;have hpl:=bV t.toL x.a 65536;have hvb:aH tb.toL=true:=by rw[hB];exact gL _ _ _ HV.o
 have HTA:=hD hta;have HTB:=hD htb;have HA:=hD hA;have HB:=hD hB;have HVB:=hD hvb;have hbs:tb.size<=1000000:=by show tb.toL.length<=_;rw[hB];omega
 have HP:=hD P;have hb2':=bQ w2;clear P hb2 hta htb hA hB hpl hvb;go_wp2_with fail;refine(tT (x.a+x.n) oM oM tb vb w2 HTB.o ⟨aL HVB.o,hbs⟩ HVB.o).m ?_;rintro e w3 ⟨vm,vc,tm,tc,rfl,htm,htc,hM,hC,hb3⟩;obtain⟨aa,rfl⟩:=HTA.o.form;obtain⟨am,rfl⟩:=htm.form;obtain⟨ac,rfl⟩:=htc.form;have hvl:=aL HV.o;rw[HB.o,GX t.toL x.a (x.a+x.n) c2 c4 hvl,<-Dx t.toL x.a x.n HV.o HN.o]at hM;rw[HB.o,En t.toL x.a (x.a+x.n) c2 oM hvl]at hC;have P:=HP.o.aIx hb3;have hA:=HA.o;have htA:=aD.keep hb3 ta (aD.keep hb2' ta HTA.o);have HM:=hD hM;have HC:=hD hC;have HTA:=hD htA;have HTM:=hD htm;have HTC:=hD htc;have HP:=hD P;have HSZ:Hid (ta.size<=65536/\tm.size<=65536/\tc.size<=65536):=hD (by
  have q1:=bV t.toL 0 x.a;have q2:=(mV t.toL x.a x.n hvl).1;have q3:=bV t.toL (x.a+x.n) 65536;refine⟨?_,?_,?_⟩
  ·show ta.toL.length<=_;rw[hA];omega
  ·show tm.toL.length<=_;rw[hM];omega
  ·show tc.toL.length<=_;rw[hC];omega)
 have HOA:Hid (∀y∈ta.toL,okB y=true):=hD (by rw[hA];exact dO t.toL _ _ hvl);have HOC:Hid (∀y∈tc.toL,okB y=true):=hD (by rw[hC];exact dO t.toL _ _ hvl);have HPUT:=hD (WV t.toL x HV.o HN.o);have HNC:Hid (fT tc.toL=true):=hD (by rw[hC];exact qJ _ _ _ HV.o HN.o);have HRA:Hid (∀y∈ta.toL,y.a+y.n<=x.a):=hD (by rw[hA];exactλy hy=>(gZ t.toL _ _ y hy).2);clear P hb3 hA htA hM hC htm htc hvl HTB HB HVB hbs
 cases ta with
 | nil=>
  obtain h0:aa=none:=by have:=HTA.o;simpa [aD]using this
  subst h0;have HL:Hid ((Tr.nil).toL++[x]=fC (aI t.toL 0 x.a) x):=hD (by rw[<-HA.o];rfl);have HTL:Hid (aD w3 (.pointer none) .nil):=hD rfl;have HSA:Hid (Tr.nil.size<=65536):=hD (Yf _);have HXX:=HX;have b0:x.a+x.n<=65536/\x.s+x.n<=65536/\0<=x.a+x.n/\0<=x.s+x.n/\0<=x.n/\x.n<=65536:=oM
  clear HTA HOA HRA HA;have HOA:Hid (∀y∈Tr.nil.toL,okB y=true):=hD (by simp[Tr.toL])
  cases tc with
  | nil=>
   obtain h0:ac=none:=by have:=HTC.o;simpa [aD]using this
   subst h0;have y0:=HP.o.x0;have y1:=HP.o.x1;have y2:=HP.o.x2;go_wp2_with fail;refine(fH Tr.nil Tr.nil x (.pointer none) (.pointer none) _ HTL.o HTC.o (jZ rfl rfl HOA.o HXX.o HOC.o (by show(Tr.nil).size+1+(Tr.nil).size<=_;have:=HSA.o;have:=HSZ.o;omega))).m ?_;exact sh2
  | node cl yc cr=>
   obtain ⟨p,rfl⟩:∃p,ac=some p:=by
    obtain⟨b2,_,_,hal,_⟩:=HTC.o;cases hal;exact⟨_,rfl⟩
   obtain ⟨y,L1,hL1⟩:∃y L1,(Tr.node cl yc cr).toL=y::L1:=by
    exact sh6
   have hyo:=(aB y).1 (HOC.o y (by rw[hL1];simp));have HL1:=hD hL1;clear hL1;have y0:=HP.o.x0;have y1:=HP.o.x1;have y2:=HP.o.x2;go_wp2_with fail;refine(uR (.node cl yc cr) (.pointer (some p)) _ y L1 HL1.o HTC.o ⟨HOC.o,by show(Tr.node cl yc cr).size<=_;have:=HSZ.o;omega⟩).m ?_;rintro e w5 ⟨v5,t5,rfl,ht5,hl5,hb5⟩;obtain⟨a5,rfl⟩:=ht5.form;have hb6:=hb5.aIw (cq #[.int .i64 y.a,.int .i64 y.n,.int .i64 y.s] 128);have P:=HP.o.aIx hb5;have y0:=P.x0;have y1:=P.x1;have y2:=P.x2;have HP:=hD (HP.o.aIx hb6);have HTL:=hD (aD.keep hb6 Tr.nil HTL.o);have HTM:=hD (aD.keep hb6 tm HTM.o);have HTC:=hD (aD.keep hb6 _ HTC.o);have HT5:=hD (aD.keep ((bQ w5).aIw (cq #[.int .i64 y.a,.int .i64 y.n,.int .i64 y.s] 128)) t5 ht5);have HL5:=hD hl5;clear P ht5 hl5 hb5 hb6;cases hm:meets x y
   ·have hm':=hD hm;clear hm;go_wp2_with fail;refine(jR x y false _ hm'.o sh14 sh14).m ?_;rintro e w6 ⟨rfl,hb6⟩;have y0:=hb6.keep HP.o.x0;have y1:=hb6.keep HP.o.x1;have y2:=hb6.keep HP.o.x2;have HP:=hD (HP.o.aIx hb6);have HTL:=hD (aD.keep hb6 Tr.nil HTL.o);have HTM:=hD (aD.keep hb6 tm HTM.o);have HTC:=hD (aD.keep hb6 _ HTC.o);clear hb6;go_wp2_with fail;refine(fH Tr.nil (Tr.node cl yc cr) x (.pointer none) (.pointer (some p)) _ HTL.o HTC.o (jZ rfl rfl HOA.o HXX.o HOC.o (by show(Tr.nil).size+1+((Tr.node cl yc cr)).size<=_;have:=HSA.o;have:=HSZ.o;omega))).m ?_;exact sh1
   ·obtain⟨m1,m2⟩:=(gX _ _).1 hm;have hm':=hD hm;clear hm;go_wp2_with fail;refine(jR x y true _ hm'.o sh14 sh14).m ?_;rintro e w6 ⟨rfl,hb6⟩;have k1:w6 (cw w5 1)=some (.int .i64 y.n):=hb6.keep sM;have HPP:=hD (HP.o.aIx hb6);have y0:=HPP.o.x0;have y1:=HPP.o.x1;have y2:=HPP.o.x2;have f1:=HPP.o.f1;have HTL:=hD (aD.away (i:=1) (u:= .int .i64 ((x).n+y.n)) HPP.o.h7 Tr.nil (aD.keep hb6 Tr.nil HTL.o));have HTM:=hD (aD.away (i:=1) (u:= .int .i64 ((x).n+y.n)) HPP.o.h7 tm (aD.keep hb6 tm HTM.o));have HTC:=hD (aD.away (i:=1) (u:= .int .i64 ((x).n+y.n)) HPP.o.h7 t5 (aD.keep hb6 t5 HT5.o));have HP:=hD (HPP.o.setn ((x).n+y.n));have HXX:Hid (okB ⟨(x).a,(x).n+y.n,(x).s⟩=true):=hD ((aB _).2 sh15);have HOC:Hid (∀z∈t5.toL,okB z=true):=hD aGi;have h6:(Tr.node cl yc cr).toL.length<=65536:=HSZ.o.2.2;rw[HL1.o,List.length_cons]at h6;have HSZ:Hid (0<=65536/\tm.size<=65536/\t5.size<=65536):=hD ⟨oM,HSZ.o.2.1,by show t5.toL.length<=_;rw[HL5.o];omega⟩;clear h6;clear hb6;go_wp2_with fail;refine(fH Tr.nil t5 ⟨(x).a,(x).n+y.n,(x).s⟩ (.pointer none) (.pointer a5) _ HTL.o HTC.o (jZ rfl rfl HOA.o HXX.o HOC.o (by show(Tr.nil).size+1+(t5).size<=_;have:=HSA.o;have:=HSZ.o;omega))).m ?_;exact sh0
 | node al ya ar=>
  obtain ⟨p0,rfl⟩:∃p,aa=some p:=by
   obtain⟨b2,_,_,hal,_⟩:=HTA.o;cases hal;exact⟨_,rfl⟩
  obtain ⟨L0,ye,hL0⟩:=fB (Tr.node al ya ar).toL (by simp[Tr.toL]);have hyo:=(aB ye).1 (HOA.o ye (by rw[hL0];simp));have hyr:=HRA.o ye (by rw[hL0];simp);have HL0:=hD hL0;have hsa:L0.length+1<=65536:=by
   have:=HSZ.o.1;have h6:(Tr.node al ya ar).toL.length<=65536:=this;rw[hL0]at h6
   simpa using h6
  clear hL0;have y0:=HP.o.x0;have y1:=HP.o.x1;have y2:=HP.o.x2;go_wp2_with fail;refine(Uv (.node al ya ar) (.pointer (some p0)) w3 ye L0 HL0.o HTA.o ⟨HOA.o,by show(Tr.node al ya ar).size<=_;have:=HSZ.o;omega⟩).m ?_;rintro e w4 ⟨v4,t4,rfl,ht4,hl4,hb4⟩;obtain⟨a4,rfl⟩:=ht4.form;have hb5:=hb4.aIw (cq #[ye.a,ye.n,ye.s] 128);have P:=HP.o.aIx hb4;have y0:=P.x0;have y1:=P.x1;have y2:=P.x2;have HP:=hD (HP.o.aIx hb5);have HTA:=hD (aD.keep hb5 _ HTA.o);have HTM:=hD (aD.keep hb5 tm HTM.o);have HTC:=hD (aD.keep hb5 tc HTC.o);have HT4:=hD (aD.keep ((bQ w4).aIw (cq #[ye.a,ye.n,ye.s] 128)) t4 ht4);have HL4:=hD hl4;clear P ht4 hl4 hb4 hb5;cases hm:meets ye x
  ·have hm':=hD hm;clear hm;go_wp2_with fail;refine(jR ye x false _ hm'.o oM oM).m ?_;rintro e w7 ⟨rfl,hb6⟩;have HP:=hD (HP.o.aIx hb6);have HTL:=hD (aD.keep hb6 _ HTA.o);have HTM:=hD (aD.keep hb6 tm HTM.o);have HTC:=hD (aD.keep hb6 tc HTC.o);have HL:Hid ((Tr.node al ya ar).toL++[x]=fC (aI t.toL 0 x.a) x):=hD (by rw[<-HA.o,HL0.o,eQ _ _ _ hm'.o]);have HSA:Hid ((Tr.node al ya ar).size<=65536):=hD HSZ.o.1;have HXX:=HX;have b0:x.a+x.n<=65536/\x.s+x.n<=65536/\0<=x.a+x.n/\0<=x.s+x.n/\0<=x.n/\x.n<=65536:=oM
   clear HTA HRA HA HL0 HT4 HL4 hb6
   cases tc with
   | nil=>
    obtain h0:ac=none:=by have:=HTC.o;simpa [aD]using this
    subst h0;have y0:=HP.o.x0;have y1:=HP.o.x1;have y2:=HP.o.x2;go_wp2_with fail;refine(fH (Tr.node al ya ar) Tr.nil x (.pointer (some p0)) (.pointer none) _ HTL.o HTC.o (jZ rfl rfl HOA.o HXX.o HOC.o (by show((Tr.node al ya ar)).size+1+(Tr.nil).size<=_;have:=HSA.o;have:=HSZ.o;omega))).m ?_;exact sh2
   | node cl yc cr=>
    obtain ⟨p,rfl⟩:∃p,ac=some p:=by
     obtain⟨b2,_,_,hal,_⟩:=HTC.o;cases hal;exact⟨_,rfl⟩
    obtain ⟨y,L1,hL1⟩:∃y L1,(Tr.node cl yc cr).toL=y::L1:=by
     exact sh6
    have hyo:=(aB y).1 (HOC.o y (by rw[hL1];simp));have HL1:=hD hL1;clear hL1;have y0:=HP.o.x0;have y1:=HP.o.x1;have y2:=HP.o.x2;go_wp2_with fail;refine(uR (.node cl yc cr) (.pointer (some p)) _ y L1 HL1.o HTC.o ⟨HOC.o,by show(Tr.node cl yc cr).size<=_;have:=HSZ.o;omega⟩).m ?_;rintro e w5 ⟨v5,t5,rfl,ht5,hl5,hb5⟩;obtain⟨a5,rfl⟩:=ht5.form;have hb6:=hb5.aIw (cq #[.int .i64 y.a,.int .i64 y.n,.int .i64 y.s] 128);have P:=HP.o.aIx hb5;have y0:=P.x0;have y1:=P.x1;have y2:=P.x2;have HP:=hD (HP.o.aIx hb6);have HTL:=hD (aD.keep hb6 (Tr.node al ya ar) HTL.o);have HTM:=hD (aD.keep hb6 tm HTM.o);have HTC:=hD (aD.keep hb6 _ HTC.o);have HT5:=hD (aD.keep ((bQ w5).aIw (cq #[.int .i64 y.a,.int .i64 y.n,.int .i64 y.s] 128)) t5 ht5);have HL5:=hD hl5;clear P ht5 hl5 hb5 hb6;cases hm:meets x y
    ·have hm':=hD hm;clear hm;go_wp2_with fail;refine(jR x y false _ hm'.o sh14 sh14).m ?_;rintro e w6 ⟨rfl,hb6⟩;have y0:=hb6.keep HP.o.x0;have y1:=hb6.keep HP.o.x1;have y2:=hb6.keep HP.o.x2;have HP:=hD (HP.o.aIx hb6);have HTL:=hD (aD.keep hb6 (Tr.node al ya ar) HTL.o);have HTM:=hD (aD.keep hb6 tm HTM.o);have HTC:=hD (aD.keep hb6 _ HTC.o);clear hb6;go_wp2_with fail;refine(fH (Tr.node al ya ar) (Tr.node cl yc cr) x (.pointer (some p0)) (.pointer (some p)) _ HTL.o HTC.o (jZ rfl rfl HOA.o HXX.o HOC.o (by show((Tr.node al ya ar)).size+1+((Tr.node cl yc cr)).size<=_;have:=HSA.o;have:=HSZ.o;omega))).m ?_;exact sh1
    ·obtain⟨m1,m2⟩:=(gX _ _).1 hm;have hm':=hD hm;clear hm;go_wp2_with fail;refine(jR x y true _ hm'.o sh14 sh14).m ?_;rintro e w6 ⟨rfl,hb6⟩;have k1:w6 (cw w5 1)=some (.int .i64 y.n):=hb6.keep sM;have HPP:=hD (HP.o.aIx hb6);have y0:=HPP.o.x0;have y1:=HPP.o.x1;have y2:=HPP.o.x2;have f1:=HPP.o.f1;have HTL:=hD (aD.away (i:=1) (u:= .int .i64 ((x).n+y.n)) HPP.o.h7 (Tr.node al ya ar) (aD.keep hb6 (Tr.node al ya ar) HTL.o));have HTM:=hD (aD.away (i:=1) (u:= .int .i64 ((x).n+y.n)) HPP.o.h7 tm (aD.keep hb6 tm HTM.o));have HTC:=hD (aD.away (i:=1) (u:= .int .i64 ((x).n+y.n)) HPP.o.h7 t5 (aD.keep hb6 t5 HT5.o));have HP:=hD (HPP.o.setn ((x).n+y.n));have HXX:Hid (okB ⟨(x).a,(x).n+y.n,(x).s⟩=true):=hD ((aB _).2 sh15);have HOC:Hid (∀z∈t5.toL,okB z=true):=hD aGi;have h6:(Tr.node cl yc cr).toL.length<=65536:=HSZ.o.2.2;rw[HL1.o,List.length_cons]at h6;have HSZ:Hid (0<=65536/\tm.size<=65536/\t5.size<=65536):=hD ⟨oM,HSZ.o.2.1,by show t5.toL.length<=_;rw[HL5.o];omega⟩;clear h6;clear hb6;go_wp2_with fail;refine(fH (Tr.node al ya ar) t5 ⟨(x).a,(x).n+y.n,(x).s⟩ (.pointer (some p0)) (.pointer a5) _ HTL.o HTC.o (jZ rfl rfl HOA.o HXX.o HOC.o (by show((Tr.node al ya ar)).size+1+(t5).size<=_;have:=HSA.o;have:=HSZ.o;omega))).m ?_;exact sh0
  ·obtain ⟨m1,m2⟩:=(gX _ _).1 hm;have hm':=hD hm;clear hm;go_wp2_with fail;refine(jR ye x true _ hm'.o oM oM).m ?_;rintro e w7 ⟨rfl,hb6⟩;have k0:w7 (cw w4 0)=ye.a:=hb6.keep sM;have k1:w7 (cw w4 1)=ye.n:=hb6.keep sM;have k2:w7 (cw w4 2)=ye.s:=hb6.keep sM;have HPP:=hD (HP.o.aIx hb6);have y0:=HPP.o.x0;have y1:=HPP.o.x1;have y2:=HPP.o.x2;have f0:=HPP.o.f0;have f1:=HPP.o.f1;have f2:=HPP.o.f2;have HTL:=hD (aD.set3 (u0:=ye.a) (u1:= .int .i64 (ye.n+x.n)) (u2:=ye.s) HPP.o.h7 t4 (aD.keep hb6 t4 HT4.o));have HTM:=hD (aD.set3 (u0:=ye.a) (u1:= .int .i64 (ye.n+x.n)) (u2:=ye.s) HPP.o.h7 tm (aD.keep hb6 tm HTM.o));have HTC:=hD (aD.set3 (u0:=ye.a) (u1:= .int .i64 (ye.n+x.n)) (u2:=ye.s) HPP.o.h7 tc (aD.keep hb6 tc HTC.o));have HP:=hD (HPP.o.set ⟨ye.a,ye.n+x.n,ye.s⟩);have HL:Hid (t4.toL++[⟨ye.a,ye.n+x.n,ye.s⟩]=fC (aI t.toL 0 x.a) x):=hD (by rw[<-HA.o,HL0.o,dJ _ _ _ hm'.o,HL4.o];rfl);have HSA:Hid (t4.size<=65536):=hD (by show t4.toL.length<=_;rw[HL4.o];omega);have HXX:Hid (okB ⟨ye.a,ye.n+x.n,ye.s⟩=true):=hD ((aB _).2 sO);have b0:ye.a+(ye.n+x.n)<=65536/\ye.s+(ye.n+x.n)<=65536/\0<=ye.a+(ye.n+x.n)/\0<=ye.s+(ye.n+x.n)/\0<=ye.n+x.n/\ye.n+x.n<=65536:=oM
   have HOA4:Hid (∀y∈t4.toL,okB y=true):=hD (by rw[HL4.o];intro z hz;exact HOA.o z (by rw[HL0.o];simp[hz]));clear HTA HRA HA HL0 HT4 HL4 hb6 HOA;have HOA:=HOA4;clear HOA4
   cases tc with
   | nil=>
    obtain h0:ac=none:=by have:=HTC.o;simpa [aD]using this
    subst h0;have y0:=HP.o.x0;have y1:=HP.o.x1;have y2:=HP.o.x2;go_wp2_with fail;refine(fH t4 Tr.nil (⟨ye.a,ye.n+x.n,ye.s⟩:E) (.pointer a4) (.pointer none) _ HTL.o HTC.o (jZ rfl rfl HOA.o HXX.o HOC.o (by show(t4).size+1+(Tr.nil).size<=_;have:=HSA.o;have:=HSZ.o;omega))).m ?_;exact sh2
   | node cl yc cr=>
    obtain ⟨p,rfl⟩:∃p,ac=some p:=by
     obtain⟨b2,_,_,hal,_⟩:=HTC.o;cases hal;exact⟨_,rfl⟩
    obtain ⟨y,L1,hL1⟩:∃y L1,(Tr.node cl yc cr).toL=y::L1:=by
     exact sh6
    have hyo:=(aB y).1 (HOC.o y (by rw[hL1];simp));have HL1:=hD hL1;clear hL1;have y0:=HP.o.x0;have y1:=HP.o.x1;have y2:=HP.o.x2;go_wp2_with fail;refine(uR (.node cl yc cr) (.pointer (some p)) _ y L1 HL1.o HTC.o ⟨HOC.o,by show(Tr.node cl yc cr).size<=_;have:=HSZ.o;omega⟩).m ?_;rintro e w5 ⟨v5,t5,rfl,ht5,hl5,hb5⟩;obtain⟨a5,rfl⟩:=ht5.form;have hb6:=hb5.aIw (cq #[.int .i64 y.a,.int .i64 y.n,.int .i64 y.s] 128);have P:=HP.o.aIx hb5;have y0:=P.x0;have y1:=P.x1;have y2:=P.x2;have HP:=hD (HP.o.aIx hb6);have HTL:=hD (aD.keep hb6 t4 HTL.o);have HTM:=hD (aD.keep hb6 tm HTM.o);have HTC:=hD (aD.keep hb6 _ HTC.o);have HT5:=hD (aD.keep ((bQ w5).aIw (cq #[.int .i64 y.a,.int .i64 y.n,.int .i64 y.s] 128)) t5 ht5);have HL5:=hD hl5;clear P ht5 hl5 hb5 hb6;cases hm:meets (⟨ye.a,ye.n+x.n,ye.s⟩:E) y
    ·have hm':=hD hm;clear hm;go_wp2_with fail;refine(jR (⟨ye.a,ye.n+x.n,ye.s⟩:E) y false _ hm'.o sh14 sh14).m ?_;rintro e w6 ⟨rfl,hb6⟩;have y0:=hb6.keep HP.o.x0;have y1:=hb6.keep HP.o.x1;have y2:=hb6.keep HP.o.x2;have HP:=hD (HP.o.aIx hb6);have HTL:=hD (aD.keep hb6 t4 HTL.o);have HTM:=hD (aD.keep hb6 tm HTM.o);have HTC:=hD (aD.keep hb6 _ HTC.o);clear hb6;go_wp2_with fail;refine(fH t4 (Tr.node cl yc cr) (⟨ye.a,ye.n+x.n,ye.s⟩:E) (.pointer a4) (.pointer (some p)) _ HTL.o HTC.o (jZ rfl rfl HOA.o HXX.o HOC.o (by show(t4).size+1+((Tr.node cl yc cr)).size<=_;have:=HSA.o;have:=HSZ.o;omega))).m ?_;exact sh1
    ·obtain⟨m1,m2⟩:=(gX _ _).1 hm;have hm':=hD hm;clear hm;go_wp2_with fail;refine(jR (⟨ye.a,ye.n+x.n,ye.s⟩:E) y true _ hm'.o sh14 sh14).m ?_;rintro e w6 ⟨rfl,hb6⟩;have k1:w6 (cw w5 1)=some (.int .i64 y.n):=hb6.keep sM;have HPP:=hD (HP.o.aIx hb6);have y0:=HPP.o.x0;have y1:=HPP.o.x1;have y2:=HPP.o.x2;have f1:=HPP.o.f1;have HTL:=hD (aD.away (i:=1) (u:= .int .i64 (((⟨ye.a,ye.n+x.n,ye.s⟩:E)).n+y.n)) HPP.o.h7 t4 (aD.keep hb6 t4 HTL.o));have HTM:=hD (aD.away (i:=1) (u:= .int .i64 (((⟨ye.a,ye.n+x.n,ye.s⟩:E)).n+y.n)) HPP.o.h7 tm (aD.keep hb6 tm HTM.o));have HTC:=hD (aD.away (i:=1) (u:= .int .i64 (((⟨ye.a,ye.n+x.n,ye.s⟩:E)).n+y.n)) HPP.o.h7 t5 (aD.keep hb6 t5 HT5.o));have HP:=hD (HPP.o.setn (((⟨ye.a,ye.n+x.n,ye.s⟩:E)).n+y.n));have HXX:Hid (okB ⟨((⟨ye.a,ye.n+x.n,ye.s⟩:E)).a,((⟨ye.a,ye.n+x.n,ye.s⟩:E)).n+y.n,((⟨ye.a,ye.n+x.n,ye.s⟩:E)).s⟩=true):=hD ((aB _).2 sh15);have HOC:Hid (∀z∈t5.toL,okB z=true):=hD aGi;have h6:(Tr.node cl yc cr).toL.length<=65536:=HSZ.o.2.2;rw[HL1.o,List.length_cons]at h6;have HSZ:Hid (0<=65536/\tm.size<=65536/\t5.size<=65536):=hD ⟨oM,HSZ.o.2.1,by show t5.toL.length<=_;rw[HL5.o];omega⟩;clear h6;clear hb6;go_wp2_with fail;refine(fH t4 t5 ⟨((⟨ye.a,ye.n+x.n,ye.s⟩:E)).a,((⟨ye.a,ye.n+x.n,ye.s⟩:E)).n+y.n,((⟨ye.a,ye.n+x.n,ye.s⟩:E)).s⟩ (.pointer a4) (.pointer a5) _ HTL.o HTC.o (jZ rfl rfl HOA.o HXX.o HOC.o (by show(t4).size+1+(t5).size<=_;have:=HSA.o;have:=HSZ.o;omega))).m ?_;exact sh0
end Go.Proofs.YtphfgbbbejloaaaGreatDoor
