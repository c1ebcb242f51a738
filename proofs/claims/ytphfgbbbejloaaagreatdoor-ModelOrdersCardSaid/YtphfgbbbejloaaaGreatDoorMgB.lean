/- package model: Same of two models. Conditions: as each theorem says. -/
import Derived.Shelf.Slices.Empties2
import Derived.Test.YtphfgbbbejloaaaGreatDoorMfF
set_option linter.unusedSimpArgs false
set_option linter.unusedVariables false
set_option maxRecDepth 100000
set_option maxHeartbeats 16000000
namespace Go.Proofs.YtphfgbbbejloaaaGreatDoor
open Go.RowKit Go.Maps
open Go.Proofs.Tryz
open Go.Shelf
theorem VP{P:Prop}(h:P:=by
  go_wp2_with fail;refine wpr ?_
  repeat(go_big_quiet_step (fail))
  refine wqn λnq=> ?_;replace hB:=hB.on (World.aIy wr nq);go_wp2_with fail;go_ret;exact⟨aU (by rw[<-HQ.o,HBad.o (by first|(simp only[PT,HSM.o,Yo,Qy,Bool.not_eq_false',Qd,Qc];omega)|(simp[PT,HSM.o];omega))];rfl),hB⟩
  ):P:=h
theorem aDi{P:Prop}(h:P:=by
  go_wp2_with fail;refine wpr ?_
  repeat(go_big_quiet_step (fail))
  refine wqn λnq=> ?_;replace hB:=hB.on (World.aIy wr nq);go_wp2_with fail;go_roundw
  case rel=>exact⟨k+1,oM,by go_num,by rw[HV.o,HP.o];simp only[PT,HSM.o,Bool.true_and,Qd,Qc,Bool.not_eq_true',Yo,Qy];omega,hB⟩
  case measure=>simp[intOf];omega
  ):P:=h
theorem aDh{P:Prop}(h:P:=by
  exact⟨rfl,by first|exact(bQ w).aIw _|((repeat(first|exact bR|assumption|refine Below.aJd ?_ _|refine Below.aIw ?_ _|refine Below.setCell ?_ sM _|refine Below.drew ?_));done)⟩
  ):P:=h
theorem aDg{P:Prop}(h:P:=by
  go_wp2_with fail;go_ret;exact⟨aU (by rw[<-HQ.o,HP.o];simp[h20]),hB⟩
  ):P:=h
shelf_lay Lays.n193 Nm 193 at Tryz as Tryz.lays193
section
variable{α:Type}{z:α}{s t:MSt α}
end
def PT(x:CV):Bool:=decide (x.c.data.length<=40)&&(decide (IntKind.i64.wrap ((x.c.vol.length:Int)+x.c.oth.length)<=100)&& !(decide (x.c.kd=5)&&decide (40<x.c.n)))
def Dk(L:List CV):Bool:=L.all PT
theorem UN(L:List CV)(k:Nat)(h:k<L.length):Dk (L.take (k+1))=(Dk (L.take k)&&PT L[k]):=by
 rw[Qh h];simp only[Dk,List.all_append,List.all_cons,List.all_nil,Bool.and_true]
theorem Zb(L:List CV)(k:Nat)(h:k<L.length)(hx:PT L[k]=false):Dk L=false:=by
 cases hp:Dk L
 ·rfl
 ·rw[List.all_eq_true.1 hp _ (Qm h)]at hx;cases hx
theorem MB{L:List CV}(h:Dk L=true){x:CV}(hx:x∈L):x.c.data.length<=40/\(x.c.kd=5->x.c.n<=40):=by
 have:=List.all_eq_true.1 h x hx;simp only[PT,Qd,Qc,Bool.not_eq_true',Yo,Qy]at this;omega
theorem GM(L:List CV)(a:OA)(c:Nat)(most:Nat)(w:Wd)(hr:FM w a L)(hm:most<=100)(q:Bool)(hq:(Dk L&&decide (L.length<=most))=q):
  ep 12 #[.slice a L c,most] w (RB w (.bool q)):=by
 have hlen:=hr.1;have HQ:=hD hq;clear hq;go_enter func12,ntmps12;go_wp2_with fail;go_loopw [5] (λi wr=>∃k:Nat,k<=L.length/\i= .int .i64 k/\Dk (L.take k)=true/\Below w w wr) (λi _=>L.length-(intOf i).toNat)
 case atStart=>exact⟨0,Yf _,rfl,rfl,bR⟩
 case round=>
  obtain⟨k,hk,rfl,hp,hB⟩:=hrel;by_cases hlt:k<L.length
  ·obtain ⟨b,o,rfl,hat⟩:=(hr.keep hB).at oM;obtain⟨_,h1,_,_,h4,h5,_,h7,h8⟩:=hat k _ (Qa hlt);have hfit:=(hr.2.1 _ (Qm hlt)).fit;have HV:=hD (UN L k hlt);have HBad:=hD (Zb L k hlt);have HP:=hD hp;have hk0:(0:Int)<=k:=oM
   have hk1:(k:Int)<L.length:=oM
   generalize L[k]=x at *;obtain⟨⟨tag,kd,ao,af,vol,oth,p,n,data⟩,da,dk⟩:=x;simp only at h1 h4 h5 h7 h8;clear hat hr hp hfit;obtain⟨sm,hsm⟩:∃y,IntKind.i64.wrap ((vol.length:Int)+oth.length)=y:=⟨_,rfl⟩;have HSM:=hD hsm;by_cases d1:40<data.length
   ·have e1:decide ((40:Int)<data.length)=true:=Qo oM;exact VP
   ·have e1:decide ((40:Int)<data.length)=false:=Qp oM;by_cases d2:100<sm
    ·have e2:decide ((100:Int)<sm)=true:=Qo oM;exact VP
    ·have e2:decide ((100:Int)<sm)=false:=Qp oM;by_cases d3:kd=5
     ·subst d3;by_cases d4:40<n
      ·have e4:decide ((40:Int)<n)=true:=Qo d4;exact VP
      ·have e4:decide ((40:Int)<n)=false:=Qp d4;exact aDi
     ·have e3:(kd==5)=false:=by simpa using d3
      exact aDi
  ·have HP:Hid (Dk L=true):=by
    rw[Qq oM]at hp;exact hD hp
   clear hp;by_cases h20:L.length<=most
   ·have e1:decide ((L.length:Int)<=most)=true:=Qo oM;exact aDg
   ·have e1:decide ((L.length:Int)<=most)=false:=Qp oM;exact aDg
abbrev rpV(r:Rp Bk)(a:OA)(k:Nat):Value:= .agg #[r.tag,r.err,.slice a r.data.length k]
structure SRp(w W:Wd)(r:Rp Bk)(a b:OA)(j k:Nat):Prop where
 x:Bx3 W w 44 r.tag r.err (.slice a r.data.length j)
 y:Bx3 W (cf w) 44 r.tag r.err (.slice b r.data.length k)
 p:RdB W a r.data
 q:RdB W b r.data
 g:Below w w W
theorem SRp.aIx{w W W':Wd}{r:Rp Bk}{a b:OA}{j k:Nat}(h:SRp w W r a b j k)(hb:Below W W W'):SRp w W' r a b j k:=
 ⟨h.x.aIx hb,h.y.aIx hb,h.p.keep hb,h.q.keep hb,h.g.on hb⟩
theorem SRp.init(w:Wd)(r:Rp Bk)(a b:OA)(j k:Nat)(h1:RdB w a r.data)(h2:RdB w b r.data)(W:Wd)(hW:W=(w.alloc (cq #[r.tag,r.err,.slice a r.data.length j] 44)).alloc (cq #[r.tag,r.err,.slice b r.data.length k] 44)):SRp w W r a b j k:=by
 subst hW;have k1:=(bQ w).aIw (cq #[r.tag,r.err,.slice a r.data.length j] 44);have k2:=(Below.refl (w.alloc (cq #[r.tag,r.err,.slice a r.data.length j] 44)).heap.size (w.alloc (cq #[r.tag,r.err,.slice a r.data.length j] 44))).aIw (cq #[r.tag,r.err,.slice b r.data.length k] 44);have kk:=k1.on k2;exact⟨(Bx3.new w _ rfl _ _ _ _).aIx k2,Bx3.new _ _ sM _ _ _ _,h1.keep kk,h2.keep kk,kk⟩
theorem yF(r:Rp Bk)(a b:OA)(j k:Nat)(w:Wd)(h1:RdB w a r.data)(h2:RdB w b r.data):
  ep 18 #[rpV r a j,rpV r b k] w (RB w true):=by
 have hlen:=h1.1;have HS:=hD (SRp.init w r a b j k h1 h2 _ rfl);clear h1 h2;obtain⟨tag,er,D⟩:=r;simp only at hlen HS ⊢;go_enter func18,ntmps18;go_upto_region 1 with fail;generalize (w.alloc (cq #[tag,er,.slice a D j] 44)).alloc (cq #[tag,er,.slice b D k] 44)=W at HS ⊢;have x0:=HS.o.x.c0;have x1:=HS.o.x.c1;have x2:=HS.o.x.c2;have y0:=HS.o.y.c0;have y1:=HS.o.y.c1;have y2:=HS.o.y.c2;simp only at x0 x1 x2 y0 y1 y2;go_wp2_with fail;clear x0 x1 x2 y0 y1 y2;go_loopw [5] (λi wr=>∃n:Nat,n<=D.length/\i= .int .i64 n/\Below W W wr) (λi _=>D.length-(intOf i).toNat)
 case atStart=>exact⟨0,Yf _,rfl,bR⟩
 case round=>
  obtain⟨n,hn,rfl,hB⟩:=hrel;have HR:=hD (HS.o.aIx hB);have HWB:=hD hB;clear hB;have x2:=HR.o.x.c2;have y2:=HR.o.y.c2;simp only at x2 y2;by_cases hlt:n<D.length
  ·obtain⟨g,o,rfl,hat⟩:=HR.o.p.at (show 0<D.length by omega);obtain⟨g',o',rfl,hat'⟩:=HR.o.q.at (show 0<D.length by omega);have p1:=hat n _ (Qa hlt);have p2:=hat' n _ (Qa hlt);generalize D[n]=x at p1 p2;obtain⟨z0,z1,z2,z3,z4,z5,z6,z7⟩:=x;obtain⟨c0,c1,c2,c3,c4,c5,c6,c7⟩:=p1;obtain⟨d0,d1,d2,d3,d4,d5,d6,d7⟩:=p2;simp only at c0 c1 c2 c3 c4 c5 c6 c7 d0 d1 d2 d3 d4 d5 d6 d7;have hneq:=λW=>uY ⟨z0,z1,z2,z3,z4,z5,z6,z7⟩ ⟨z0,z1,z2,z3,z4,z5,z6,z7⟩ 9998 W;unfold Bk.v at hneq;simp only[Nat.reduceAdd,decide_true]at hneq;have hk0:(0:Int)<=n:=oM
   have hk1:(n:Int)<D.length:=oM
   clear hat hat';go_wp2_with fail;refine wpr ?_
   repeat(go_big_quiet_step (fail))
   refine wqn λnq=> ?_;have hB9:=World.aIy wr nq;go_wp2_with fail;go_roundw
   case rel=>exact⟨n+1,oM,by go_num,(HWB.o.on hB9)⟩
   case measure=>simp[intOf];omega
  ·obtain rfl:n=D.length:=oM
   go_wp2_with fail;go_ret;exact⟨rfl,HR.o.g⟩
theorem kQ.names{σ:Nat->Nat}:∀{vs ws:List Vol},kQ σ vs ws->ws.map (·.nm)=vs.map (·.nm)
 | [],[],_=>rfl
 |v::vs,w::ws,h=>by rw[List.map_cons,List.map_cons,kQ.names h.2,h.1.nm]
 | [],_::_,h=>h.elim
 |_::_,[],h=>h.elim
theorem aIg{q nn:Nat}{z:Int}(h:q+1<=nn+2)(hz:z=q):nn+2-(z+1).toNat<nn+2-((q:Int)-1+1).toNat:=by
 subst hz;omega
structure SM(w W:Wd)(X:Nat)(m:Mo Bk)(s:MSt Bk)(va:OA)(ts:List RT)(vc:Nat)(da:OA)(dc:Nat)(pa:OA)(pn pc:Nat):Prop where
 mo:MoB W X m
 bx:Bx4 W w 34 s.F.N (.slice va ts vc) (.slice da s.F.N dc) (.slice pa pn pc)
 st:RSt W va ts.length vc da s
 row:RdR W va ts
 g:Below w w W
theorem SM.aIx{w W W':Wd}{X:Nat}{m:Mo Bk}{s:MSt Bk}{va:OA}{ts:List RT}{vc:Nat}{da:OA}{dc:Nat}{pa:OA}{pn pc:Nat}(h:SM w W X m s va ts vc da dc pa pn pc)(hb:Below W W W'):SM w W' X m s va ts vc da dc pa pn pc:=
 ⟨h.mo.aIx hb,h.bx.aIx hb,h.st.keep hb,h.row.keep hb,h.g.on hb⟩
theorem SM.fam{w W:Wd}{X:Nat}{m:Mo Bk}{s:MSt Bk}{va:OA}{ts:List RT}{vc:Nat}{da:OA}{dc:Nat}{pa:OA}{pn pc:Nat}(h:SM w W X m s va ts vc da dc pa pn pc):cB W (.agg #[s.F.N,.slice va ts vc]) s.F:=by
 obtain⟨_,_,h2,_⟩:=h.st;exact h2
theorem Hg(X:Nat)(m:Mo Bk)(n:Nat)(w:Wd)(hm:MoB w X m)(hn:m.past.length=n):
  ep 24 #[.pointer (cw X 0)] w (RB w n):=by
 subst hn;refine(Pb X m w hm).m ?_;rintro e w' ⟨rfl,rfl⟩;exact⟨rfl,bR⟩
theorem XG(X:Nat)(m:Mo Bk)(im:LU)(i1 i2 i3 i4 e0:Int)(nm:LU)(w:Wd)(hm:MoB w X m)(hs:m.cur.F.sound)(hn:nm.length<=maxLen)(hi:dW m.cur.F nm=(⟨im,i1,i2,i3,i4⟩,e0)):
  ep 35 #[.pointer (cw X 0),nmV nm] w (RB w (.tuple #[.agg #[nmV im,i1,i2,i3,i4],e0])):=
 Um X m nm w hm hs hn _ _ hi
theorem Ev(X:Nat)(m g:Mo Bk)(p0:RS)(pa:OA)(pc:Nat)(ps:List RS)(w:Wd)(hm:MoB w X m)(hg:RMd w p0 pa ps g)(hs:FL m g)(fm:m.fine)(fg:g.fine):
  ep 16 #[.pointer (cw X 0),rmV p0 pa ps.length pc] w (RB w true):=by
 obtain⟨σ,hsim⟩:=hs.cur;obtain⟨va,vn,vc,da,dc,s⟩:=p0;obtain⟨hc,hp,hst,_,_⟩:=hg;obtain rfl:s=g.cur:=hc;have hst:RSt w va vn vc da g.cur:=hst;have hst':=hst;obtain⟨_,_,hfm,_⟩:=hst';obtain⟨a,c,ts,he,hr,_,hts,_⟩:=hfm;injection he with he;have he:=congrArg Array.toList he;simp at he;obtain⟨rfl,rfl,rfl⟩:=he;have hpl:m.past.length=ps.length:=by rw[<-hs.past.length,<-hp,Yy]
 have hF:=fm.cur.sound.ok;have hG:=fg.cur.sound.ok;have HNM:Hid (m.cur.F.vs.map (·.nm)=ts.map RT.nm):=hD (by rw[<-hsim.a.vs.names,<-hts,List.map_map];rfl);have HS:Hid (SM w _ X m g.cur va ts vc da dc pa ps.length pc):=hD ⟨hm.aIx ((bQ w).aIw (cq #[g.cur.F.N,.slice va ts vc,.slice da g.cur.F.N dc,.slice pa ps pc] 34)),Bx4.new w _ rfl _ _ _ _ _,hst.keep ((bQ w).aIw _),hr.keep ((bQ w).aIw _),(bQ w).aIw _⟩;have h32:=(kE hG hts).2;have HTS:=hD hts;have HF:=hD fm;have HG:=hD fg;have HSIM:=hD hsim;have HPL:=hD hpl;clear hm hst hr hts fm fg hsim hpl hp hF hG hs;go_enter func16,ntmps16;go_upto_region 1 with fail;generalize w.alloc (cq #[g.cur.F.N,.slice va ts vc,.slice da g.cur.F.N dc,.slice pa ps pc] 34)=W at HS ⊢;go_wp2_with fail;refine(Ul X m _ HS.o.mo HF.o.cur.sound.ok).m ?_;rintro e w1 ⟨nv,rfl,hns,hb⟩;obtain⟨na,nc,rfl,hnr⟩:=hns.rd;rw[HNM.o]at hnr ⊢;rw[Yy];have HNR:Hid (Dt w1 na (ts.map RT.nm)):=hD hnr;have HS1:=hD (HS.o.aIx hb);clear hns hnr hb HS;go_upto_region 2 with fail;have b0:=HS1.o.bx.c0;have b1:=HS1.o.bx.c1;have b2:=HS1.o.bx.c2;have b3:=HS1.o.bx.c3;refine wpr ?_
 repeat(go_big_quiet_step ((go_at_call 24;exact Calls.aJb (Hg X m ps.length _ (HS1.o.mo.aIx (World.aIy _ _)) HPL.o))))
 refine wqn λnq=> ?_;have HS2:=hD (HS1.o.aIx (World.aIy w1 nq));have HNR2:=hD (HNR.o.keep (World.aIy w1 nq));clear b0 b1 b2 b3 HS1 HNR;generalize w1.next nq=W5 at *;go_wp2_with fail;go_loopw [6] (λi wr=>∃k:Nat,k<=ts.length/\i= .int .i64 k/\Below W5 W5 wr) (λi _=>ts.length-(intOf i).toNat)
 case atStart=>exact⟨0,Yf _,rfl,bR⟩
 case round=>
  obtain⟨k,hk,rfl,hB⟩:=hrel;have HM:=hD (HS2.o.aIx hB);have HNK:=hD (HNR2.o.keep hB);have HBL:=hD hB;clear hB;by_cases hlt:k<ts.length
  ·obtain ⟨b,o,rfl,hat⟩:=HM.o.row.at oM;have hat2:=hat k _ (Qa hlt);have hmem:ts[k].vol∈g.cur.F.vs:=by rw[<-HTS.o];exact Yr (Qm hlt)
   have hnk:Dt wr na (ts.map RT.nm):=HNK.o;have hge:(ts.map RT.nm)[k]? =some ts[k].nm:=by
    rw[Yw,Qa hlt];rfl
   obtain⟨gb,rfl,hnm⟩:=hnk.resolve_left (λe=>by rw[e]at hge;simp at hge);have hnc:=hnm k _ hge;generalize ts[k]=z at *;obtain⟨nm,n,r,za,zc,l⟩:=z;obtain⟨e0,e1,e2,e3⟩:=hat2;have hok:=HG.o.cur.sound.ok.vol _ hmem;have hif:=aBi HG.o.cur.sound.ok hmem;have HIG:Hid (dW g.cur.F nm=(⟨nm,n,r,aR l,bF g.cur.F.C l⟩,0)):=hD hif;have HIF:Hid (dW m.cur.F nm=(⟨nm,n,r,aR l,bF g.cur.F.C l⟩,0)):=hD ((HSIM.o.a.info HF.o.cur.sound.ok HG.o.cur.sound.ok nm).symm.trans hif);have HNL:Hid (nm.length<=maxLen):=hD (pU hok.name);obtain⟨nn,hnn⟩:=Qr (show 0<=n by have:1<=n:=hok.n1;omega);have hnn2:nn<=65536:=by have:n<=65536:=hok.n2;omega
   subst hnn;clear hok hmem hat hnm hge hnk hif;generalize bF g.cur.F.C l=sg at *;have c0:=HM.o.bx.c0;have c1:=HM.o.bx.c1;have hk0:(0:Int)<=k:=oM
   have hk1:(k:Int)<ts.length:=oM
   have HX:=hD (VX.new wr _ rfl ⟨nm,nn,r,za,zc,l⟩ 54);have hkv:=(bQ wr).aIw (cq #[nmV nm,nn,r,.slice za l zc] 54);go_upto_region 8 with fail;have HM7:=hD (HM.o.aIx hkv);have n7:=hkv.keep hnc;have HBK:=hD (HBL.o.on hkv);clear e0 e1 e2 e3 c0 c1 hnc hkv HM HBL HNK;generalize wr.alloc (cq #[nmV nm,nn,r,.slice za l zc] 54)=W7 at *;generalize wr.heap.size=T7 at *;go_wp2_with fail
   as_aux_lemma=>
   refine(XG X m nm nn r (aR l) sg 0 nm _ HM7.o.mo HF.o.cur.sound HNL.o HIF.o).m ?_;rintro e w8 ⟨rfl,hb⟩;have hk8:=hb.aIw (cq #[nmV nm,nn,r,(aR l),sg] 94);have HI8:=hD (IT.new w8 _ rfl ⟨nm,nn,r,aR l,sg⟩ 94);have HM8:=hD (HM7.o.aIx hk8);have HX8:=hD (HX.o.aIx hk8);have HBK8:=hD (HBK.o.on hk8);clear hk8 hb HM7 HX HBK n7;go_upto_region 9 with fail;generalize w8.alloc (cq #[nmV nm,nn,r,(aR l),sg] 94)=W8 at *;generalize w8.heap.size=T8 at *;have c0:=HM8.o.bx.c0;have c1:=HM8.o.bx.c1;have x0:=HX8.o.x0;go_wp2_with fail;refine(Af g.cur.F nm nn r (aR l) sg 0 _ nm _ HG.o.cur.sound.ok HM8.o.fam HNL.o HIG.o).m ?_;rintro e w9 ⟨rfl,hb⟩;have hk9:=hb.aIw (cq #[nmV nm,nn,r,(aR l),sg] 94);have HI9:=hD (HI8.o.aIx hk9);have HJ9:=hD (IT.new w9 _ rfl ⟨nm,nn,r,aR l,sg⟩ 94);have HM9:=hD (HM8.o.aIx hk9);have HX9:=hD (HX8.o.aIx hk9);have HBK9:=hD (HBK8.o.on hk9);clear hb hk9 c0 c1 x0 HM8 HX8 HBK8 HI8;go_upto_region 10 with fail;generalize w9.alloc (cq #[nmV nm,nn,r,(aR l),sg] 94)=W9 at *;generalize w9.heap.size=T9 at *;have i0:=HI9.o.t0;have i1:=HI9.o.t1;have i2:=HI9.o.t2;have i3:=HI9.o.t3;have i4:=HI9.o.t4;have j0:=HJ9.o.t0;have j1:=HJ9.o.t1;have j2:=HJ9.o.t2;have j3:=HJ9.o.t3;have j4:=HJ9.o.t4;go_upto_region 13 with fail;clear i0 i1 i2 i3 i4 j0 j1 j2 j3 j4 HI9 HJ9;generalize hnm9:nm=nm9 at *;clear hnm9;go_loopw [12] (λi wx=>∃q:Nat,q<=nn+2/\i= .int .i64 ((q:Int)-1)/\Below W9 W9 wx) (λi _=>nn+2-(match i with| .int _ n=>n+1|_=>0).toNat)
   case atStart=>exact⟨0,oM,rfl,bR⟩
   case round=>
    as_aux_lemma=>
    obtain⟨q,hq,rfl,hB2⟩:=hrel;have HMA:=hD (HM9.o.aIx hB2);have HXA:=hD (HX9.o.aIx hB2);have HBA:=hD hB2;clear hB2;have x0:=HXA.o.x0;have x1:=HXA.o.x1;by_cases hlt2:q<nn+2
    ·have hd:decide ((q:Int)-1<=nn)=true:=Qo oM
     as_aux_lemma=>
     have HNUM:Hid (q+1<=nn+2/\k<ts.length/\nn<=65536):=hD ⟨oM,hlt,hnn2⟩;obtain⟨y,hy⟩:∃y,vF Bk.zero m.cur nm9 ((q:Int)-1)=y:=⟨_,rfl⟩;obtain⟨er,her⟩:∃e,(aX m.cur.F nm9 ((q:Int)-1)).2.2=e:=⟨_,rfl⟩;have HRA:=hD (λW (h:MoB W X m)=>BI X m nm9 ((q:Int)-1) W h HF.o.cur.sound.ok HNL.o (by unfold gJ;omega) y hy er her);have HRB:=hD (λW (h:RSt W (cw b o) ts.length vc da g.cur)=>GJ (rsV g.cur.F.N (cw b o) ts.length vc da dc) g.cur nm9 ((q:Int)-1) W HG.o.cur.sound.ok ⟨some (cw b o),ts.length,vc,da,dc,rfl,h⟩ HNL.o y ((Nf HSIM.o nm9 _).trans hy) er (by rw[(HSIM.o.a.lookup nm9 _).1];exact her));clear hy her;obtain⟨y0,y1,y2,y3,y4,y5,y6,y7⟩:=y;unfold Rh at HRA HRB;unfold Bk.v at HRA HRB;simp only at HRA HRB;go_wp2_with fail;refine(HRA.o _ HMA.o.mo).m ?_;rintro e wa ⟨rfl,hb⟩;have hka:=hb.aIw (.cells (iW ⟨y0,y1,y2,y3,y4,y5,y6,y7⟩) 56);have HYA:=hD (RB8.new wa wa ⟨y0,y1,y2,y3,y4,y5,y6,y7⟩ 56 bR);have HMB:=hD (HMA.o.aIx hka);have HXB:=hD (HXA.o.aIx hka);have HBB:=hD (HBA.o.on hka);clear hb hka x0 x1 HMA HXA HBA HRA;clear hd hlt2 hq hk0 hk1 hlt hk;go_upto_region 16 with fail;generalize wa.alloc (cq #[.int .u8 y0,.int .u8 y1,.int .u8 y2,.int .u8 y3,.int .u8 y4,.int .u8 y5,.int .u8 y6,.int .u8 y7] 56)=WA at HYA HMB HXB HBB ⊢;generalize wa.heap.size=TA at HYA ⊢;have x0:=HXB.o.x0;have b0:=HMB.o.bx.c0;have b1:=HMB.o.bx.c1;have b2:=HMB.o.bx.c2;go_wp2_with fail;refine(HRB.o _ HMB.o.st).m ?_;rintro e wb ⟨rfl,hb⟩;have hkb:=hb.aIw (.cells (iW ⟨y0,y1,y2,y3,y4,y5,y6,y7⟩) 56);have HYB:=hD (RB8.new wb wb ⟨y0,y1,y2,y3,y4,y5,y6,y7⟩ 56 bR);have HYC:=hD (HYA.o.aIx hkb);have HBC:=hD (HBB.o.on hkb);clear hb hkb x0 b0 b1 b2 HMB HXB HBB HRB HYA;go_upto_region 17 with fail;generalize wb.alloc (cq #[.int .u8 y0,.int .u8 y1,.int .u8 y2,.int .u8 y3,.int .u8 y4,.int .u8 y5,.int .u8 y6,.int .u8 y7] 56)=WB at HYB HYC HBC ⊢;generalize wb.heap.size=TB at HYB ⊢;obtain⟨g0,g1,g2,g3,g4,g5,g6,g7⟩:=HYC.o.at';obtain⟨h0,h1,h2,h3,h4,h5,h6,h7⟩:=HYB.o.at';simp only[Nat.zero_mul,Nat.zero_add]at g0 g1 g2 g3 g4 g5 g6 g7 h0 h1 h2 h3 h4 h5 h6 h7;have hneq:=λW=>uY ⟨y0,y1,y2,y3,y4,y5,y6,y7⟩ ⟨y0,y1,y2,y3,y4,y5,y6,y7⟩ 9998 W;unfold Bk.v at hneq;simp only[Nat.reduceAdd,decide_true]at hneq;have hwq:IntKind.i64.wrap ((q:Int)-1+1)=(q:Int)-1+1:=IntWalk.i64_in _ (by have:=HNUM.o;omega);go_wp2_with fail;go_roundw
     all_goals
      have hn9:=HNUM.o;have hw9:wrap64 (q:Int)=q:=by unfold wrap64;omega
     case rel=>exact⟨q+1,hn9.1,by go_num,HBC.o⟩
     case measure=>exact aIg hn9.1 hw9
    ·have hd:decide ((q:Int)-1<=nn)=false:=Qp oM;go_wp2_with fail;go_roundw
     case rel=>exact⟨k+1,oM,by go_num,HBK9.o.on HBA.o⟩
     case measure=>simp[intOf];omega
  ·obtain rfl:k=ts.length:=oM
   go_wp2_with fail;go_ret;exact⟨rfl,HM.o.g⟩
theorem Pv(nm:LU)(n r:Int)(w:Wd):
  ep 30 #[nmV nm,n,r] w (RB w (cmV ⟨0,5,0,false,nm,[],r,n,[]⟩ none 0)):=by
 go_enter func30,ntmps30;go_wp2_with fail;refine br (.agg #[oo,.int .i64 5,oo,false,nmV nm,nmV [],r,n,sn]) ?_;exact aDh
theorem Uu(nm ot:LU)(w:Wd):
  ep 32 #[nmV nm,nmV ot] w (RB w (cmV ⟨0,6,0,false,nm,ot,0,0,[]⟩ none 0)):=by
 go_enter func32,ntmps32;go_wp2_with fail;refine br (.agg #[oo,.int .i64 6,oo,false,nmV nm,nmV ot,oo,oo,sn]) ?_;exact aDh
theorem Hw(nm:LU)(p x:Int)(w:Wd):
  ep 31 #[nmV nm,p,.int .u8 x] w λe w'=>∃a,e= .returned (cmV ⟨0,2,0,false,nm,[],p,1,[⟨x,0,0,0,0,0,0,0⟩]⟩ a 1)/\RdB w' a [⟨x,0,0,0,0,0,0,0⟩]/\Below w w w':=by
 go_enter func31,ntmps31;go_wp2_with fail;have hsz:(w.alloc (cq #[oo,ow,oo,false,.string ⟨nm.toArray⟩,.string ⟨#[]⟩,p,ol,.slice (cw (cf w) 0) 1 1] 48)).heap.size=w.heap.size+1:=by simp
 refine br (.agg #[oo,ow,oo,false,nmV nm,nmV [],p,ol,.slice (cw (cf w) 0) 1 1]) ?_;refine⟨some (cw (cf w) 0),rfl,⟨sM,.inr ⟨w.heap.size+1,0,rfl,λk y hk=> ?_⟩⟩,by first|exact((bQ w).aIw _).aIw _|((repeat(first|exact bR|assumption|refine Below.aJd ?_ _|refine Below.aIw ?_ _|refine Below.setCell ?_ sM _|refine Below.drew ?_));done)⟩
 cases k with
 | zero=>
  simp at hk;subst hk;have:=(RB8.new _ _ ⟨x,0,0,0,0,0,0,0⟩ 56 (Below.refl (w.alloc (cq #[oo,ow,oo,false,.string ⟨nm.toArray⟩,.string ⟨#[]⟩,p,ol,.slice (cw (cf w) 0) 1 1] 48)).heap.size (w.alloc (cq #[oo,ow,oo,false,.string ⟨nm.toArray⟩,.string ⟨#[]⟩,p,ol,.slice (cw (cf w) 0) 1 1] 48)))).at';rw[hsz]at this;exact this
 |succ k=>simp at hk
end Go.Proofs.YtphfgbbbejloaaaGreatDoor
