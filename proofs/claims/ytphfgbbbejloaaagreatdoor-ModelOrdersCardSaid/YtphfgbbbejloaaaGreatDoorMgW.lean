/- tegulalaw48: Same of two models, Copy Conditions: as each theorem says. -/
import Derived.Test.YtphfgbbbejloaaaGreatDoorMgD
set_option linter.unusedSimpArgs false
set_option linter.unusedVariables false
set_option maxRecDepth 100000
set_option maxHeartbeats 16000000
namespace Go.Proofs.YtphfgbbbejloaaaGreatDoor
open Go.RowKit Go.Maps
open Go.Proofs.Tryz
theorem sy4{P:Prop}(h:P:=by
  exact hc.mono λe w' ⟨q1,q2⟩=>⟨q1,by subst q2;exact bR⟩
  ):P:=h
section
variable{α:Type}
theorem ob_rel{σ:Nat->Nat}{s t:MSt α}:∀{vs ws:List Vol},kQ σ vs ws->(∀v∈vs,∀b x,aF v.l b=some x->t.D (σ x.toNat)=s.D x.toNat)->ws.map (obV t)=vs.map (obV s)
 | [],[],_,_=>rfl
 | v::vs,w::ws,h,hd=>by
  rw[List.map_cons,List.map_cons,ob_rel h.2 λu hu=>hd u (by simp[hu])];congr 1;unfold obV;rw[h.1.nm,h.1.n,h.1.r];congr 1
  funext i
  rw[h.1.at' i]
  cases hq:aF v.l i with
  |none=>rfl
  | some x=>
   simp only[Eu,Option.map_some,Int.toNat_natCast];exact congrArg some (hd v sM i x hq)
 | [],_::_,h,_=>h.elim
 |_::_,[],h,_=>h.elim
theorem ob_same{σ:Nat->Nat}{s t:MSt α}(h:Sim σ s t):obS t=obS s:=ob_rel h.a.vs λv hv b x hx=>h.d _ ⟨v,hv,b,x,hx,rfl⟩
end
section
variable{α:Type}{z:α}{s s' t:MSt α}{c:Cmd α}{m m':Mo α}
variable[DecidableEq α]
def sameC(v w:OV α)(k:Nat):Bool:=(List.range k).all λi=>decide (v.c i=w.c i)
def sameV(v w:OV α):Bool:=decide (v.nm=w.nm)&&(decide (v.n=w.n)&&(decide (v.r=w.r)&&sameC v w v.n.toNat))
def sameK(A B:List (OV α))(k:Nat):Bool:=(List.range k).all λi=>match A[i]?,B[i]? with
 |some v,some w=>sameV v w
 |_,_=>false
def sameO(A B:List (OV α)):Bool:=decide (A.length=B.length)&&sameK A B A.length
theorem sameC_bad{v w:OV α}{k n:Nat}(hk:k<n)(h:v.c k≠w.c k):sameC v w n=false:=by
 cases hq:sameC v w n
 ·rfl
 ·exact absurd (Qt (List.all_eq_true.1 hq k (List.mem_range.2 hk))) h
theorem sameK_bad{A B:List (OV α)}{k n:Nat}{v w:OV α}(hk:k<n)(h1:A[k]? =some v)(h2:B[k]? =some w)(h:sameV v w=false):sameK A B n=false:=by
 cases hq:sameK A B n
 ·rfl
 ·have:=List.all_eq_true.1 hq k (List.mem_range.2 hk);rw[h1,h2]at this;simp only at this;rw[h]at this;cases this
theorem sameO_refl(A:List (OV α)):sameO A A=true:=by
 unfold sameO sameK sameV sameC;simp only[decide_true,Bool.true_and,List.all_eq_true,List.mem_range];intro i hi;rw[Qa hi];simp
end
open Go.Shelf
theorem mmcopy_is(X:Nat)(m:Mo Bk)(w:Wd)(hm:MoB w X m)(hl:m.past.length<=10000):
  ep 22 #[.pointer (cw X 0)] w λe w'=>∃X2,e= .returned (.pointer (cw X2 0))/\MoB w' X2 m/\w.heap.size<=X2/\Below w w w':=by
 obtain⟨M,b,pa,pc,ps,hb3,hst,hpa,hlp,hpp⟩:=hm;have hpl:ps.length<=1000000:=by rw[<-hpp,Yy]at hl;omega
 have HBd:=hD (bQ w).drew;have m0:=HBd.o.keep hb3.c0;have m1:=HBd.o.keep hb3.c1;have m2:=HBd.o.keep hb3.c2;have HPA:=hD (hpa.keep HBd.o);have HB3:=hD hb3;have FIN:=hD (λ(w3:Wd) (v:Value) (hb:Below w w w3) (ho:gW w3 w v ps)=>show ∃a c,v= .slice a ps c/\MoB (w3.alloc (cq #[.pointer (cw M 0),.map (some b),.slice a ps c] 90)) w3 m/\Below w w (w3.alloc (cq #[.pointer (cw M 0),.map (some b),.slice a ps c] 90)) from by
  obtain⟨a,c,rfl,hr⟩:=ho.rd hpl;have hk:=(bQ w3).aIw (cq #[.pointer (cw M 0),.map (some b),.slice a ps c] 90)
  exact⟨a,c,rfl,⟨M,b,a,c,ps,Bx3.new _ _ rfl _ _ _ _,(hst.aIx hb).aIx hk,hr.keep hk,(hlp.keep hb).keep hk,hpp⟩,hb.aIw _⟩)
 clear hst hpa hlp hpp hb3 hl hpl;go_enter func22,ntmps22;go_wp2_with fail
 go_region_law (first
  |(go_simp;go_at_call 43;(with_reducible refine(Iw ps pa pc _ HPA.o).m ?_);rintro e w3 ⟨v,rfl,ho,hb⟩;obtain⟨a,c,rfl,hM,hB⟩:=FIN.o w3 v (HBd.o.on hb) ho;have HM:=hD hM;have HB:=hD hB;have hb9:=HBd.o.on hb;have HS:=hD hb9.size;have m3:=hb9.keep HB3.o.c0;have m4:=hb9.keep HB3.o.c1;clear ho hb hb9 hM hB))
 all_goals
  go_wp2_with fail;go_ret;exact⟨_,rfl,HM.o,HS.o,HB.o⟩
def RdNm(w:Wd)(a:OA)(l:List (LU)):Prop:=l=[]∨ ∃g,a=cw g 0/\ ∀k x,l[k]? =some x->w (cw g k)=some (nmV x)
theorem RdNm.keep{w w':Wd}{a:OA}{l:List (LU)}(h:RdNm w a l)(hb:Below w w w'):RdNm w' a l:=
 h.imp id λ⟨g,h1,h2⟩=>⟨g,h1,λk x hk=>hb.keep (h2 k x hk)⟩
theorem Ri.nm{w:Wd}{B:Nat}{v:Value}{l:List (LU)}(h:Ri w B v l):∃a c,v= .slice a l c/\RdNm w a l:=h.rd
theorem below_drawn(w:Wd)(n:Nat):Below w w (w.drewN n):=⟨rfl,rfl,rfl,Ye _,λ_ _=>rfl⟩
theorem ba_inj{a b:LU}(h:ByteArray.mk a.toArray=ByteArray.mk b.toArray):a=b:=by
 injection h with h
 simpa using h
theorem names_eq(l1 l2:List (LU))(a1 a2:OA)(c1 c2:Nat)(w:Wd)(h1:RdNm w a1 l1)(h2:RdNm w a2 l2)(n1:l1.length<=32)(n2:l2.length<=32):
  ep 47 #[.slice a1 l1 c1,.slice a2 l2 c2] w (RB w (.bool (decide (l1=l2)))):=by
 by_cases hl:l1.length=l2.length
 ·rcases h1 with rfl|⟨g1,rfl,h1⟩
  ·have:l2=[]:=Qz hl.symm;subst this;have hc:=Any.slices_Equal_string_empty Tryz.lays193 a1 a2 c1 0 c2 w oM;exact sy4
  ·rcases h2 with rfl|⟨g2,rfl,h2⟩
   ·have:l1=[]:=Qz hl;subst this;have hc:=Any.slices_Equal_string_empty Tryz.lays193 (cw g1 0) a2 c1 0 c2 w oM;exact sy4
   ·have gt:∀(g:Nat) (l:List (LU)),(∀k x,l[k]? =some x->w (cw g k)=some (nmV x))-> ∀j,j<(l.map λx=>ByteArray.mk x.toArray).length->w (cw g (0+j))=some (.string ((l.map λx=>ByteArray.mk x.toArray).getD j ByteArray.empty)):=λg l h j hj=>by
     rw[Yy]at hj;rw[Nat.zero_add,h j _ (Qa hj),Ql,Yw,Qa hj];rfl
    have hc:=Any.slices_Equal_string Tryz.lays193 g1 0 l1.length c1 g2 0 l2.length c2 (l1.map λx=>ByteArray.mk x.toArray) (l2.map λx=>ByteArray.mk x.toArray) w sM sM oM oM (gt g1 l1 h1) (gt g2 l2 h2);refine hc.mono λe w' ⟨q1,q,q2⟩=>⟨?_,by subst q2;exact below_drawn _ _⟩;rw[q1,Qq sM,Qq sM];congr 3;exact propext ⟨λh=>List.map_inj_right (λ_ _=>ba_inj) |>.1 h,λh=>by rw[h]⟩
 ·have hc:=Any.slices_Equal_string_lens Tryz.lays193 a1 a2 l1.length c1 l2.length c2 w hl;refine hc.mono λe w' ⟨q1,q2⟩=>⟨?_,by subst q2;exact bR⟩;rw[q1,Qp (λe=>hl (by rw[e]))]
section
variable{α:Type}{z:α}{s t:MSt α}
theorem seen_info(hF:s.F.ok){i:Nat}{v:OV α}(h:(obS s)[i]? =some v):v.nm.length<=16/\1<=v.n/\(∃y:Vol,y∈s.F.vs/\v=obV s y)/\ ∃a b,dW s.F v.nm=(⟨v.nm,v.n,v.r,a,b⟩,0):=by
 unfold obS at h;rw[Yw,Option.map_eq_some_iff]at h;obtain⟨y,hy,rfl⟩:=h;have hm:=List.mem_of_getElem? hy;exact⟨(pV (hF.vol y hm).name).2,(hF.vol y hm).n1,⟨y,hm,rfl⟩,_,_,aBi hF hm⟩
theorem seen_look(hF:s.F.ok){i:Nat}{v:OV α}(h:(obS s)[i]? =some v)(k:Nat)(hk:(k:Int)<v.n):(aX s.F v.nm k).2.1=(v.c k).isSome/\vF z s v.nm k=(v.c k).getD z:=by
 obtain ⟨_,_,⟨y,hm,rfl⟩,_⟩:=seen_info hF h;have hg:=rH hF.sorted hm;have hb:vF z s y.nm k=((obV s y).c k).getD z:=by
  rw[JO hF _ _ oM,show xZ (obS s) y.nm=some (obV s y) from(Jk s y.nm _).trans (by rw[hg];rfl)];rfl
 refine⟨?_,hb⟩;show(aX s.F y.nm k).2.1=((aF y.l k).map λx=>s.D x.toNat).isSome;unfold aX;rw[hg];simp only;have hi:inB (k:Int) 1 y.n=true:=(iK _ _ _).2 (by have:(k:Int)<y.n:=hk;omega);rw[Qe (by rw[hi];decide),lJ];cases fI y.l (k:Int) <;> rfl
theorem opt_same[DecidableEq α](z:α)(a b:Option α):decide (a=b)=(decide (a.getD z=b.getD z)&&decide (a.isSome=b.isSome)):=by
 cases a <;> cases b <;> simp
theorem names_ob(s:MSt α):s.F.vs.map (·.nm)=(obS s).map (·.nm):=by unfold obS;rw[List.map_map];rfl
theorem sameO_names[DecidableEq α]{A B:List (OV α)}(h:A.map (·.nm)≠B.map (·.nm)):sameO A B=false:=by
 cases hq:sameO A B
 ·rfl
 ·refine absurd ?_ h;unfold sameO at hq;rw[Qd,Qc]at hq;obtain⟨h1,h2⟩:=hq;refine List.ext_getElem? λi=> ?_;rw[Yw,Yw];by_cases hi:i<A.length
  ·have h3:=List.all_eq_true.1 h2 i (List.mem_range.2 hi);rw[Qa hi,Qa oM]at h3 ⊢;simp only at h3;unfold sameV at h3;rw[Qd,Qc]at h3;exact congrArg some h3.1
  ·rw[List.getElem?_eq_none oM,List.getElem?_eq_none oM]
theorem sameC_full[DecidableEq α]{v w:OV α}(k:Nat)(h:∀i,i<k->v.c i=w.c i):sameC v w k=true:=
 List.all_eq_true.2 λi hi=>Qo (h i (List.mem_range.1 hi))
theorem sameK_full[DecidableEq α]{A B:List (OV α)}(k:Nat)(h:∀i,i<k-> ∃v w,A[i]? =some v/\B[i]? =some w/\sameV v w=true):sameK A B k=true:=
 List.all_eq_true.2 λi hi=>by
  obtain⟨v,w,h1,h2,h3⟩:=h i (List.mem_range.1 hi);rw[h1,h2];exact h3
theorem sameV_len[DecidableEq α]{v w:OV α}(h:v.n≠w.n∨v.r≠w.r):sameV v w=false:=by
 unfold sameV;rcases h with h|h
 ·rw[Qp h];simp
 ·rw[Qp h];simp
theorem sameV_bad[DecidableEq α]{v w:OV α}{k:Nat}(hk:(k:Int)<v.n)(h:v.c k≠w.c k):sameV v w=false:=by
 unfold sameV;rw[sameC_bad oM h];simp
theorem sameV_full[DecidableEq α]{v w:OV α}(h0:v.nm=w.nm)(h1:v.n=w.n)(h2:v.r=w.r)(h:∀i:Nat,(i:Int)<v.n->v.c i=w.c i):sameV v w=true:=by
 unfold sameV;rw[Qo h0,Qo h1,Qo h2,sameC_full _ λi hi=>h i oM];rfl
end
theorem mmsame_is(X Y:Nat)(m g:Mo Bk)(w:Wd)(hm:MoB w X m)(hg:MoB w Y g)(sm:m.cur.F.sound)(sg:g.cur.F.sound):
  ep 25 #[.pointer (cw X 0),.pointer (cw Y 0)] w (RB w (.bool (sameO (obS m.cur) (obS g.cur)))):=by
 have HM:=hD hm;have HG:=hD hg;have HSM:=hD sm;have HSG:=hD sg;clear hm hg sm sg;obtain⟨R,hR⟩:∃R,sameO (obS m.cur) (obS g.cur)=R:=⟨_,rfl⟩;rw[hR];have HRS:=hD hR;clear hR;have HNA:=hD (λW h=>Ul X m W h HSM.o.ok);have HNB:=hD (λW h=>Ul Y g W h HSG.o.ok);rw[names_ob m.cur]at HNA;rw[names_ob g.cur]at HNB;obtain⟨L1,hL1⟩:∃L1,(obS m.cur).map (·.nm)=L1:=⟨_,rfl⟩;obtain⟨L2,hL2⟩:∃L2,(obS g.cur).map (·.nm)=L2:=⟨_,rfl⟩;have HE1:=hD hL1;have HE2:=hD hL2;rw[hL1]at HNA;rw[hL2]at HNB;have hl1:L1.length=(obS m.cur).length:=by rw[<-hL1,Yy]
 have hl2:L2.length=(obS g.cur).length:=by rw[<-hL2,Yy]
 have hl3:L1.length<=32:=by rw[hl1];unfold obS;rw[Yy];exact HSM.o.ok.few
 have hl4:L2.length<=32:=by rw[hl2];unfold obS;rw[Yy];exact HSG.o.ok.few
 have HL1:=hD hl1;have HL2:=hD hl2;have HL4:=hD hl4;clear hL1 hL2 hl1 hl2 hl4;go_enter func25,ntmps25;go_wp2_with fail;refine(HNA.o w HM.o).m ?_;rintro e w1 ⟨v1,rfl,ho1,hb1⟩;obtain⟨a1,c1,rfl,hr1⟩:=ho1.nm;have HN1:=hD hr1;have HB1:=hD hb1;clear ho1 hr1 hb1 HNA;go_wp2_with fail;refine(HNB.o w1 (HG.o.aIx HB1.o)).m ?_;rintro e w2 ⟨v2,rfl,ho2,hb2⟩;obtain⟨a2,c2,rfl,hr2⟩:=ho2.nm;have HN2:=hD hr2;replace HN1:=hD (HN1.o.keep hb2);have HB2:=hD (HB1.o.on hb2);clear ho2 hr2 hb2 HB1 HNB;go_wp2_with fail;refine(names_eq L1 L2 a1 a2 c1 c2 w2 HN1.o HN2.o hl3 HL4.o).m ?_;rintro e w3 ⟨rfl,hb3⟩;replace HN1:=hD (HN1.o.keep hb3);have HB3:=hD (HB2.o.on hb3);clear hb3 HB2 HN2;by_cases hne:L1=L2
 ·subst hne;rw[Qo rfl];go_wp2_with fail;go_loopw [37] (λi wr=>∃k:Nat,k<=L1.length/\i= .int .i64 k/\Hid (∀j,j<k-> ∃v u,(obS m.cur)[j]? =some v/\(obS g.cur)[j]? =some u/\sameV v u=true)/\Below w3 w3 wr) (λi _=>L1.length-(intOf i).toNat)
  case atStart=>exact⟨0,Yf _,rfl,hD (λj hj=>by omega),bR⟩
  case round=>
   obtain⟨k,hk,rfl,hsm,hbr⟩:=hrel;have HBR:=hD hbr;clear hbr;by_cases hlt:k<L1.length
   ·obtain ⟨v,hv⟩:∃v,(obS m.cur)[k]? =some v:=⟨_,Qa (by have:=HL1.o;omega)⟩;obtain⟨u,hu⟩:∃u,(obS g.cur)[k]? =some u:=⟨_,Qa (by have:=HL2.o;omega)⟩;have hk1:L1[k]? =some v.nm:=by rw[<-HE1.o,Yw,hv];rfl
    have hk2:L1[k]? =some u.nm:=by rw[<-HE2.o,Yw,hu];rfl
    have hun:v.nm=u.nm:=Qv (hk1.symm.trans hk2);obtain⟨hnl,hn1,hvy,ia,ib,hinf⟩:=seen_info HSM.o.ok hv;obtain⟨_,_,huy,ja,jb,hing⟩:=seen_info HSG.o.ok hu;rw[<-hun]at hing;have hvn:v.n<=255:=by obtain⟨y,hy,rfl⟩:=hvy;exact HSM.o.small y hy
    obtain⟨G,rfl,hcells⟩:=HN1.o.resolve_left (λe=>by rw[e]at hlt;simp at hlt);have z7:=HBR.o.keep (hcells k _ hk1);have HLV:=hD (λ(i:Nat) (hi:(i:Int)<v.n)=>seen_look (z:=Bk.zero) HSM.o.ok hv i hi);have HLU:=hD (λ(i:Nat) (hi:(i:Int)<u.n)=>seen_look (z:=Bk.zero) HSG.o.ok hu i hi);rw[<-hun]at HLU;have hnm9:v.nm.length<=maxLen:=by simp only[maxLen];omega
    have HV:=hD hv;have HU:=hD hu;have HUN:=hD hun;have HI1:=hD (λW h=>Um X m v.nm W h HSM.o hnm9 _ _ hinf);have HI2:=hD (λW h=>Um Y g v.nm W h HSG.o hnm9 _ _ hing);unfold Bn aFc at HI1 HI2;simp only at HI1 HI2;have HNM:=hD hnm9;have HK1:=hD (show v.n.toNat<=255/\(v.n.toNat:Int)=v.n by omega);clear hk1 hk2 hun hnl hn1 hvy hinf huy hing hcells hv hu hnm9 hvn;obtain⟨nm,vn,vr,vc⟩:=v;obtain⟨unm,un,ur,uc⟩:=u;simp only at z7 HI1 HI2 HLV HLU HNM HUN HK1;have HBW:=hD (HB3.o.on HBR.o);go_wp2_with fail;refine(HI1.o _ (HM.o.aIx HBW.o)).m ?_;rintro e w4 ⟨rfl,hb⟩;have hk4:=hb.aIw (cq #[nmV nm,vn,vr,ia,ib] 94);have HB4:=hD (HBW.o.on hk4);have HR4:=hD (HBR.o.on hk4);have HT8:=hD (IT.new w4 _ rfl ⟨nm,vn,vr,ia,ib⟩ 94);clear hb hk4 z7 HBR HBW HI1;go_upto_region 10 with fail;generalize w4.alloc (cq #[nmV nm,vn,vr,ia,ib] 94)=W4 at *;generalize w4.heap.size=T8 at *;go_wp2_with fail;refine(HI2.o _ (HG.o.aIx HB4.o)).m ?_;rintro e w5 ⟨rfl,hb⟩;have hk5:=hb.aIw (cq #[nmV nm,un,ur,ja,jb] 94);have HB5:=hD (HB4.o.on hk5);have HR5:=hD (HR4.o.on hk5);replace HT8:=hD (HT8.o.aIx hk5);have HT10:=hD (IT.new w5 _ rfl ⟨nm,un,ur,ja,jb⟩ 94);clear hb hk5 HB4 HR4 HI2;go_upto_region 11 with fail;generalize w5.alloc (cq #[nmV nm,un,ur,ja,jb] 94)=W5 at *;generalize w5.heap.size=T10 at *;have t1:=HT8.o.t1;have t2:=HT8.o.t2;have s1:=HT10.o.t1;have s2:=HT10.o.t2;simp only at t1 t2 s1 s2;by_cases hd:vn≠un∨vr≠ur
    ·obtain rfl:R=false:=by
      rw[<-HRS.o];unfold sameO;rw[sameK_bad (by rw[<-HL1.o];exact hlt) HV.o HU.o (sameV_len hd),Bool.and_false]
     by_cases hd1:vn=un
     ·have hd2:(vr != ur)=true:=by
       rcases hd with hd|hd
       ·exact absurd hd1 hd
       ·simpa using hd
      subst hd1;clear hd;go_wp2_with fail;go_ret;exact⟨rfl,HB5.o⟩
     ·have hd2:(vn != un)=true:=by simpa using hd1
      clear hd;go_wp2_with fail;go_ret;exact⟨rfl,HB5.o⟩
    ·obtain rfl:vn=un:=Decidable.not_not.1 λe=>hd (.inl e);obtain rfl:vr=ur:=Decidable.not_not.1 λe=>hd (.inr e);clear hd;obtain⟨n,hn⟩:∃n:Nat,vn=(n:Int):=⟨vn.toNat,HK1.o.2.symm⟩;subst hn;have hn255:n<=255:=by have:=HK1.o.1;simpa using this
     go_wp2_with fail;clear t1 t2 s1 s2 HT8 HT10;go_loopw [67] (λi wr=>∃j:Nat,j<=n/\i= .int .i64 j/\Hid (∀q,q<j->vc q=uc q)/\Below W5 W5 wr) (λi _=>n-(intOf i).toNat)
     case atStart=>exact⟨0,Yf _,rfl,hD (λj hj=>by omega),bR⟩
     case round=>
      obtain⟨j,hj,rfl,hsc,hbr⟩:=hrel;have HBJ:=hD (HB5.o.on hbr);have HRJ:=hD (HR5.o.on hbr);have HWJ:=hD hbr;clear hbr;by_cases hjn:j<n
      ·have hj64:gJ (j:Int):=⟨oM,oM⟩;obtain⟨hl1,hb1⟩:=HLV.o j oM;obtain⟨hl2,hb2⟩:=HLU.o j oM;obtain⟨x,hx⟩:∃x,(vc j).getD Bk.zero=x:=⟨_,rfl⟩;obtain⟨y,hy⟩:∃y,(uc j).getD Bk.zero=y:=⟨_,rfl⟩;obtain⟨p1,hp1⟩:∃p1,(vc j).isSome=p1:=⟨_,rfl⟩;obtain⟨p2,hp2⟩:∃p2,(uc j).isSome=p2:=⟨_,rfl⟩;rw[hx]at hb1;rw[hy]at hb2;rw[hp1]at hl1;rw[hp2]at hl2;obtain⟨e1,he1⟩:∃e1,(aX m.cur.F nm j).2.2=e1:=⟨_,rfl⟩;obtain⟨e2,he2⟩:∃e2,(aX g.cur.F nm j).2.2=e2:=⟨_,rfl⟩;obtain⟨M1,b1,_,_,_,hb3,hst,_⟩:=HM.o.aIx HBJ.o;have m0:=hb3.c0;have m1:=hb3.c1;have HC1:=hD (Hr M1 b1 m.cur nm j wr HSM.o.ok hst HNM.o hj64 x hb1);rw[hl1,he1]at HC1;have HC2:=hD (λM b W (h:StM W M b g.cur)=>Hr M b g.cur nm j W HSG.o.ok h HNM.o hj64 y hb2);rw[hl2,he2]at HC2;have HEQ:=hD (opt_same Bk.zero (vc j) (uc j));rw[hx,hy,hp1,hp2]at HEQ;clear hl1 hb1 hl2 hb2 hx hy hp1 hp2 he1 he2 hb3 hst hj64;unfold aHu at HC1 HC2;unfold Bk.v at HC1 HC2;go_wp2_with fail;refine HC1.o.m ?_;rintro e w6 ⟨rfl,hb⟩;have hk6:=hb.aIw (.cells (iW x) 56);have HB6:=hD (HBJ.o.on hk6);have HR6:=hD (HRJ.o.on hk6);have HW6:=hD (HWJ.o.on hk6);have HX6:=hD (RB8.new w6 w6 x 56 bR);clear hb hk6 m0 m1 HC1 HBJ HRJ HWJ;go_upto_region 17 with fail;generalize w6.alloc (cq #[.int .u8 x.x0,.int .u8 x.x1,.int .u8 x.x2,.int .u8 x.x3,.int .u8 x.x4,.int .u8 x.x5,.int .u8 x.x6,.int .u8 x.x7] 56)=W6 at HB6 HR6 HW6 HX6 ⊢;generalize w6.heap.size=T13 at HX6 ⊢;obtain⟨M2,b2,_,_,_,hb3,hst,_⟩:=HG.o.aIx HB6.o;have m0:=hb3.c0;have m1:=hb3.c1;have HC3:=hD (HC2.o M2 b2 W6 hst);clear hb3 hst HC2;go_wp2_with fail;refine HC3.o.m ?_;rintro e w7 ⟨rfl,hb⟩;have hk7:=hb.aIw (.cells (iW y) 56);have HB7:=hD (HB6.o.on hk7);have HR7:=hD (HR6.o.on hk7);have HW7:=hD (HW6.o.on hk7);have HX7:=hD (HX6.o.aIx hk7);have HY7:=hD (RB8.new w7 w7 y 56 bR);clear hb hk7 m0 m1 HC3 HB6 HR6 HW6 HX6;go_upto_region 18 with fail;generalize w7.alloc (cq #[.int .u8 y.x0,.int .u8 y.x1,.int .u8 y.x2,.int .u8 y.x3,.int .u8 y.x4,.int .u8 y.x5,.int .u8 y.x6,.int .u8 y.x7] 56)=W7 at HB7 HR7 HW7 HX7 HY7 ⊢;generalize w7.heap.size=T16 at HY7 ⊢;obtain⟨g0,g1,g2,g3,g4,g5,g6,g7⟩:=HX7.o.at';simp only[Nat.zero_mul,Nat.zero_add]at g0 g1 g2 g3 g4 g5 g6 g7;have gf:=HX7.o.f;obtain⟨h0,h1,h2,h3,h4,h5,h6,h7⟩:=HY7.o.at';simp only[Nat.zero_mul,Nat.zero_add]at h0 h1 h2 h3 h4 h5 h6 h7;have hneq:=λW=>uY x y 9998 W;unfold Bk.v at hneq;simp only[Nat.reduceAdd]at hneq;by_cases hxy:x=y
       ·rw [Qo hxy]at HEQ hneq;subst hxy;by_cases hp:p1=p2
        ·have hvu:vc j=uc j:=by
          have:=HEQ.o;rw[Qo hp]at this
          simpa using this
         subst hp;clear HEQ;cases p1
         all_goals
          go_wp2_with fail;go_roundw
          case rel=>exact⟨j+1,oM,by go_num,hD (λi hi=>by
           by_cases e:i=j
           ·subst e;exact hvu
           ·exact hsc.o i oM),HW7.o⟩
          case measure=>simp[intOf];omega
        ·obtain rfl:R=false:=by
          rw [<-HRS.o];unfold sameO;rw[sameK_bad (by rw[<-HL1.o];exact hlt) HV.o HU.o (sameV_bad (k:=j) (by show(j:Int)<(n:Int);omega) (by
           have:=HEQ.o;rw[Qp hp]at this
           simpa using this)),Bool.and_false]
         clear HEQ;cases p1
         ·obtain rfl:p2=true:=by cases p2 <;> simp at hp ⊢
          clear hp;go_wp2_with fail;go_ret;exact⟨rfl,HB7.o⟩
         ·obtain rfl:p2=false:=by cases p2 <;> simp at hp ⊢
          clear hp;go_wp2_with fail;go_ret;exact⟨rfl,HB7.o⟩
       ·rw [Qp hxy]at HEQ hneq;clear hxy;obtain rfl:R=false:=by
         rw [<-HRS.o];unfold sameO;rw[sameK_bad (by rw[<-HL1.o];exact hlt) HV.o HU.o (sameV_bad (k:=j) (by show(j:Int)<(n:Int);omega) (by
          have:=HEQ.o
          simpa using this)),Bool.and_false]
        go_wp2_with fail;go_ret;exact⟨rfl,HB7.o⟩
      ·obtain rfl:j=n:=oM
       go_wp2_with fail;go_roundw
       case rel=>exact⟨k+1,oM,by go_num,hD (λi hi=>by
        by_cases e:i=k
        ·subst e;exact⟨_,_,HV.o,HU.o,sameV_full HUN.o rfl rfl λi hi=>hsc.o i (by simp only at hi;omega)⟩
        ·exact hsm.o i oM),HRJ.o⟩
       case measure=>simp[intOf];omega
   ·obtain rfl:k=L1.length:=oM
    obtain rfl:R=true:=by
     rw[<-HRS.o];unfold sameO;rw[Qo (HL1.o.symm.trans HL2.o),<-HL1.o,sameK_full _ hsm.o];rfl
    go_wp2_with fail;go_ret;exact⟨rfl,HB3.o.on HBR.o⟩
 ·obtain rfl:R=false:=by rw[<-HRS.o];exact sameO_names (A:=obS m.cur) (B:=obS g.cur) (by rw[HE1.o,HE2.o];exact hne)
  rw[Qp hne];clear hne;go_wp2_with fail;go_ret;exact⟨rfl,HB3.o⟩
theorem MoB.odM{W:Wd}{X:Nat}{m:Mo Bk}(h:MoB W X m):OdM W X:=by
 obtain⟨M,b,a,c,ps,h1,_⟩:=h;exact h1.odM dE dE dE
end Go.Proofs.YtphfgbbbejloaaaGreatDoor
