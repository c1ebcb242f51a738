/- package command: Valid. Conditions: as each theorem says. -/
import Derived.Test.YtphfgbbbejloaaaGreatDoorMeCp
set_option linter.unusedSimpArgs false
set_option linter.unusedVariables false
set_option linter.unusedSectionVars false
set_option maxRecDepth 100000
set_option maxHeartbeats 16000000
namespace Go.Proofs.YtphfgbbbejloaaaGreatDoor
open Go.RowKit Go.Maps
open Go.Proofs.Tryz
variable[Gst]
theorem KA{P:Prop}(h:P:=by
  exact⟨rfl,bL⟩
  ):P:=h
theorem Kz{P:Prop}(h:P:=by
  go_wp2_with fail;go_ret;exact⟨aU (by rw[HQ.o];simp),HV.o.g⟩
  ):P:=h
theorem aDz{P:Prop}(h:P:=by
  go_wp2_with fail;go_ret;exact⟨aU (by rw[HQ.o];rfl),HV.o.g⟩
  ):P:=h
theorem aDy{P:Prop}(h:P:=by
  have h16b:decide (n<=16)=false:=Qp h16;go_wp2_with fail;go_ret;exact⟨aU (by rw[HQ.o,h16b];simp),HV.o.g⟩
  ):P:=h
theorem MN(c:Cmd Bk)(a:OA)(k:Nat)(w:Wd):ep 70 #[cmV c a k] w (RB w (cmV (RJ c) none 0)):=by
 obtain⟨tag,kd,ao,af,vol,oth,p,n,data⟩:=c;unfold cmV RJ;simp only[List.length_nil];generalize data.length=m;go_enter func70,ntmps70;go_wp2_with fail;refine Yg (v:= .agg #[tag,kd,ao,false,nmV [],nmV [],oo,oo,sn]) (by first|(rw[mP rfl];go_simp;done)|(rw[results_cell_tmp rfl];go_simp;done)) rfl ?_;exact KA
def vE(tag ao:Int):Prop:=0<=tag/\tag<2147483648/\(ao=0∨ao=1)
theorem DU{c:Cmd Bk}(h:vE c.tag c.ao):c.valid=c.aJj:=by
 unfold Cmd.valid;rw[Qo (show 0<=c.tag/\c.tag<2147483648 from⟨h.1,h.2.1⟩),Qo h.2.2];rfl
theorem Gp{c:Cmd Bk}(h:¬ vE c.tag c.ao):c.valid=false:=by
 cases hv:c.valid
 ·rfl
 ·unfold Cmd.valid at hv;simp only[Qd,Qc]at hv;exact absurd ⟨hv.1.1,hv.1.2,hv.2.1⟩ h
theorem QA(tag kd ao:Int)(af:Bool)(vol oth:LU)(p n:Int)(m:Nat)(a:OA)(k:Nat)(w:Wd)(h:¬ vE tag ao):
  ep 40 #[.agg #[tag,kd,ao,.bool af,nmV vol,nmV oth,p,n,.slice a m k]] w (RB w false):=by
 have hc:tag<0∨(0<=tag/\2147483647<tag)∨(0<=tag/\tag<=2147483647/\ ¬ao=0/\ ¬ao=1):=by unfold vE at h;omega
 clear h;rcases hc with h1|⟨h1,h2⟩|⟨h1,h2,h3,h4⟩
 ·go_enter func40,ntmps40;go_wp2;go_ret;exact KA
 ·go_enter func40,ntmps40;go_wp2;go_ret;exact KA
 ·have h5:(ao != 0)=true:=by simpa using h3
  have h6:(ao != 1)=true:=by simpa using h4
  go_enter func40,ntmps40;go_wp2;go_ret;exact KA
structure VB(w W:Wd)(T U:Nat)(c d:Cmd Bk)(a b:OA)(k k2:Nat):Prop where
 c:CB W T c a k
 u:CB W U d b k2
 f:∀i,W.frozen? (cw U i)=false
 ne:T<U
 le:w.heap.size<=T
 g:Below w w W
theorem VB.aIx{w W W':Wd}{T U:Nat}{c d:Cmd Bk}{a b:OA}{k k2:Nat}(h:VB w W T U c d a b k k2)(hb:Below W W W'):VB w W' T U c d a b k k2:=
 ⟨h.c.aIx hb,h.u.aIx hb,λi=>by
  have hlt:U<W.heap.size:=h.u.lt;have:=hb.block U hlt
  exact(World.frozen?_of_block this).trans (h.f i),h.ne,h.le,h.g.on hb⟩
theorem VB.init(w w1:Wd)(c:Cmd Bk)(a:OA)(k:Nat)(t:TypeId)(hb:Below (w.alloc (.cells (bB c a k) t)).heap.size (w.alloc (.cells (bB c a k) t)) w1)(d:Cmd Bk)(b:OA)(k2:Nat):VB w (w1.alloc (.cells (bB d b k2) t)) w w1 c d a b k k2:=by
 have h1:=(CB.new w _ rfl c a k t).aIx hb;have hk:=(bQ w1).aIw (.cells (bB d b k2) t);refine⟨h1.aIx hk,CB.new w1 _ rfl d b k2 t,λi=>by simp,h1.lt,Ye _,((((bQ w).aIw _).on hb).on hk)⟩
section
variable{w W:Wd}{T U:Nat}{c:Cmd Bk}{tag kd ao:Int}{af:Bool}{vol oth:LU}{p n:Int}{data:List Bk}{a b:OA}{k k2:Nat}
theorem VB.set(h:VB w W T U c ⟨tag,kd,ao,af,vol,oth,p,n,data⟩ a b k k2)(i:Nat)(u:Value){d:Cmd Bk}{b2:OA}{k3:Nat}(hd:CB (W.setCell (cw U i) u) U d b2 k3):VB w (W.setCell (cw U i) u) T U c d a b2 k k3:=
 ⟨h.c.far (by have:=h.ne;omega),hd,λj=>by rw[Qb];exact h.f j,h.ne,h.le,h.g.setCell (by have:=h.ne;have:=h.le;simp only;omega) _⟩
theorem bA{j i:Nat}{u v:Value}(hj:j≠i)(hc:W (cw U j)=some v):(W.setCell (cw U i) u).cell? (cw U j)=some v:=(Qk _ _ _ _ (λe=>by injection e with _ e;exact hj e.symm)).trans hc
theorem VB.p3(h:VB w W T U c ⟨tag,kd,ao,af,vol,oth,p,n,data⟩ a b k k2)(x:Bool):VB w (W.setCell (cw U 3) (.bool x)) T U c ⟨tag,kd,ao,x,vol,oth,p,n,data⟩ a b k k2:=
 h.set _ _ ⟨bA oM h.u.c0,bA oM h.u.c1,bA oM h.u.c2,Qi _ _ _ h.u.c3,bA oM h.u.c4,bA oM h.u.c5,bA oM h.u.c6,bA oM h.u.c7,bA oM h.u.c8⟩
theorem VB.p5(h:VB w W T U c ⟨tag,kd,ao,af,vol,oth,p,n,data⟩ a b k k2)(x:LU):VB w (W.setCell (cw U 5) (nmV x)) T U c ⟨tag,kd,ao,af,vol,x,p,n,data⟩ a b k k2:=
 h.set _ _ ⟨bA oM h.u.c0,bA oM h.u.c1,bA oM h.u.c2,bA oM h.u.c3,bA oM h.u.c4,Qi _ _ _ h.u.c5,bA oM h.u.c6,bA oM h.u.c7,bA oM h.u.c8⟩
theorem VB.p6(h:VB w W T U c ⟨tag,kd,ao,af,vol,oth,p,n,data⟩ a b k k2)(x:Int):VB w (W.setCell (cw U 6) x) T U c ⟨tag,kd,ao,af,vol,oth,x,n,data⟩ a b k k2:=
 h.set _ _ ⟨bA oM h.u.c0,bA oM h.u.c1,bA oM h.u.c2,bA oM h.u.c3,bA oM h.u.c4,bA oM h.u.c5,Qi _ _ _ h.u.c6,bA oM h.u.c7,bA oM h.u.c8⟩
theorem VB.p7(h:VB w W T U c ⟨tag,kd,ao,af,vol,oth,p,n,data⟩ a b k k2)(x:Int):VB w (W.setCell (cw U 7) x) T U c ⟨tag,kd,ao,af,vol,oth,p,x,data⟩ a b k k2:=
 h.set _ _ ⟨bA oM h.u.c0,bA oM h.u.c1,bA oM h.u.c2,bA oM h.u.c3,bA oM h.u.c4,bA oM h.u.c5,bA oM h.u.c6,Qi _ _ _ h.u.c7,bA oM h.u.c8⟩
theorem VB.p8(h:VB w W T U c ⟨tag,kd,ao,af,vol,oth,p,n,data⟩ a b k k2)(D:List Bk)(b2:OA)(k3:Nat):VB w (W.setCell (cw U 8) (.slice b2 D k3)) T U c ⟨tag,kd,ao,af,vol,oth,p,n,D⟩ a b2 k k3:=
 h.set _ _ ⟨bA oM h.u.c0,bA oM h.u.c1,bA oM h.u.c2,bA oM h.u.c3,bA oM h.u.c4,bA oM h.u.c5,bA oM h.u.c6,bA oM h.u.c7,Qi _ _ _ h.u.c8⟩
end
theorem Px{c:Cmd Bk}(k:c.kd=1):c.aJj=(bC c.vol&&((c.oth.isEmpty&&c.data.isEmpty)&&(!c.af&&(lK c.p c.n&&decide (c.n<=16))))):=by unfold Cmd.aJj;rw[Qf k];rfl
theorem XX{c:Cmd Bk}(k:c.kd=2):c.aJj=(bC c.vol&&(c.oth.isEmpty&&(lK c.p c.n&&(decide (c.n<=16)&&decide ((c.data.length:Int)=c.n))))):=by
 unfold Cmd.aJj;rw[Qe oM,Qf k];congr 3;rw[Qw];simp
theorem XW{c:Cmd Bk}(k:c.kd=3):c.aJj=(bC c.vol&&((c.oth.isEmpty&&c.data.isEmpty)&&lK c.p c.n)):=by
 unfold Cmd.aJj;rw[Qe oM,Qe oM,Qf k];rfl
theorem XU{c:Cmd Bk}(k:c.kd=5):c.aJj=(bC c.vol&&((c.oth.isEmpty&&c.data.isEmpty)&&(!c.af&&decide (1<=c.n/\c.n<=65536/\0<=c.p/\c.p<=c.n)))):=by
 unfold Cmd.aJj;rw[Qe oM,Qe oM,Qe oM,Qe oM,Qf k];rfl
theorem XR{c:Cmd Bk}(k:c.kd=7):c.aJj=(bC c.vol&&((c.oth.isEmpty&&c.data.isEmpty)&&(!c.af&&decide (c.p=0/\c.n=0)))):=by
 unfold Cmd.aJj;rw[Qe oM,Qe oM,Qe oM,Qe oM,Qe oM,Qe oM,Qf k];rfl
theorem XV{c:Cmd Bk}(k:c.kd=4):c.aJj=(c.vol.isEmpty&&((c.oth.isEmpty&&c.data.isEmpty)&&(!c.af&&decide (c.p=0/\c.n=0)))):=by
 unfold Cmd.aJj;rw[Qe oM,Qe oM,Qe oM,Qf k];rfl
theorem XT{c:Cmd Bk}(k:c.kd=6):c.aJj=(bC c.vol&&(bC c.oth&&(!(c.oth==c.vol)&&(c.data.isEmpty&&(!c.af&&decide (c.p=0/\c.n=0)))))):=by
 unfold Cmd.aJj;rw[Qe oM,Qe oM,Qe oM,Qe oM,Qe oM,Qf k];rfl
theorem Zp(tag kd ao:Int)(af:Bool)(vol oth:LU)(p n:Int)(data:List Bk)(a:OA)(k:Nat)(w:Wd)(h:vE tag ao)(hf:tN ⟨tag,kd,ao,af,vol,oth,p,n,data⟩)(hd:RdB w a data)(hk:1<=kd/\kd<=7)(q:Bool)(hq:Cmd.aJj (⟨tag,kd,ao,af,vol,oth,p,n,data⟩:Cmd Bk)=q):
  ep 40 #[.agg #[tag,kd,ao,.bool af,nmV vol,nmV oth,p,n,.slice a data k]] w (RB w (.bool q)):=by
 have hON:=hD (λW=>MN ⟨tag,kd,ao,af,vol,oth,p,n,data⟩ a k W);have hNM:=hD (λW=>EZ vol W hf.vol);have HIN:=hD (λW=>QL p n W hf.p hf.n);have HIO:=hD (λW=>EZ oth W hf.oth);have HD:=hD hd;obtain⟨h1,h2,h3⟩:=h;obtain⟨nb,hnb⟩:∃b,bC vol=b:=⟨_,rfl⟩;obtain⟨ob,hob⟩:∃b,bC oth=b:=⟨_,rfl⟩;obtain⟨ib,hib⟩:∃b,lK p n=b:=⟨_,rfl⟩;obtain⟨xb,hxb⟩:∃b,(oth==vol)=b:=⟨_,rfl⟩;rw[hnb]at hNM;rw[hob]at HIO;rw[hib]at HIN;have h2':¬ (2147483647:Int)<tag:=oM
 have h1':¬ tag<0:=oM
 have hoo:(ao != 0)=false∨((ao != 0)=true/\(ao != 1)=false):=by rcases h3 with rfl|rfl <;> simp
 have HQ0:=hD hq;have HEQ:Hid (bC vol=nb/\bC oth=ob/\lK p n=ib/\(oth==vol)=xb):=hD ⟨hnb,hob,hib,hxb⟩;have HK:Hid (kd=1∨kd=2∨kd=3∨kd=5∨kd=7∨kd=4∨kd=6):=hD oM;have HXB:=hD hxb;clear hf hd hnb hob hib hxb h1 h2 h3 hq hk;rcases hoo with ho0|⟨ho0,ho1⟩
 all_goals
  go_enter func40,ntmps40;go_wp2_with fail;refine(hON.o _).m ?_;rintro e w1 ⟨rfl,hb⟩;unfold RJ;simp only[List.length_nil];have HV1:=hD (VB.init w w1 ⟨tag,kd,ao,af,vol,oth,p,n,data⟩ a k 48 hb ⟨tag,kd,ao,false,[],[],0,0,[]⟩ none 0);have HV2:=hD (VB.init w w1 ⟨tag,kd,ao,af,vol,oth,p,n,data⟩ a k 48 hb ⟨tag,kd,ao,false,vol,[],0,0,[]⟩ none 0);have c4:=HV1.o.c.c4;have d4:=HV2.o.c.c4;simp only[bB,List.length_nil]at c4 d4;clear hb hON;go_wp2_with fail;refine(hNM.o _).m ?_;rintro e w2 ⟨rfl,hb⟩;have HV:=hD (HV2.o.aIx hb);clear hb HV1 HV2 c4 d4 hNM;generalize w1.heap.size=U at *;generalize w.heap.size=T at HV ⊢;obtain⟨c0,c1,c2,c3,c4,c5,c6,c7,c8⟩:=HV.o.c;obtain⟨u0,u1,u2,u3,u4,u5,u6,u7,u8⟩:=HV.o.u;have fz:=HV.o.f;have f3:=fz 3;have f5:=fz 5;have f6:=fz 6;have f7:=fz 7;have f8:=fz 8;have hne:=HV.o.ne;simp only at c0 c1 c2 c3 c4 c5 c6 c7 c8 u0 u1 u2 u3 u4 u5 u6 u7 u8;rcases HK.o with rfl|rfl|rfl|rfl|rfl|rfl|rfl
  all_goals
   have hq:=HQ0.o
   first|rw[Px rfl]at hq|rw[XX rfl]at hq|rw[XW rfl]at hq|rw[XV rfl]at hq|rw[XU rfl]at hq|rw[XT rfl]at hq|rw[XR rfl]at hq
   simp only[HEQ.o.1,HEQ.o.2.1,HEQ.o.2.2.1,HEQ.o.2.2.2]at hq;have HQ:=hD hq.symm;clear hq HQ0 HEQ HK
  ·as_aux_lemma=>
   go_wp2_with fail
   go_region
   have HV:=hD ((((HV.o.p6 p).p7 n)).aIx bR.drew);clear c0 c1 c2 c3 c4 c5 c6 c7 c8 u0 u1 u2 u3 u4 u5 u6 u7 u8 fz f3 f5 f6 f7 f8 hne;generalize (((w2.setCell (cw U 6) p).setCell (cw U 7) n)).drew=w3 at *;obtain⟨c0,c1,c2,c3,c4,c5,c6,c7,c8⟩:=HV.o.c;obtain⟨u0,u1,u2,u3,u4,u5,u6,u7,u8⟩:=HV.o.u;have fz:=HV.o.f;have f3:=fz 3;have f5:=fz 5;have f6:=fz 6;have f7:=fz 7;have f8:=fz 8;have hne:=HV.o.ne;simp only at c0 c1 c2 c3 c4 c5 c6 c7 c8 u0 u1 u2 u3 u4 u5 u6 u7 u8;cases nb
   ·exact aDz
   ·go_wp2_with fail;refine(HIN.o _).m ?_;rintro e w4 ⟨rfl,rfl⟩;cases ib
    ·exact Kz
    ·by_cases h16:n<=16
     ·have h16b:decide (n<=16)=true:=Qo h16;go_wp2_with fail;refine(qQ tag 1 ao af false vol oth [] p n p n data [] a none k 0 _ (HD.o.keep HV.o.g) ⟨sM,.inl rfl⟩).m ?_;rintro e w5 ⟨rfl,hb⟩;have HB:=hD (HV.o.g.on hb);clear hb;clear c0 c1 c2 c3 c4 c5 c6 c7 c8 u0 u1 u2 u3 u4 u5 u6 u7 u8 fz f3 f5 f6 f7 f8 hne;go_wp2_with fail;go_ret;exact⟨aU (by rw[HQ.o,h16b];unfold vQ;cases data <;> cases af <;> cases oth <;> simp),HB.o⟩
     ·exact aDy
  ·as_aux_lemma=>
   go_wp2_with fail
   go_region
   have HV:=hD ((((((HV.o.p6 p).p7 n).p8 data a k).p3 af)).aIx bR.drew);clear c0 c1 c2 c3 c4 c5 c6 c7 c8 u0 u1 u2 u3 u4 u5 u6 u7 u8 fz f3 f5 f6 f7 f8 hne;generalize (((((w2.setCell (cw U 6) p).setCell (cw U 7) n).setCell (cw U 8) (.slice a data k)).setCell (cw U 3) (.bool af))).drew=w3 at *;obtain⟨c0,c1,c2,c3,c4,c5,c6,c7,c8⟩:=HV.o.c;obtain⟨u0,u1,u2,u3,u4,u5,u6,u7,u8⟩:=HV.o.u;have fz:=HV.o.f;have f3:=fz 3;have f5:=fz 5;have f6:=fz 6;have f7:=fz 7;have f8:=fz 8;have hne:=HV.o.ne;simp only at c0 c1 c2 c3 c4 c5 c6 c7 c8 u0 u1 u2 u3 u4 u5 u6 u7 u8;cases nb
   ·exact aDz
   ·go_wp2_with fail;refine(HIN.o _).m ?_;rintro e w4 ⟨rfl,rfl⟩;cases ib
    ·exact Kz
    ·by_cases h16:n<=16
     ·have h16b:decide (n<=16)=true:=Qo h16;cases hln:((data.length:Int)==n)
      ·have HLN:=hD hln;go_wp2_with fail;go_ret;exact⟨aU (by rw[HQ.o,h16b];have:=HLN.o;simp at this;simp[this]),HV.o.g⟩
      ·have HLN:=hD hln;go_wp2_with fail;refine(qQ tag 2 ao af af vol oth [] p n p n data data a a k k _ (HD.o.keep HV.o.g) (HD.o.keep HV.o.g)).m ?_;rintro e w5 ⟨rfl,hb⟩;have HB:=hD (HV.o.g.on hb);clear hb;clear c0 c1 c2 c3 c4 c5 c6 c7 c8 u0 u1 u2 u3 u4 u5 u6 u7 u8 fz f3 f5 f6 f7 f8 hne;go_wp2_with fail;go_ret;exact⟨aU (by rw[HQ.o,h16b];have:=HLN.o;simp at this;unfold vQ;cases oth <;> simp[this]),HB.o⟩
     ·exact aDy
  ·as_aux_lemma=>
   go_wp2_with fail
   go_region
   have HV:=hD (((((HV.o.p6 p).p7 n).p3 af)).aIx bR.drew);clear c0 c1 c2 c3 c4 c5 c6 c7 c8 u0 u1 u2 u3 u4 u5 u6 u7 u8 fz f3 f5 f6 f7 f8 hne;generalize ((((w2.setCell (cw U 6) p).setCell (cw U 7) n).setCell (cw U 3) (.bool af))).drew=w3 at *;obtain⟨c0,c1,c2,c3,c4,c5,c6,c7,c8⟩:=HV.o.c;obtain⟨u0,u1,u2,u3,u4,u5,u6,u7,u8⟩:=HV.o.u;have fz:=HV.o.f;have f3:=fz 3;have f5:=fz 5;have f6:=fz 6;have f7:=fz 7;have f8:=fz 8;have hne:=HV.o.ne;simp only at c0 c1 c2 c3 c4 c5 c6 c7 c8 u0 u1 u2 u3 u4 u5 u6 u7 u8;cases nb
   ·exact aDz
   ·go_wp2_with fail;refine(HIN.o _).m ?_;rintro e w4 ⟨rfl,rfl⟩;cases ib
    ·exact Kz
    ·go_wp2_with fail;refine(qQ tag 3 ao af af vol oth [] p n p n data [] a none k 0 _ (HD.o.keep HV.o.g) ⟨sM,.inl rfl⟩).m ?_;rintro e w5 ⟨rfl,hb⟩;have HB:=hD (HV.o.g.on hb);clear hb;clear c0 c1 c2 c3 c4 c5 c6 c7 c8 u0 u1 u2 u3 u4 u5 u6 u7 u8 fz f3 f5 f6 f7 f8 hne;go_wp2_with fail;go_ret;exact⟨aU (by rw[HQ.o];unfold vQ;cases data <;> cases oth <;> simp),HB.o⟩
  ·as_aux_lemma=>
   go_wp2_with fail
   go_region
   have HV:=hD ((((HV.o.p6 p).p7 n)).aIx bR.drew);clear c0 c1 c2 c3 c4 c5 c6 c7 c8 u0 u1 u2 u3 u4 u5 u6 u7 u8 fz f3 f5 f6 f7 f8 hne;generalize (((w2.setCell (cw U 6) p).setCell (cw U 7) n)).drew=w3 at *;obtain⟨c0,c1,c2,c3,c4,c5,c6,c7,c8⟩:=HV.o.c;obtain⟨u0,u1,u2,u3,u4,u5,u6,u7,u8⟩:=HV.o.u;have fz:=HV.o.f;have f3:=fz 3;have f5:=fz 5;have f6:=fz 6;have f7:=fz 7;have f8:=fz 8;have hne:=HV.o.ne;simp only at c0 c1 c2 c3 c4 c5 c6 c7 c8 u0 u1 u2 u3 u4 u5 u6 u7 u8;cases nb
   ·exact aDz
   ·have hcs:(1<=n/\n<=65536/\0<=p/\p<=n)∨(¬1<=n)∨(1<=n/\ ¬n<=65536)∨(1<=n/\n<=65536/\ ¬0<=p)∨(1<=n/\n<=65536/\0<=p/\ ¬p<=n):=oM
    rcases hcs with ⟨g1,g2,g3,g4⟩|g1|⟨g1,g2⟩|⟨g1,g2,g3⟩|⟨g1,g2,g3,g4⟩
    ·go_wp2_with fail;refine(qQ tag 5 ao af false vol oth [] p n p n data [] a none k 0 _ (HD.o.keep HV.o.g) ⟨sM,.inl rfl⟩).m ?_;rintro e w5 ⟨rfl,hb⟩;have HB:=hD (HV.o.g.on hb);clear hb;clear c0 c1 c2 c3 c4 c5 c6 c7 c8 u0 u1 u2 u3 u4 u5 u6 u7 u8 fz f3 f5 f6 f7 f8 hne;go_wp2_with fail;go_ret;exact⟨aU (by rw[HQ.o,Qo (show 1<=n/\n<=65536/\0<=p/\p<=n from⟨g1,g2,g3,g4⟩)];unfold vQ;cases data <;> cases af <;> cases oth <;> simp),HB.o⟩
    all_goals
     go_wp2_with fail;go_ret;exact⟨aU (by rw[HQ.o,Qp (show ¬(1<=n/\n<=65536/\0<=p/\p<=n) by omega)];simp),HV.o.g⟩
  ·as_aux_lemma=>
   cases nb
   ·exact aDz
   ·go_wp2_with fail;refine(qQ tag 7 ao af false vol oth [] p n 0 0 data [] a none k 0 _ (HD.o.keep HV.o.g) ⟨sM,.inl rfl⟩).m ?_;rintro e w5 ⟨rfl,hb⟩;have HB:=hD (HV.o.g.on hb);clear hb;clear c0 c1 c2 c3 c4 c5 c6 c7 c8 u0 u1 u2 u3 u4 u5 u6 u7 u8 fz f3 f5 f6 f7 f8 hne;go_wp2_with fail;go_ret;exact⟨aU (by rw[HQ.o];unfold vQ;cases data <;> cases af <;> cases oth <;> simp),HB.o⟩
  ·as_aux_lemma=>
   have hl1:(ByteArray.mk vol.toArray).toList=vol:=by rw[Yx]
   have hl2:(ByteArray.mk #[]).toList=[]:=by rw[Yx]
   cases hve:vol.isEmpty
   ·go_wp2_with fail;go_ret;exact⟨aU (by rw[HQ.o,hve];rfl),HV.o.g⟩
   ·go_wp2_with fail;refine(qQ tag 4 ao af false vol oth [] p n 0 0 data [] a none k 0 _ (HD.o.keep HV.o.g) ⟨sM,.inl rfl⟩).m ?_;rintro e w5 ⟨rfl,hb⟩;have HB:=hD (HV.o.g.on hb);clear hb;clear c0 c1 c2 c3 c4 c5 c6 c7 c8 u0 u1 u2 u3 u4 u5 u6 u7 u8 fz f3 f5 f6 f7 f8 hne;go_wp2_with fail;go_ret;exact⟨aU (by rw[HQ.o,hve];unfold vQ;cases data <;> cases af <;> cases oth <;> simp),HB.o⟩
  ·as_aux_lemma=>
   cases nb
   ·go_wp2_with fail;go_ret;exact⟨aU (by rw[HQ.o];rfl),(HV.o.p5 oth).g⟩
   ·go_wp2_with fail;have HV:=hD (HV.o.p5 oth);clear c0 c1 c2 c3 c4 c5 c6 c7 c8 u0 u1 u2 u3 u4 u5 u6 u7 u8 fz f3 f5 f6 f7 f8 hne;generalize w2.setCell (cw U 5) (.string ⟨oth.toArray⟩)=w3 at *;refine(HIO.o _).m ?_;rintro e w4 ⟨rfl,hb⟩;have HV:=hD (HV.o.aIx hb);clear hb;obtain⟨c0,c1,c2,c3,c4,c5,c6,c7,c8⟩:=HV.o.c;obtain⟨u0,u1,u2,u3,u4,u5,u6,u7,u8⟩:=HV.o.u;have fz:=HV.o.f;have f3:=fz 3;have f5:=fz 5;have f6:=fz 6;have f7:=fz 7;have f8:=fz 8;have hne:=HV.o.ne;simp only at c0 c1 c2 c3 c4 c5 c6 c7 c8 u0 u1 u2 u3 u4 u5 u6 u7 u8;cases ob
    ·exact Kz
    ·have hxb:=HXB.o;cases xb
     ·go_wp2_with fail;refine(qQ tag 6 ao af false vol oth oth p n 0 0 data [] a none k 0 _ (HD.o.keep HV.o.g) ⟨sM,.inl rfl⟩).m ?_;rintro e w5 ⟨rfl,hb⟩;have HB:=hD (HV.o.g.on hb);clear hb;clear c0 c1 c2 c3 c4 c5 c6 c7 c8 u0 u1 u2 u3 u4 u5 u6 u7 u8 fz f3 f5 f6 f7 f8 hne;go_wp2_with fail;go_ret;exact⟨aU (by rw[HQ.o];unfold vQ;cases data <;> cases af <;> simp),HB.o⟩
     ·exact Kz
theorem Zo(tag kd ao:Int)(af:Bool)(vol oth:LU)(p n:Int)(data:List Bk)(a:OA)(k:Nat)(w:Wd)(h:vE tag ao)(hf:tN ⟨tag,kd,ao,af,vol,oth,p,n,data⟩)(hk:¬ (1<=kd/\kd<=7)):
  ep 40 #[.agg #[tag,kd,ao,.bool af,nmV vol,nmV oth,p,n,.slice a data k]] w (RB w false):=by
 have hON:=hD (λW=>MN ⟨tag,kd,ao,af,vol,oth,p,n,data⟩ a k W);have hNM:=hD (λW=>EZ vol W hf.vol);obtain⟨nb,hnb⟩:∃b,bC vol=b:=⟨_,rfl⟩;rw[hnb]at hNM;obtain⟨h1,h2,h3⟩:=h;have h2':¬ (2147483647:Int)<tag:=oM
 have h1':¬ tag<0:=oM
 have hoo:(ao != 0)=false∨((ao != 0)=true/\(ao != 1)=false):=by rcases h3 with rfl|rfl <;> simp
 have e1:(kd==1)=false:=by simp;omega
 have e2:(kd==2)=false:=by simp;omega
 have e3:(kd==3)=false:=by simp;omega
 have e4:(kd==4)=false:=by simp;omega
 have e5:(kd==5)=false:=by simp;omega
 have e6:(kd==6)=false:=by simp;omega
 have e7:(kd==7)=false:=by simp;omega
 clear hf hnb h1 h2 h3 hk;rcases hoo with ho0|⟨ho0,ho1⟩
 all_goals
  go_enter func40,ntmps40;go_wp2_with fail;refine(hON.o _).m ?_;rintro e w1 ⟨rfl,hb⟩;unfold RJ;simp only[List.length_nil];have HV1:=hD (VB.init w w1 ⟨tag,kd,ao,af,vol,oth,p,n,data⟩ a k 48 hb ⟨tag,kd,ao,false,[],[],0,0,[]⟩ none 0);have HV2:=hD (VB.init w w1 ⟨tag,kd,ao,af,vol,oth,p,n,data⟩ a k 48 hb ⟨tag,kd,ao,false,vol,[],0,0,[]⟩ none 0);have c4:=HV1.o.c.c4;have d4:=HV2.o.c.c4;simp only[bB,List.length_nil]at c4 d4;clear hb hON;go_wp2_with fail;refine(hNM.o _).m ?_;rintro e w2 ⟨rfl,hb⟩;have HV:=hD (HV2.o.aIx hb);clear hb HV1 HV2 c4 d4 hNM;generalize w1.heap.size=U at *;generalize w.heap.size=T at HV ⊢;have c1:=HV.o.c.c1;simp only at c1;go_wp2_with fail;go_ret;exact⟨rfl,HV.o.g⟩
end Go.Proofs.YtphfgbbbejloaaaGreatDoor
