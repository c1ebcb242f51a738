/- tegulalaw48: a copy of a model; permitted writes to reserved volumes. Conditions: as each theorem says. -/
import Derived.Test.YtphfgbbbejloaaaGreatDoorMgD
set_option linter.unusedSimpArgs false
set_option linter.unusedVariables false
set_option maxRecDepth 100000
set_option maxHeartbeats 16000000
namespace Go.Proofs.YtphfgbbbejloaaaGreatDoor
open Go.RowKit Go.Maps
open Go.Proofs.Tryz
theorem sh176 {P:Prop} (h:P:=by have:=HY.o;omega):P:=h
theorem sh175 {P:Prop} (h:P:=by
  refine hK.out _ _ H.o.nm (fun hHeld=> ?_);clear hK K
  try simp only[Act.put,sp]
  exact rv1a
  ):P:=h
theorem write_claim {F:Fam} {nm:LU} {p n:Int} (h:(jP F nm p n).2=0) (hc:(jP F nm p n).1<=(gQ F nm).1):fM F nm p n=0:=by
 unfold fM iL;rw[Qf h,Qe];omega
theorem need_claim {F:Fam} (hF:F.ok) {v:Vol} (hv:aN F.vs v.nm=some v) (p n:Nat) (hb:((p+n:Nat):Int)<=v.n) (hr:v.r=v.n):jN F.C v.l p n<=aY F.C v:=by
 have hk:=hF.vol v (aC hv).1;have h1:=hk.n1;have hs:=nG hF (aC hv).1;obtain⟨m,hm⟩:∃ m,v.n.toNat=p+n+m:=⟨v.n.toNat-(p+n),oM⟩;rw[hm,qU,qU]at hs;have e1:=iX (fun j:Nat=>exB F.C v.l j) p;have e2:=iX (fun j:Nat=>exB F.C v.l ((p+n+j:Nat):Int)) m;unfold aY jN;omega
theorem reserved_plan {F:Fam} (hF:F.ok) {v:Vol} (hv:aN F.vs v.nm=some v) (p n:Nat) (h1:1<=n) (h16:n<=16) (hb:((p+n:Nat):Int)<=v.n) (hr:v.r=v.n):jO F v.nm p n=0:=by
 have hn:=qM hF hv p n hb;have hc:=need_claim hF hv p n hb hr;have hcl:(gQ F v.nm).1=aY F.C v:=by unfold gQ;rw[hv]
 have hw:fM F v.nm p n=0:=write_claim (by rw[hn]) (by rw[hn,hcl];exact hc);unfold jO;have hi:(dW F v.nm).2=0:=by unfold dW;rw[hv]
 rw[Qf hi,Qf oM,hw]
open Go.Shelf
theorem mmcopy_is (X:Nat) (m:Mo Bk) (w:Wd) (hm:MoB w X m) (hl:m.past.length<=10000):
  ep 22 #[.pointer (cw X 0)] w fun e w'=>∃ X2,e= .returned (.pointer (cw X2 0))/\MoB w' X2 m/\w.heap.size<=X2/\Below w w w':=by
 obtain⟨M,b,pa,pc,ps,hb3,hst,hpa,hlp,hpp⟩:=hm;have hpl:ps.length<=1000000:=by rw[<-hpp,Yy]at hl;omega
 have HBd:=hD (bQ w).drew;have m0:=HBd.o.keep hb3.c0;have m1:=HBd.o.keep hb3.c1;have m2:=HBd.o.keep hb3.c2;have HPA:=hD (hpa.keep HBd.o);have HB3:=hD hb3;have FIN:=hD (fun(w3:Wd) (v:Value) (hb:Below w w w3) (ho:gW w3 w v ps)=>show ∃a c,v= .slice a ps c/\MoB (w3.alloc (cq #[.pointer (cw M 0),.map (some b),.slice a ps c] 90)) w3 m/\Below w w (w3.alloc (cq #[.pointer (cw M 0),.map (some b),.slice a ps c] 90)) from by
  obtain⟨a,c,rfl,hr⟩:=ho.rd hpl;have hk:=(bQ w3).aIw (cq #[.pointer (cw M 0),.map (some b),.slice a ps c] 90)
  exact⟨a,c,rfl,⟨M,b,a,c,ps,Bx3.new _ _ rfl _ _ _ _,(hst.aIx hb).aIx hk,hr.keep hk,(hlp.keep hb).keep hk,hpp⟩,hb.aIw _⟩)
 clear hst hpa hlp hpp hb3 hl hpl;go_enter func22,ntmps22;go_wp2_with fail
 go_region_law (first
  |(go_simp;go_at_call 43;(with_reducible refine(Iw ps pa pc _ HPA.o).m ?_);rintro e w3 ⟨v,rfl,ho,hb⟩;obtain⟨a,c,rfl,hM,hB⟩:=FIN.o w3 v (HBd.o.on hb) ho;have HM:=hD hM;have HB:=hD hB;have hb9:=HBd.o.on hb;have HS:=hD hb9.size;have m3:=hb9.keep HB3.o.c0;have m4:=hb9.keep HB3.o.c1;clear ho hb hb9 hM hB))
 all_goals
  go_wp2_with fail;go_ret;exact⟨_,rfl,HM.o,HS.o,HB.o⟩
section
open Go.Deep
theorem list2 {l:List Value} (h:l.length=2):∃ c0 c1,l=[c0,c1]:=by
 match l,h with
 | [c0,c1],_=>exact⟨c0,c1,rfl⟩
theorem open_a2 {H:Type} {enc:TypeId × Value->H} {w:Wd} {r:Reach} {b0:Nat} {v:Value} {d:DataW H} {p:List MemPlace} (hv:Value.okWide prog w r b0 60 v) (h:DataW.Trod enc prog w 0 (fun _=>true) true 60 v d p):
  ∃x y:Nat,v= .agg #[.int .u8 x,.int .u8 y]/\x<=255/\y<=255:=by
 obtain ⟨cs,rfl,hsz,_⟩:∃ cs,v= .agg cs/\cs.size=prog.cellsOf 60/\Row.okWide prog w r b0 60 cs:=by
  simpa [Value.okWide,underlying60]using hv
 obtain⟨fuel,hf⟩:=h;rw[show prog.cellsOf 60=2 by kernel_rfl]at hsz;obtain⟨l⟩:=cs;obtain⟨v0,v1,rfl⟩:=list2 hsz;have hce:prog.cellsOf 5=1:=kR
 obtain ⟨xs,m,_,_,_,hl,hel⟩:=DataW.trod_array underlying60 hf;have one:∀ i,i<2-> ∃n:Nat,n<=255/\(([v0,v1]:List Value).drop i).take 1=[.int .u8 n]:=fun i hi=>by
  have e0:=hel i hi;rw[hce,Nat.mul_one,Qa oM]at e0;obtain⟨n,k,_,wf⟩:=DataW.trod_int underlying5 e0;have b:=bounds_u8 wf;obtain⟨q,rfl⟩:=Qr b.1;exact⟨q,oM,k⟩
 obtain⟨n0,q0,k0⟩:=one 0 oM;obtain⟨n1,q1,k1⟩:=one 1 oM;simp at k0 k1;subst k0 k1;exact⟨n0,n1,rfl,q0,q1⟩
end
structure RvB4 (w W:Wd) (X:Nat) (m:Mo Bk) (T:Nat) (va:OA) (ts:List RT) (vc:Nat) (u0 u2 u3:Value) (b0 b1:Nat):Prop where
 mo:MoB W X m
 bx:Bx4 W T 34 u0 (.slice va ts vc) u2 u3
 row:RdR W va ts
 ab:Bx W w 60 (.int .u8 b0) (.int .u8 b1)
 g:Below w w W
theorem RvB4.aIx {w W W':Wd} {X:Nat} {m:Mo Bk} {T:Nat} {va:OA} {ts:List RT} {vc:Nat} {u0 u2 u3:Value} {b0 b1:Nat} (h:RvB4 w W X m T va ts vc u0 u2 u3 b0 b1) (hb:Below W W W'):RvB4 w W' X m T va ts vc u0 u2 u3 b0 b1:=
 ⟨h.mo.aIx hb,h.bx.aIx hb,h.row.keep hb,h.ab.aIx hb,h.g.on hb⟩
theorem rsv_apply (X:Nat) (m g:Mo Bk) (v:Vol) (x y:Nat) (a:OA) (w:Wd) (hm:MoB w X m) (fm:m.fine) (fg:g.fine) (hs:FL m g) (hpl:m.past.length<=10000) (hn:bC v.nm=true) (hv:aN g.cur.F.vs v.nm=some v) (hr:v.r=v.n) (h1:1<=y) (h16:y<=16) (hb:((x+y:Nat):Int)<=v.n) (hb2:v.n<=65536) (hd:RdB w a (List.replicate y Bk.zero)):
  ep 19 #[.pointer (cw X 0),.agg #[.int .i64 5,ow,oo,false,nmV v.nm,nmV [],x,y,.slice a y y]] w fun e w'=>∃ a3 k3,e= .returned (.agg #[.int .i64 5,oo,.slice a3 0 k3])/\w.grownBy w' (some X):=by
 obtain ⟨C,hC⟩:∃ C:Cmd Bk,C=⟨5,2,0,false,v.nm,[],x,y,List.replicate y Bk.zero⟩:=⟨_,rfl⟩;have hV:C.valid=true:=by
  rw[hC];unfold Cmd.valid Cmd.aJj lK;simp[hn];omega
 obtain ⟨σ,hσ⟩:=hs.cur;have hE:fE m.cur.F C=0:=by
  rw[<-wM hσ.a fm.cur.sound.ok fg.cur.sound.ok C,hC];exact reserved_plan fg.cur.sound.ok hv x y h1 h16 hb hr
 have hR:kW Bk.zero m.cur C=⟨5,0,[]⟩:=by
  unfold kW;rw[Qf hV,hE,hC];rfl
 have h:=yX X m C a y w hm fm hpl (by rw[hC];constructor <;> first|exact pU hn|exact Yf _|(unfold gJ;simp only;omega)) (by rw[hC];exact hd) (by rw[hC];intro e;simp at e);unfold JY at h;rw[hR,hC]at h;unfold cmV at h;simp only[Yt]at h;refine h.m ?_;rintro e w' ⟨a3,k3,_,rfl,_,_,_,hg⟩;exact⟨a3,k3,rfl,hg⟩
structure RvQ4 (wd W:Wd) (X:Nat) (m:Mo Bk) (T:Nat) (nm:LU) (y:Nat) (f:Bool) (o1 o7 o10:Option Nat):Prop where
 mo:f=true->MoB W X m
 nm:W (cw T 0)=some (nmV nm)
 cp:∀ x,o1=some x->MoB W x m/\wd.heap.size<=x
 rw:∀ g,o7=some g->RdB W (cw g 0) (List.replicate y Bk.zero)
 bx:∀ t,o10=some t->Bx3 W t 44 oo oo sn/\wd.heap.size<=t
 g:Below wd wd W
section
variable {wd W W':Wd} {X:Nat} {m:Mo Bk} {T:Nat} {nm:LU} {y:Nat} {f:Bool} {o1 o7 o10:Option Nat}
theorem RvQ4.aIx (h:RvQ4 wd W X m T nm y f o1 o7 o10) (hb:Below W W W'):RvQ4 wd W' X m T nm y f o1 o7 o10:=
 ⟨fun q=>(h.mo q).aIx hb,hb.keep h.nm,fun x q=>⟨(h.cp x q).1.aIx hb,(h.cp x q).2⟩,fun g q=>(h.rw g q).keep hb,fun t q=>⟨(h.bx t q).1.aIx hb,(h.bx t q).2⟩,h.g.on hb⟩
theorem RvQ4.copy (h:RvQ4 wd W X m T nm y f o1 o7 o10) {x:Nat} (hm:MoB W' x m) (hx:W.heap.size<=x) (hb:Below W W W'):RvQ4 wd W' X m T nm y f (some x) o7 o10:=
 have k:=h.aIx hb
 ⟨k.mo,k.nm,fun z e=>by cases e;exact⟨hm,Nat.le_trans h.g.size hx⟩,k.rw,k.bx,k.g⟩
theorem RvQ4.make (h:RvQ4 wd W X m T nm y f o1 o7 o10) {g:Nat} (hr:eZ W' W (.slice (cw g 0) y y) (List.replicate y Bk.zero)) (hy:y<=16) (hb:Below W W W'):RvQ4 wd W' X m T nm y f o1 (some g) o10:=
 have k:=h.aIx hb
 ⟨k.mo,k.nm,k.cp,fun z e=>by cases e;exact eZ.rdq hr pO,k.bx,k.g⟩
theorem RvQ4.box (h:RvQ4 wd W X m T nm y f o1 o7 o10):RvQ4 wd (W.alloc (cq #[oo,oo,sn] 44)) X m T nm y f o1 o7 (some W.heap.size):=
 have k:=h.aIx ((bQ W).aIw (cq #[oo,oo,sn] 44))
 ⟨k.mo,k.nm,k.cp,k.rw,fun z e=>by cases e;exact⟨Bx3.new W _ rfl _ _ _ _,h.g.size⟩,k.g⟩
theorem RvQ4.went {x:Nat} (h:RvQ4 wd W X m T nm y f (some x) o7 o10) (hg:W.grownBy W' (some x)) (hT:T<wd.heap.size):RvQ4 wd W' X m T nm y false none none o10:=by
 obtain⟨hm,hx⟩:=h.cp x rfl;obtain⟨_,_,_,_,_,hb3,_⟩:=hm;refine⟨fun q=>by simp at q,aA hg h.nm sO,fun z e=>by simp at e,fun z e=>by simp at e,fun t e=>⟨(h.bx t e).1.grown hg (fun q=> ?_),(h.bx t e).2⟩,h.g.aJa hg (fun j e=>by injection e with e;omega)⟩;injection q with q;subst q;exact hb3.ty.ne (h.bx _ e).1.ty dE rfl
end
theorem build_y {P:Program} {a:Act} {oi:Oper} (t:TypeId) (parts:Array (Nat × Operand)) (cells:Array Value) (w:Wd) (ho:oi.op= .build t parts) (h:P.built t (parts.toList.map fun(i,x)=>(i,a.eval x))=some cells):(execOp a.eval oi).run P w= .ok (.value (.agg cells)) w:=by
 unfold execOp;rw[<-Array.toList_map]at h;simp only[ho,Sem.run_bind,run_build w t _ cells h,Result.andThen_ok];rfl
theorem cmd_b1 (s:LU) (a:OA) (n c:Nat) (x y:Int):prog.built 48 [(0,.int .i64 5),(1,.int .i64 2),(4,nmV s),(6,.int .i64 x),(7,.int .i64 y),(8,.slice a n c)]=some #[.int .i64 5,.int .i64 2,.int .i64 0,.bool false,nmV s,nmV [],.int .i64 x,.int .i64 y,.slice a n c]:=kR
theorem rvEn {P:Prop} (h:P:=by
  have HY0:=hD (H.o.bx _ rfl);have h9:W3.heap.size<=T9:=by have:=HBd.o.size;have:=HY0.o.2;omega
  have HF:=hD ((((HBd.o.on H.o.g).setCell (p:=(cw T9 0)) h9 (.int .i64 5)).setCell (p:=(cw T9 1)) h9 oo).setCell (p:=(cw T9 2)) h9 (.slice a3 0 k3));clear h9;have HN12:=hD (aA (dY wq T9 (.int .i64 5) oo (.slice a3 0 k3)) H.o.nm (by have:=HXT.o;have:=HY0.o.2;simp only;omega));obtain⟨e0,e1,e2,e4,e5,e6,-⟩:=HY0.o.1;refine rdy 11 fun K hK=> ?_;go_simp;refine hK.out _ _ HN12.o (fun hHeld=> ?_);clear hK K
  try simp only[Act.put,sp]
  refine wpAnyH_done kR ?_ _;clear e0 e1 e2 e4 e5 e6 H;obtain⟨j0,j1,-⟩:=HY0.o.1.rep (.int .i64 5) oo (.slice a3 0 k3);clear HY0;obtain⟨hlt,h32⟩:=HNUM.o;go_wp2_with fail;go_roundw
  case rel=>exact⟨k+1,oM,by go_num,HF.o⟩
  case measure=>simp[intOf];omega):P:=h
theorem rv9n {P:Prop} (h:P:=by
  refine rdy 9 fun K hK=> ?_;go_simp;refine(rsv_apply X2 m g ⟨nm,nz,nz,l⟩ x y _ wq (H.o.cp _ rfl).1 HFM.o HFG.o HSIM.o HPL.o HNM.o HGV.o rfl HY.o.1 HY.o.2.1 HY.o.2.2.1 HY.o.2.2.2 (H.o.rw _ rfl)).m ?_;rintro e wq ⟨a3,k3,rfl,hgr⟩;replace H:=hD (H.o.went hgr HXT.o);clear hgr;refine hK.out _ _ H.o.nm (fun hHeld=> ?_);clear hK K
  try simp only[Act.put,sp]
  exact rvEn):P:=h
theorem rv17 {P:Prop} (h:P:=by
  refine TJ 9 10 (fun K hK=> ?_) (fun K hK=> ?_)
  ·go_simp;refine(rsv_apply X2 m g ⟨nm,nz,nz,l⟩ x y _ wq (H.o.cp _ rfl).1 HFM.o HFG.o HSIM.o HPL.o HNM.o HGV.o rfl HY.o.1 HY.o.2.1 HY.o.2.2.1 HY.o.2.2.2 (H.o.rw _ rfl)).m ?_;rintro e wq ⟨a3,k3,rfl,hgr⟩;replace H:=hD (H.o.went hgr HXT.o);clear hgr;refine hK.out _ _ H.o.nm (fun hHeld=> ?_);clear hK K
   try simp only[Act.put,sp]
   refine rdy 10 fun K hK=> ?_;go_simp;replace H:=hD H.o.box;generalize wq.heap.size=T9 at H ⊢;generalize wq.alloc (cq #[oo,oo,sn] 44)=wq at H ⊢;refine hK.out _ _ H.o.nm (fun hHeld=> ?_);clear hK K
   try simp only[Act.put,sp]
   exact rvEn
  ·go_simp;replace H:=hD H.o.box;generalize wq.heap.size=T9 at H ⊢;generalize wq.alloc (cq #[oo,oo,sn] 44)=wq at H ⊢;refine hK.out _ _ H.o.nm (fun hHeld=> ?_);clear hK K
   try simp only[Act.put,sp]
   exact rv9n):P:=h
theorem rv1a {P:Prop} (h:P:=by
  refine rdy 7 fun K hK=> ?_;refine Kn (by rfl) (.tmp 72) (.tmp 72) (by rfl) i0 hi hz0 hz1 hz2 y (by rfl) (by rfl) sh176 ?_;intro v HO HB;replace H:=hD (H.o.make HO.o sh176 HB.o);clear HO HB;generalize wq.heap.size=g1 at H ⊢;refine hK.out _ _ H.o.nm (fun hHeld=> ?_);clear hK K
  try simp only[Act.put,sp]
  simp only[Act.put,sg,sp];obtain⟨wq,rfl⟩:∃ W,W=v:=⟨_,rfl⟩;refine tk 8 ?_ (y:=fun w _=>build_y 48 #[(0,.const (.int .i64 5)),(1,.const ow),(4,.tmp 69),(6,.tmp 70),(7,.tmp 71),(8,.tmp 73)] #[.int .i64 5,.int .i64 2,.int .i64 0,.bool false,nmV nm,nmV [],.int .i64 x,.int .i64 y,.slice (cw g1 0) y y] w rfl (cmd_b1 _ _ _ _ _ _)) (hS:=hHeld);simp only[Act.put,sg,sp]
  exact rv9n):P:=h
theorem rv7a {P:Prop} (h:P:=by
  refine rdy 1 fun K hK=> ?_;go_simp;refine(mmcopy_is X m _ (H.o.mo rfl) HPL.o).m ?_;rintro e wq ⟨X2,rfl,hm2,hle,hb⟩;replace H:=hD (H.o.copy hm2 hle hb);clear hm2 hle hb;refine hK.out _ _ H.o.nm (fun hHeld=> ?_);clear hK K
  try simp only[Act.put,sp]
  exact rv9n):P:=h
theorem law_reserved48 (n:Nat) (L:List CV) (a:OA) (c:Nat) (b0 b1:Nat) (w:Wd) (hn:n<=255) (h0:b0<=255) (h1:b1<=255) (hr:FM w a L):
  ep 6 #[.int .u8 n,.slice a L c,.agg #[.int .u8 b0,.int .u8 b1]] w (RB w true):=by
 have hk0:=(bQ w).aIw (cq #[.int .u8 b0,.int .u8 b1] 60);have HC0:=hD (Bx.new w _ rfl (.int .u8 b0) (.int .u8 b1) 60);have HR0:=hD (hr.keep hk0);have HB0:=hD hk0;have HAB:=hD (And.intro h0 h1);clear hk0 hr h0 h1;obtain⟨q,hq⟩:∃ q,(Dk L&&decide (L.length<=20))=q:=⟨_,rfl⟩;go_enter func6,ntmps6;go_upto_region 1 with fail;generalize w.alloc (cq #[.int .u8 b0,.int .u8 b1] 60)=W0 at HC0 HR0 HB0 ⊢;go_wp2_with fail;refine(Fz _).m ?_;rintro e w1 ⟨rfl,hb⟩;have HC1:=hD (HC0.o.aIx hb);have HR1:=hD (HR0.o.keep hb);have HB1:=hD (HB0.o.on hb);clear hb HC0 HR0 HB0;go_wp2_with fail;refine(GM L a c 20 _ HR1.o oM q hq).m ?_;rintro e w2 ⟨rfl,hb⟩;have HC2:=hD (HC1.o.aIx hb);have HR2:=hD (HR1.o.keep hb);have HB2:=hD (HB1.o.on hb);clear hb HC1 HR1 HB1;cases q
 ·clear hq HR2;go_wp2_with fail;go_ret;exact⟨rfl,HB2.o⟩
 ·obtain ⟨h1,h2⟩:=Bool.and_eq_true_iff.1 hq;have HL:=hD (Qt h2);clear hq h2;go_wp2_with fail;refine(Ic n L a c _ hn HR2.o h1 (by have:=HL.o;omega)).m ?_;rintro e w3 ⟨X,m,g,p,pa,pc,ps,rfl,hm,hg,hs,fm,fg,hpl,hx,hb⟩;obtain⟨va,vn,vc,da,dc,s⟩:=p;obtain rfl:s=g.cur:=hg.cur;obtain⟨_,_,hfm,_⟩:=hg.st;obtain⟨a0,c0,ts,he,hrw,_,hts,_⟩:=hfm;injection he with he;have he:=congrArg Array.toList he;simp at he;obtain⟨rfl,rfl,rfl⟩:=he;have hk4:=(bQ w3).aIw (cq #[g.cur.F.N,.slice va ts vc,.slice da g.cur.F.N dc,.slice pa ps pc] 34);have HKC:=hD (RvB4.mk (w:=w) (hm.aIx hk4) (Bx4.new w3 _ rfl g.cur.F.N (.slice va ts vc) (.slice da g.cur.F.N dc) (.slice pa ps pc) 34) (hrw.keep hk4) ((HC2.o.aIx hb).aIx hk4) ((HB2.o.on hb).on hk4));have HPL:Hid (m.past.length<=10000):=hD (by have:=HL.o;omega);have h32:=(kE fg.cur.sound.ok hts).2;have HTS:=hD hts;have HSIM:=hD hs;have HFM:=hD fm;have HFG:=hD fg;clear hb hk4 hm hg hs fm fg hpl hx HC2 HR2 HB2 hrw hts h1;unfold rmV;simp only;go_upto_region 8 with fail;generalize w3.alloc (cq #[g.cur.F.N,.slice va ts vc,.slice da g.cur.F.N dc,.slice pa ps pc] 34)=W3 at HKC ⊢;generalize w3.heap.size=T3 at HKC ⊢
  as_aux_lemma=>
  go_wp2_with fail;go_loopw [10] (fun i wr=>∃ k:Nat,k<=ts.length/\i= .int .i64 k/\Below W3 W3 wr) (fun i _=>ts.length-(intOf i).toNat)
  case atStart=>exact⟨0,Yf _,rfl,bR⟩
  case round=>
   obtain⟨k,hk,rfl,hB⟩:=hrel;have HM:=hD (HKC.o.aIx hB);have HBL:=hD hB;clear hB;have b0':=HM.o.bx.c0;have b1':=HM.o.bx.c1;by_cases hlt:k<ts.length
   ·obtain ⟨b,o,rfl,hat⟩:=HM.o.row.at oM;have hat2:=hat k _ (Qa hlt);have hmem:ts[k].vol∈g.cur.F.vs:=by rw[<-HTS.o];exact Yr (Qm hlt)
    generalize ts[k]=z at *;obtain⟨nm,nn,r,za,zc,l⟩:=z;obtain⟨e0,e1,e2,e3⟩:=hat2;have hok:=HFG.o.cur.sound.ok.vol _ hmem;have HNM:=hD hok.name;have HGV:=hD (rH HFG.o.cur.sound.ok.sorted hmem);obtain⟨nz,hnn⟩:=Qr (show 0<=nn by have:1<=nn:=hok.n1;omega);have hnn1:1<=nz:=by have:1<=nn:=hok.n1;omega
    have hnn2:nz<=65536:=by have:nn<=65536:=hok.n2;omega
    subst hnn;clear hok hmem hat;have hk0:(0:Int)<=k:=oM
    have hk1:(k:Int)<ts.length:=oM
    have HX:=hD (VX.new wr _ rfl ⟨nm,nz,r,za,zc,l⟩ 54);have hkv:=(bQ wr).aIw (cq #[nmV nm,nz,r,.slice za l zc] 54);go_upto_region 12 with fail;have HM7:=hD (HM.o.aIx hkv);have HBK:=hD (HBL.o.on hkv);clear e0 e1 e2 e3 b0' b1' hkv HM HBL;generalize wr.alloc (cq #[nmV nm,nz,r,.slice za l zc] 54)=W7 at *;generalize wr.heap.size=T7 at *;have x1:=HX.o.x1;have x2:=HX.o.x2;simp only at x1 x2;by_cases hrn:r=nz
    ·subst hrn;have q0:=HM7.o.ab.c0;have q1:=HM7.o.ab.c1;obtain⟨x,hx⟩:∃ x,b0%nz=x:=⟨_,rfl⟩;have hxm:(b0:Int).tmod nz=x:=by rw[<-hx];exact(Int.ofNat_tmod b0 nz).symm
     have hxl:x<nz:=by rw[<-hx];exact Nat.mod_lt _ oM
     have hab:=HAB.o;have hnz:(nz:Int)≠0:=oM
     have hhy:wrap64 (1+(b1:Int)%min 16 ((nz:Int)-x))=((1+b1%min 16 (nz-x):Nat):Int):=by
      rw[show min 16 ((nz:Int)-x)=((min 16 (nz-x):Nat):Int) by omega,<-Int.natCast_emod];have:=Nat.mod_le b1 (min 16 (nz-x));unfold wrap64;omega
     have hyl:=Nat.mod_lt b1 (show 0<min 16 (nz-x) by omega);obtain⟨y,hy⟩:∃ y,1+b1%min 16 (nz-x)=y:=⟨_,rfl⟩;rw[hy]at hhy;go_upto_region 15 with fail;rw[hhy];have HY:Hid (1<=y/\y<=16/\((x+y:Nat):Int)<=nz/\(nz:Int)<=65536):=hD ⟨oM,oM,oM,oM⟩;have HN:=hD ((bQ W7).drew.keep HX.o.x0);have HBd:=hD (HBK.o.on (bQ W7).drew);have HXT:Hid (T7<W7.drew.heap.size):=hD (Qj _ _ HN.o);have H:Hid (RvQ4 W7.drew W7.drew X m T7 nm y true none none none):=hD ⟨fun _=>HM7.o.mo.aIx (bQ W7).drew,HN.o,fun _ e=>by simp at e,fun _ e=>by simp at e,fun _ e=>by simp at e,bR⟩;have HNUM:Hid (k<ts.length/\ts.length<=32):=hD ⟨hlt,h32⟩;refine wp_region_held_drew (S:=fun W=>W (cw T7 0)=some (nmV nm)) kR HN.o (fun hHeld=> ?_);clear hhy hyl hy hab hnz hxm hxl hx q0 q1 x1 x2 HX HM7 HBK HN hk hk0 hk1 hlt h32 hnn1 hnn2;generalize hwd:W7.drew=wd at *;obtain⟨wq,hwq⟩:∃ W,wd=W:=⟨_,rfl⟩;replace H:Hid (RvQ4 wd wq X m T7 nm y true none none none):=hD (by rw[<-hwq];exact H.o);rw[hwq]at hHeld ⊢;clear hwq hwd;obtain⟨i0,hi,hz0,hz1,hz2⟩:=info_parts RU;refine tk 0 ?_ (hS:=hHeld);refine tk 2 ?_ (hS:=hHeld);refine tk 3 ?_ (hS:=hHeld);refine tk 4 ?_ (hS:=hHeld);refine tk 5 ?_ (hS:=hHeld);refine tk 6 ?_ (hS:=hHeld);simp only[Act.put,sg,sp];refine rdy3 1 7 10 (fun K hK=> ?_) (fun K hK=> ?_) (fun K hK=> ?_)
     ·go_simp;refine(mmcopy_is X m _ (H.o.mo rfl) HPL.o).m ?_;rintro e wq ⟨X2,rfl,hm2,hle,hb⟩;replace H:=hD (H.o.copy hm2 hle hb);clear hm2 hle hb;refine hK.out _ _ H.o.nm (fun hHeld=> ?_);clear hK K
      try simp only[Act.put,sp]
      refine TJ 7 10 (fun K hK=> ?_) (fun K hK=> ?_)
      ·refine Kn (by rfl) (.tmp 72) (.tmp 72) (by rfl) i0 hi hz0 hz1 hz2 y (by rfl) (by rfl) sh176 ?_;intro v HO HB;replace H:=hD (H.o.make HO.o sh176 HB.o);clear HO HB;generalize wq.heap.size=g1 at H ⊢;refine hK.out _ _ H.o.nm (fun hHeld=> ?_);clear hK K
       try simp only[Act.put,sp]
       simp only[Act.put,sg,sp];obtain⟨wq,rfl⟩:∃ W,W=v:=⟨_,rfl⟩;refine tk 8 ?_ (y:=fun w _=>build_y 48 #[(0,.const (.int .i64 5)),(1,.const ow),(4,.tmp 69),(6,.tmp 70),(7,.tmp 71),(8,.tmp 73)] #[.int .i64 5,.int .i64 2,.int .i64 0,.bool false,nmV nm,nmV [],.int .i64 x,.int .i64 y,.slice (cw g1 0) y y] w rfl (cmd_b1 _ _ _ _ _ _)) (hS:=hHeld);simp only[Act.put,sg,sp];exact rv17
      ·go_simp;replace H:=hD H.o.box;generalize wq.heap.size=T9 at H ⊢;generalize wq.alloc (cq #[oo,oo,sn] 44)=wq at H ⊢;exact sh175
     ·refine Kn (by rfl) (.tmp 72) (.tmp 72) (by rfl) i0 hi hz0 hz1 hz2 y (by rfl) (by rfl) sh176 ?_;intro v HO HB;replace H:=hD (H.o.make HO.o sh176 HB.o);clear HO HB;generalize wq.heap.size=g1 at H ⊢;refine hK.out _ _ H.o.nm (fun hHeld=> ?_);clear hK K
      try simp only[Act.put,sp]
      simp only[Act.put,sg,sp];obtain⟨wq,rfl⟩:∃ W,W=v:=⟨_,rfl⟩;refine tk 8 ?_ (y:=fun w _=>build_y 48 #[(0,.const (.int .i64 5)),(1,.const ow),(4,.tmp 69),(6,.tmp 70),(7,.tmp 71),(8,.tmp 73)] #[.int .i64 5,.int .i64 2,.int .i64 0,.bool false,nmV nm,nmV [],.int .i64 x,.int .i64 y,.slice (cw g1 0) y y] w rfl (cmd_b1 _ _ _ _ _ _)) (hS:=hHeld);simp only[Act.put,sg,sp];refine TJ 1 10 (fun K hK=> ?_) (fun K hK=> ?_)
      ·go_simp;refine(mmcopy_is X m _ (H.o.mo rfl) HPL.o).m ?_;rintro e wq ⟨X2,rfl,hm2,hle,hb⟩;replace H:=hD (H.o.copy hm2 hle hb);clear hm2 hle hb;refine hK.out _ _ H.o.nm (fun hHeld=> ?_);clear hK K
       try simp only[Act.put,sp]
       exact rv17
      ·go_simp;replace H:=hD H.o.box;generalize wq.heap.size=T9 at H ⊢;generalize wq.alloc (cq #[oo,oo,sn] 44)=wq at H ⊢;refine hK.out _ _ H.o.nm (fun hHeld=> ?_);clear hK K
       try simp only[Act.put,sp]
       exact rv7a
     ·go_simp;replace H:=hD H.o.box;generalize wq.heap.size=T9 at H ⊢;generalize wq.alloc (cq #[oo,oo,sn] 44)=wq at H ⊢;refine hK.out _ _ H.o.nm (fun hHeld=> ?_);clear hK K
      try simp only[Act.put,sp]
      refine TJ 1 7 (fun K hK=> ?_) (fun K hK=> ?_)
      ·go_simp;refine(mmcopy_is X m _ (H.o.mo rfl) HPL.o).m ?_;rintro e wq ⟨X2,rfl,hm2,hle,hb⟩;replace H:=hD (H.o.copy hm2 hle hb);clear hm2 hle hb;exact sh175
      ·refine Kn (by rfl) (.tmp 72) (.tmp 72) (by rfl) i0 hi hz0 hz1 hz2 y (by rfl) (by rfl) sh176 ?_;intro v HO HB;replace H:=hD (H.o.make HO.o sh176 HB.o);clear HO HB;generalize wq.heap.size=g1 at H ⊢;refine hK.out _ _ H.o.nm (fun hHeld=> ?_);clear hK K
       try simp only[Act.put,sp]
       simp only[Act.put,sg,sp];obtain⟨wq,rfl⟩:∃ W,W=v:=⟨_,rfl⟩;refine tk 8 ?_ (y:=fun w _=>build_y 48 #[(0,.const (.int .i64 5)),(1,.const ow),(4,.tmp 69),(6,.tmp 70),(7,.tmp 71),(8,.tmp 73)] #[.int .i64 5,.int .i64 2,.int .i64 0,.bool false,nmV nm,nmV [],.int .i64 x,.int .i64 y,.slice (cw g1 0) y y] w rfl (cmd_b1 _ _ _ _ _ _)) (hS:=hHeld);simp only[Act.put,sg,sp];exact rv7a
    ·have hnq:(r != (nz:Int))=true:=by simpa using hrn
     clear hrn;go_wp2_with fail;go_roundw
     case rel=>exact⟨k+1,oM,by go_num,HBK.o⟩
     case measure=>simp[intOf];omega
   ·obtain rfl:k=ts.length:=oM
    go_wp2_with fail;go_ret;exact⟨rfl,HM.o.g⟩
end Go.Proofs.YtphfgbbbejloaaaGreatDoor
