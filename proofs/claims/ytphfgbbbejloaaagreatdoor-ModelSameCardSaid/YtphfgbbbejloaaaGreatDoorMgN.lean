/- tegulalaw48: Same of no models; Mapped Conditions: as each theorem says. -/
import Derived.Test.YtphfgbbbejloaaaGreatDoorMgW
set_option linter.unusedSimpArgs false
set_option linter.unusedVariables false
set_option maxRecDepth 100000
set_option maxHeartbeats 16000000
namespace Go.Proofs.YtphfgbbbejloaaaGreatDoor
open Go.RowKit Go.Maps
open Go.Proofs.Tryz
theorem sy2 {P:Prop} (h:P:=by have:=HN.o;simp only;omega):P:=h
theorem sy0 {P:Prop} (h:P:=by
  clear hp;refine wpr ?_
  repeat(go_big_quiet_step ((first|(go_at_call_of 48 (Value.agg #[s.F.N,.slice (cw b o) ts vc,.slice da s.F.N dc]);exact Calls.aJb (HPA.o _ (HMC.o.s1.keep (World.aIy _ _))))|(go_at_call 48;exact Calls.aJb (HPB.o _ (HMC.o.s2.keep (World.aIy _ _)))))))
  refine wqn fun nq=> ?_;go_wp2_with fail;go_ret;exact⟨rfl,HMC.o.g.on (World.aIy _ _)⟩
  ):P:=h
theorem sy1 {P:Prop} (h:P:=by
  go_enter func25,ntmps25;go_wp2_with fail;go_ret;exact⟨rfl,bR⟩
  ):P:=h
section
variable {α:Type} {z:α} {s s' t:MSt α} {c:Cmd α} {m m':Mo α}
variable [DecidableEq α]
theorem sameK_succ {A B:List (OV α)} {k:Nat} {v w:OV α} (h1:A[k]? =some v) (h2:B[k]? =some w):sameK A B (k+1)=(sameK A B k&&sameV v w):=by simp[sameK,List.range_succ,h1,h2]
end
open Go.Shelf
theorem mmsame_nil1 (p:Value) (hp:∃ X:Nat,p= .pointer (cw X 0)) (w:Wd):ep 25 #[.pointer none,p] w (RB w false):=by
 obtain⟨X,rfl⟩:=hp;have q0:∀ w:Wd,(binOp .eql 25 (.pointer none) (.pointer (cw X 0))).run prog w= .ok (.bool false) w:=fun w=>by kernel_rfl
 exact sy1
theorem mmsame_nil2 (X:Nat) (w:Wd):ep 25 #[.pointer (cw X 0),.pointer none] w (RB w false):=by
 exact sy1
theorem mmsame_nil (w:Wd):ep 25 #[.pointer none,.pointer none] w (RB w true):=by
 exact sy1
section
variable {w w':Wd} {va da:OA} {vn vc X:Nat} {v:Value} {s:MSt Bk}
theorem RStM.keep (h:RStM w v s) (hb:Below w w w'):RStM w' v s:=by
 obtain⟨va,vn,vc,da,dc,h1,h2⟩:=h;exact⟨va,vn,vc,da,dc,h1,h2.keep hb⟩
theorem RStM.grown (h:RStM w v s) (hX:MX w X) (hg:w.grownBy w' (some X)):RStM w' v s:=by
 obtain⟨va,vn,vc,da,dc,h1,h2⟩:=h;exact⟨va,vn,vc,da,dc,h1,h2.grown hX hg⟩
end
theorem rmapped_is (v:Value) (s:MSt Bk) (nm:LU) (p:Int) (w:Wd) (hF:s.F.ok) (h:RStM w v s) (hn:nm.length<=maxLen) (b0:Bool) (hb0:(aX s.F nm p).2.1=b0):
  ep 48 #[v,nmV nm,p] w (RB w (.bool b0)):=by
 obtain⟨va,vn,vc,da,dc,rfl,L,hL,hfam,hd,hDd⟩:=h;obtain⟨i0,b1,e0,hl⟩:∃ i0 b0 e0,aX s.F nm p=(i0,b0,e0):=⟨_,_,_,rfl⟩;obtain rfl:b1=b0:=by rw[hl]at hb0;exact hb0
 have hk0:=(bQ w).aIw (cq #[s.F.N,.slice va vn vc,.slice da s.F.N dc] 31);have HF:=hD (hfam.keep hk0);have HB:=hD hk0;have HLK:=hD (fun gv W hf=>GL s.F i0 b1 e0 gv nm p W hF hf hn hl);clear hfam hd hDd hk0 hl hb0 hL;go_enter func48,ntmps48;go_wp2_with fail;refine(HLK.o _ _ HF.o).m ?_;rintro e w1 ⟨rfl,hb⟩;have HB1:=hD (HB.o.on hb);clear hb;go_wp2_with fail;go_ret;exact⟨rfl,HB1.o⟩
structure S2 (w W:Wd) (s t:MSt Bk) (va:OA) (ts:List RT) (vc:Nat) (da:OA) (dc:Nat) (ua:OA) (us:List RT) (uc:Nat) (ea:OA) (ec:Nat):Prop where
 b1:Bx3 W w 31 s.F.N (.slice va ts vc) (.slice da s.F.N dc)
 b2:Bx3 W (cf w) 31 t.F.N (.slice ua us uc) (.slice ea t.F.N ec)
 s1:RSt W va ts.length vc da s
 s2:RSt W ua us.length uc ea t
 r1:RdR W va ts
 r2:RdR W ua us
 g:Below w w W
theorem S2.aIx {w W W':Wd} {s t:MSt Bk} {va:OA} {ts:List RT} {vc:Nat} {da:OA} {dc:Nat} {ua:OA} {us:List RT} {uc:Nat} {ea:OA} {ec:Nat} (h:S2 w W s t va ts vc da dc ua us uc ea ec) (hb:Below W W W'):S2 w W' s t va ts vc da dc ua us uc ea ec:=
 ⟨h.b1.aIx hb,h.b2.aIx hb,h.s1.keep hb,h.s2.keep hb,h.r1.keep hb,h.r2.keep hb,h.g.on hb⟩
def V2 (wr:Wd) (x y:RT) (p q:Value) (W:Wd):Prop:=
 ∃T S,p= .pointer (cw T 0)/\q= .pointer (cw S 0)/\VX W T x/\VX W S y/\Below wr wr W
theorem RSt.rows {w:Wd} {va:OA} {vn vc:Nat} {da:OA} {s:MSt Bk} (h:RSt w va vn vc da s) (hs:s.F.ok):∃ ts:List RT,ts.length=vn/\RdR w va ts/\ts.map RT.vol=s.F.vs/\ts.length<=32:=by
 obtain⟨_,_,hf,_⟩:=h;obtain⟨a,c,ts,he,hr,_,hts,_⟩:=hf;injection he with he;have he:=congrArg Array.toList he;simp at he;obtain⟨rfl,rfl,rfl⟩:=he;exact⟨ts,rfl,hr,hts,(kE hs hts).2⟩
theorem rt_ob {s:MSt Bk} {ts:List RT} (h:ts.map RT.vol=s.F.vs) {k:Nat} (hk:k<ts.length):(obS s)[k]? =some (obV s ts[k].vol)/\ts[k].vol∈s.F.vs:=by
 have hm:ts[k].vol∈s.F.vs:=by rw[<-h];exact Yr (Qm hk)
 refine⟨?_,hm⟩;unfold obS;rw[<-h,List.map_map,Yw,Qa hk];rfl
theorem sameV_no {v w:OV Bk} (h:v.nm≠w.nm∨v.n≠w.n∨v.r≠w.r):sameV v w=false:=by
 rcases h with h|h
 ·unfold sameV;rw[Qp h];simp
 ·exact sameV_len h
theorem ob_len {s:MSt Bk} {ts:List RT} (h:ts.map RT.vol=s.F.vs):(obS s).length=ts.length:=by
 unfold obS;rw[<-h];simp
theorem VX.of4 {W:Wd} {T:Nat} {t:TypeId} {x:RT} (h:Bx4 W T t (nmV x.nm) x.n x.r x.sl):VX W T x:=⟨h.c0,h.c1,h.c2,h.c3,h.f0,h.f2,h.f3⟩
theorem rsame48_is (va:OA) (vn vc:Nat) (da:OA) (dc:Nat) (s:MSt Bk) (ua:OA) (un uc:Nat) (ea:OA) (ec:Nat) (t:MSt Bk) (w:Wd) (h1:RSt w va vn vc da s) (h2:RSt w ua un uc ea t) (fs:s.F.sound) (ft:t.F.sound):
  ep 26 #[rsV s.F.N va vn vc da dc,rsV t.F.N ua un uc ea ec] w (RB w (.bool (sameO (obS s) (obS t)))):=by
 obtain⟨ts,rfl,hr1,ht1,h32⟩:=h1.rows fs.ok;obtain⟨us,rfl,hr2,ht2,_⟩:=h2.rows ft.ok;have hk1:=(bQ w).aIw (cq #[s.F.N,.slice va ts vc,.slice da s.F.N dc] 31);have hk2:=(Below.refl (w.alloc (cq #[s.F.N,.slice va ts vc,.slice da s.F.N dc] 31)).heap.size (w.alloc (cq #[s.F.N,.slice va ts vc,.slice da s.F.N dc] 31))).aIw (cq #[t.F.N,.slice ua us uc,.slice ea t.F.N ec] 31);have HS:Hid (S2 w _ s t va ts vc da dc ua us uc ea ec):=hD ⟨(Bx3.new w _ rfl s.F.N (.slice va ts vc) (.slice da s.F.N dc) 31).aIx hk2,Bx3.new _ (w.heap.size+1) sM t.F.N (.slice ua us uc) (.slice ea t.F.N ec) 31,(h1.keep hk1).keep hk2,(h2.keep hk1).keep hk2,(hr1.keep hk1).keep hk2,(hr2.keep hk1).keep hk2,hk1.on hk2⟩;obtain⟨R,hR⟩:∃ R,sameO (obS s) (obS t)=R:=⟨_,rfl⟩;rw[hR];have HRS:=hD hR;have HT1:=hD ht1;have HT2:=hD ht2;have HSM:=hD fs;have HSG:=hD ft;clear hR h1 h2 hr1 hr2 ht1 ht2 fs ft hk1 hk2;go_enter func26,ntmps26;go_upto_region 1 with fail;generalize (w.alloc (cq #[s.F.N,.slice va ts vc,.slice da s.F.N dc] 31)).alloc (cq #[t.F.N,.slice ua us uc,.slice ea t.F.N ec] 31)=W at HS ⊢;have b1:=HS.o.b1.c1;have b2:=HS.o.b2.c1;by_cases hlen:ts.length=us.length
 case neg=>
  obtain rfl:R=false:=by
   rw[<-HRS.o];unfold sameO;rw[Qp (by rw[ob_len HT1.o,ob_len HT2.o];exact hlen),Bool.false_and]
  have hne:((ts.length:Int) != (us.length:Int))=true:=by simp;omega
  clear hlen;go_wp2_with fail;go_ret;exact⟨rfl,HS.o.g⟩
 have HLEN:=hD hlen;rw[<-hlen]at b2;clear hlen;go_wp2_with fail;clear b1 b2;go_loopw [5] (fun i wr=>∃ k:Nat,k<=ts.length/\i= .int .i64 k/\Hid (∀j,j<k-> ∃v u,(obS s)[j]? =some v/\(obS t)[j]? =some u/\sameV v u=true)/\Below W W wr) (fun i _=>ts.length-(intOf i).toNat)
 case atStart=>exact⟨0,Yf _,rfl,hD (fun j hj=>by omega),bR⟩
 case round =>
  obtain⟨k,hk,rfl,hsm,hB⟩:=hrel;have HM:=hD (HS.o.aIx hB);have HBL:=hD hB;clear hB;have b1:=HM.o.b1.c1;have b2:=HM.o.b2.c1;rw[<-HLEN.o]at b2;by_cases hlt:k<ts.length
  ·obtain ⟨hv,hm1⟩:=rt_ob HT1.o hlt;obtain⟨hu,hm2⟩:=rt_ob HT2.o (show k<us.length by rw[<-HLEN.o];exact hlt);obtain⟨b,o,hab,hat⟩:=HM.o.r1.at oM;obtain⟨b',o',hab',hat'⟩:=HM.o.r2.at (by rw[<-HLEN.o];omega);have hat1:=hat k _ (Qa hlt);have hat2:=hat' k _ (Qa (show k<us.length by rw[<-HLEN.o];exact hlt));subst hab hab';generalize ts[k]=z at hv hm1 hat1;generalize us[k]'(by rw[<-HLEN.o];exact hlt)=y at hu hm2 hat2;obtain⟨nm,vn,vr,za,zc,l⟩:=z;obtain⟨um,un,ur,ya,yc,l2⟩:=y;obtain⟨e0,e1,e2,e3⟩:=hat1;obtain⟨f0,f1,f2,f3⟩:=hat2;simp only at e0 e1 e2 e3 f0 f1 f2 f3;have hok1:=HSM.o.ok.vol _ hm1;have hok2:=HSG.o.ok.vol _ hm2;have HNL:Hid (nm.length<=maxLen):=hD (pU hok1.name);have HLV:=hD (fun(i:Nat) (hi:(i:Int)<vn)=>seen_look (z:=Bk.zero) HSM.o.ok hv i hi);have HLU:=hD (fun(i:Nat) (hi:(i:Int)<un)=>seen_look (z:=Bk.zero) HSG.o.ok hu i hi);obtain⟨vf,hvf⟩:∃ f,(obV s (RT.vol ⟨nm,vn,vr,za,zc,l⟩)).c=f:=⟨_,rfl⟩;obtain⟨uf,huf⟩:∃ f,(obV t (RT.vol ⟨um,un,ur,ya,yc,l2⟩)).c=f:=⟨_,rfl⟩;have HV:Hid ((obS s)[k]? =some ⟨nm,vn,vr,vf⟩):=hD (by rw[<-hvf];exact hv);have HU:Hid ((obS t)[k]? =some ⟨um,un,ur,uf⟩):=hD (by rw[<-huf];exact hu);rw[hvf]at HLV;rw[huf]at HLU;have HK1:Hid (0<=vn/\vn<=65536):=hD ⟨by have:1<=vn:=hok1.n1;omega,hok1.n2⟩;have hk0:(0:Int)<=k:=oM
   have hk1:(k:Int)<ts.length:=oM
   clear hv hu hm1 hm2 hat hat' hok1 hok2 hvf huf;go_upto_region 6 with fail
   go_cut [6,7] from 30 to 41 (fun p q wx=>V2 wr ⟨nm,vn,vr,za,zc,l⟩ ⟨um,un,ur,ya,yc,l2⟩ p q wx)
   case first=>
    refine wp_region_held_drew (S:=fun W=>Below wr wr W) kR bR.drew (fun hHeld=> ?_);clear HS HM HBL hsm HNL HLV HLU HV HU HK1;refine tk 0 ?_ (y:=by intro w hSw;have k0:=hSw.keep b1;have k1:=hSw.keep b2;have k2:=hSw.keep e0;have k3:=hSw.keep e1;have k4:=hSw.keep e2;have k5:=hSw.keep e3;have k6:=hSw.keep f0;have k7:=hSw.keep f1;have k8:=hSw.keep f2;have k9:=hSw.keep f3;clear hSw;go_simp;try with_reducible rfl) (k:=by intro g;(try simp only[Act.put,sg,sp]);exact g);refine tk 1 ?_ (y:=by intro w hSw;have k0:=hSw.keep b1;have k1:=hSw.keep b2;have k2:=hSw.keep e0;have k3:=hSw.keep e1;have k4:=hSw.keep e2;have k5:=hSw.keep e3;have k6:=hSw.keep f0;have k7:=hSw.keep f1;have k8:=hSw.keep f2;have k9:=hSw.keep f3;clear hSw;go_simp;try with_reducible rfl) (k:=by intro g;(try simp only[Act.put,sg,sp]);exact g);refine tk 2 ?_ (y:=by intro w hSw;have k0:=hSw.keep b1;have k1:=hSw.keep b2;have k2:=hSw.keep e0;have k3:=hSw.keep e1;have k4:=hSw.keep e2;have k5:=hSw.keep e3;have k6:=hSw.keep f0;have k7:=hSw.keep f1;have k8:=hSw.keep f2;have k9:=hSw.keep f3;clear hSw;go_simp;try with_reducible rfl) (k:=by intro g;(try simp only[Act.put,sg,sp]);exact g);refine tk 3 ?_ (y:=by intro w hSw;have k0:=hSw.keep b1;have k1:=hSw.keep b2;have k2:=hSw.keep e0;have k3:=hSw.keep e1;have k4:=hSw.keep e2;have k5:=hSw.keep e3;have k6:=hSw.keep f0;have k7:=hSw.keep f1;have k8:=hSw.keep f2;have k9:=hSw.keep f3;clear hSw;go_simp;try with_reducible rfl) (k:=by intro g;(try simp only[Act.put,sg,sp]);exact g);refine tk 4 ?_ (y:=by intro w hSw;have k0:=hSw.keep b1;have k1:=hSw.keep b2;have k2:=hSw.keep e0;have k3:=hSw.keep e1;have k4:=hSw.keep e2;have k5:=hSw.keep e3;have k6:=hSw.keep f0;have k7:=hSw.keep f1;have k8:=hSw.keep f2;have k9:=hSw.keep f3;clear hSw;go_simp;try with_reducible rfl) (k:=by intro g;(try simp only[Act.put,sg,sp]);exact g);refine tk 5 ?_ (y:=by intro w hSw;have k0:=hSw.keep b1;have k1:=hSw.keep b2;have k2:=hSw.keep e0;have k3:=hSw.keep e1;have k4:=hSw.keep e2;have k5:=hSw.keep e3;have k6:=hSw.keep f0;have k7:=hSw.keep f1;have k8:=hSw.keep f2;have k9:=hSw.keep f3;clear hSw;go_simp;try with_reducible rfl) (k:=by intro g;(try simp only[Act.put,sg,sp]);exact g);refine tk 6 ?_ (y:=by intro w hSw;have k0:=hSw.keep b1;have k1:=hSw.keep b2;have k2:=hSw.keep e0;have k3:=hSw.keep e1;have k4:=hSw.keep e2;have k5:=hSw.keep e3;have k6:=hSw.keep f0;have k7:=hSw.keep f1;have k8:=hSw.keep f2;have k9:=hSw.keep f3;clear hSw;go_simp;try with_reducible rfl) (k:=by intro g;(try simp only[Act.put,sg,sp]);exact g);refine tk 7 ?_ (y:=by intro w hSw;have k0:=hSw.keep b1;have k1:=hSw.keep b2;have k2:=hSw.keep e0;have k3:=hSw.keep e1;have k4:=hSw.keep e2;have k5:=hSw.keep e3;have k6:=hSw.keep f0;have k7:=hSw.keep f1;have k8:=hSw.keep f2;have k9:=hSw.keep f3;clear hSw;go_simp;try with_reducible rfl) (k:=by intro g;(try simp only[Act.put,sg,sp]);exact g);refine tk 8 ?_ (y:=by intro w hSw;have k0:=hSw.keep b1;have k1:=hSw.keep b2;have k2:=hSw.keep e0;have k3:=hSw.keep e1;have k4:=hSw.keep e2;have k5:=hSw.keep e3;have k6:=hSw.keep f0;have k7:=hSw.keep f1;have k8:=hSw.keep f2;have k9:=hSw.keep f3;clear hSw;go_simp;try with_reducible rfl) (k:=by intro g;(try simp only[Act.put,sg,sp]);exact g);refine tk 9 ?_ (y:=by intro w hSw;have k0:=hSw.keep b1;have k1:=hSw.keep b2;have k2:=hSw.keep e0;have k3:=hSw.keep e1;have k4:=hSw.keep e2;have k5:=hSw.keep e3;have k6:=hSw.keep f0;have k7:=hSw.keep f1;have k8:=hSw.keep f2;have k9:=hSw.keep f3;clear hSw;go_simp;try with_reducible rfl) (k:=by intro g;(try simp only[Act.put,sg,sp]);exact g);refine tk 10 ?_ (y:=by intro w hSw;have k0:=hSw.keep b1;have k1:=hSw.keep b2;have k2:=hSw.keep e0;have k3:=hSw.keep e1;have k4:=hSw.keep e2;have k5:=hSw.keep e3;have k6:=hSw.keep f0;have k7:=hSw.keep f1;have k8:=hSw.keep f2;have k9:=hSw.keep f3;clear hSw;go_simp;try with_reducible rfl) (k:=by intro g;(try simp only[Act.put,sg,sp]);exact g);refine tk 11 ?_ (y:=by intro w hSw;have k0:=hSw.keep b1;have k1:=hSw.keep b2;have k2:=hSw.keep e0;have k3:=hSw.keep e1;have k4:=hSw.keep e2;have k5:=hSw.keep e3;have k6:=hSw.keep f0;have k7:=hSw.keep f1;have k8:=hSw.keep f2;have k9:=hSw.keep f3;clear hSw;go_simp;try with_reducible rfl) (k:=by intro g;(try simp only[Act.put,sg,sp]);exact g);clear b1 b2 e0 e1 e2 e3 f0 f1 f2 f3;have HB0:Hid (Below wr wr wr.drew):=hD bR.drew;generalize wr.drew=wd at *;refine TJ 12 13 (fun K hK=> ?_) (fun K hK=> ?_)
    ·go_simp;have hbz:=(bQ wd).aIw (cq #[.string ⟨#[]⟩,oo,oo,sn] 54);have HA:=hD (Bx4.new wd _ rfl (.string ⟨#[]⟩) oo oo sn 54);have HB1:=hD (HB0.o.on hbz);have HT:Hid (wr.heap.size<=wd.heap.size):=hD HB0.o.size;have hsz:wd.heap.size<(wd.alloc (cq #[.string ⟨#[]⟩,oo,oo,sn] 54)).heap.size:=by simp
     clear hbz;generalize wd.alloc (cq #[.string ⟨#[]⟩,oo,oo,sn] 54)=w1 at *;generalize wd.heap.size=T at *;refine hK.out _ _ HB1.o (fun hHeld=> ?_);clear hK K
     try simp only[Act.put,sg,sp]
     refine rdy 13 fun K hK=> ?_;go_simp;have hbz:=(bQ w1).aIw (cq #[.string ⟨#[]⟩,oo,oo,sn] 54);have HC:=hD (Bx4.new w1 _ rfl (.string ⟨#[]⟩) oo oo sn 54);have HB2:=hD (HB1.o.on hbz);have HA2:=hD (HA.o.aIx hbz);have HN:Hid (T≠w1.heap.size/\w1.heap.size≠T/\wr.heap.size<=T/\wr.heap.size<=w1.heap.size):=hD ⟨oM,oM,HT.o,HB1.o.size⟩;clear hbz hsz HA HT;generalize w1.alloc (cq #[.string ⟨#[]⟩,oo,oo,sn] 54)=w2 at *;generalize w1.heap.size=S at *;refine hK.out _ _ HB2.o (fun hHeld=> ?_);clear hK K
     try simp only[Act.put,sg,sp]
     have c0:=HA2.o.c0;have c1:=HA2.o.c1;have c2:=HA2.o.c2;have c3:=HA2.o.c3;have c4:=HA2.o.f0;have c5:=HA2.o.f1;have c6:=HA2.o.f2;have c7:=HA2.o.f3;have HA3:=hD (HA2.o.rep (nmV nm) vn vr (.slice za l zc));have HC3:=hD (HC.o.grown (fK w2 T (nmV nm) vn vr (.slice za l zc)) (fun e=>by injection e with e;have:=HN.o;omega));have HB3:Hid (Below wr wr (vT w2 T (nmV nm) vn vr (.slice za l zc))):=hD ((((HB2.o.setCell sy2 _).setCell sy2 _).setCell sy2 _).setCell sy2 _);refine rdy 14 fun K hK=> ?_;go_simp;refine hK.out _ _ HB3.o (fun hHeld=> ?_);clear hK K c0 c1 c2 c3 c4 c5 c6 c7
     try simp only[Act.put,sg,sp]
     have c0:=HC3.o.c0;have c1:=HC3.o.c1;have c2:=HC3.o.c2;have c3:=HC3.o.c3;have c4:=HC3.o.f0;have c5:=HC3.o.f1;have c6:=HC3.o.f2;have c7:=HC3.o.f3;have HC4:=hD (HC3.o.rep (nmV um) un ur (.slice ya l2 yc));have HA4:=hD (HA3.o.grown (fK _ S (nmV um) un ur (.slice ya l2 yc)) (fun e=>by injection e with e;have:=HN.o;omega));have HB4:Hid (Below wr wr (vT (vT w2 T (nmV nm) vn vr (.slice za l zc)) S (nmV um) un ur (.slice ya l2 yc))):=hD ((((HB3.o.setCell sy2 _).setCell sy2 _).setCell sy2 _).setCell sy2 _);refine rdy 15 fun K hK=> ?_;go_simp;refine hK.out _ _ HB4.o (fun hHeld=> ?_);clear hK K c0 c1 c2 c3 c4 c5 c6 c7
     try simp only[Act.put,sg,sp]
     refine wpAnyH_done kR ?_ _;have HF:Hid (V2 wr ⟨nm,vn,vr,za,zc,l⟩ ⟨um,un,ur,ya,yc,l2⟩ (.pointer (cw T 0)) (.pointer (cw S 0)) _):=hD ⟨T,S,rfl,rfl,VX.of4 HA4.o,VX.of4 HC4.o,HB4.o⟩;clear HA3 HC3 HB3 HA4 HC4 HB4 HN HA2 HC HB2;go_wp2_with fail;go_meet;exact HF.o
    ·go_simp;have hbz:=(bQ wd).aIw (cq #[.string ⟨#[]⟩,oo,oo,sn] 54);have HA:=hD (Bx4.new wd _ rfl (.string ⟨#[]⟩) oo oo sn 54);have HB1:=hD (HB0.o.on hbz);have HT:Hid (wr.heap.size<=wd.heap.size):=hD HB0.o.size;have hsz:wd.heap.size<(wd.alloc (cq #[.string ⟨#[]⟩,oo,oo,sn] 54)).heap.size:=by simp
     clear hbz;generalize wd.alloc (cq #[.string ⟨#[]⟩,oo,oo,sn] 54)=w1 at *;generalize wd.heap.size=T at *;refine hK.out _ _ HB1.o (fun hHeld=> ?_);clear hK K
     try simp only[Act.put,sg,sp]
     refine rdy 12 fun K hK=> ?_;go_simp;have hbz:=(bQ w1).aIw (cq #[.string ⟨#[]⟩,oo,oo,sn] 54);have HC:=hD (Bx4.new w1 _ rfl (.string ⟨#[]⟩) oo oo sn 54);have HB2:=hD (HB1.o.on hbz);have HA2:=hD (HA.o.aIx hbz);have HN:Hid (T≠w1.heap.size/\w1.heap.size≠T/\wr.heap.size<=T/\wr.heap.size<=w1.heap.size):=hD ⟨oM,oM,HT.o,HB1.o.size⟩;clear hbz hsz HA HT;generalize w1.alloc (cq #[.string ⟨#[]⟩,oo,oo,sn] 54)=w2 at *;generalize w1.heap.size=S at *;refine hK.out _ _ HB2.o (fun hHeld=> ?_);clear hK K
     try simp only[Act.put,sg,sp]
     have c0:=HC.o.c0;have c1:=HC.o.c1;have c2:=HC.o.c2;have c3:=HC.o.c3;have c4:=HC.o.f0;have c5:=HC.o.f1;have c6:=HC.o.f2;have c7:=HC.o.f3;have HA3:=hD (HC.o.rep (nmV nm) vn vr (.slice za l zc));have HC3:=hD (HA2.o.grown (fK w2 S (nmV nm) vn vr (.slice za l zc)) (fun e=>by injection e with e;have:=HN.o;omega));have HB3:Hid (Below wr wr (vT w2 S (nmV nm) vn vr (.slice za l zc))):=hD ((((HB2.o.setCell sy2 _).setCell sy2 _).setCell sy2 _).setCell sy2 _);refine rdy 14 fun K hK=> ?_;go_simp;refine hK.out _ _ HB3.o (fun hHeld=> ?_);clear hK K c0 c1 c2 c3 c4 c5 c6 c7
     try simp only[Act.put,sg,sp]
     have c0:=HC3.o.c0;have c1:=HC3.o.c1;have c2:=HC3.o.c2;have c3:=HC3.o.c3;have c4:=HC3.o.f0;have c5:=HC3.o.f1;have c6:=HC3.o.f2;have c7:=HC3.o.f3;have HC4:=hD (HC3.o.rep (nmV um) un ur (.slice ya l2 yc));have HA4:=hD (HA3.o.grown (fK _ T (nmV um) un ur (.slice ya l2 yc)) (fun e=>by injection e with e;have:=HN.o;omega));have HB4:Hid (Below wr wr (vT (vT w2 S (nmV nm) vn vr (.slice za l zc)) T (nmV um) un ur (.slice ya l2 yc))):=hD ((((HB3.o.setCell sy2 _).setCell sy2 _).setCell sy2 _).setCell sy2 _);refine rdy 15 fun K hK=> ?_;go_simp;refine hK.out _ _ HB4.o (fun hHeld=> ?_);clear hK K c0 c1 c2 c3 c4 c5 c6 c7
     try simp only[Act.put,sg,sp]
     refine wpAnyH_done kR ?_ _;have HF:Hid (V2 wr ⟨nm,vn,vr,za,zc,l⟩ ⟨um,un,ur,ya,yc,l2⟩ (.pointer (cw S 0)) (.pointer (cw T 0)) _):=hD ⟨S,T,rfl,rfl,VX.of4 HA4.o,VX.of4 HC4.o,HB4.o⟩;clear HA3 HC3 HB3 HA4 HC4 HB4 HN HA2 HC HB2;go_wp2_with fail;go_meet;exact HF.o
   case rest=>
    obtain⟨T,S,rfl,rfl,hx,hy,hb⟩:=hcut;have HX:=hD hx;have HY:=hD hy;have HM7:=hD (HM.o.aIx hb);have HB7:=hD (HBL.o.on hb);clear hx hy hb b1 b2 e0 e1 e2 e3 f0 f1 f2 f3 HM HBL HS;generalize hw7:wc=W7 at *;clear hw7;have x0:=HX.o.x0;have x1:=HX.o.x1;have x2:=HX.o.x2;have y0:=HY.o.x0;have y1:=HY.o.x1;have y2:=HY.o.x2;simp only at x0 x1 x2 y0 y1 y2;by_cases hd:nm≠um∨vn≠un∨vr≠ur
    ·obtain rfl:R=false:=by
      rw[<-HRS.o];unfold sameO;have hl:(obS s).length=(obS t).length:=by rw[ob_len HT1.o,ob_len HT2.o,HLEN.o]
      rw[sameK_bad (by rw[ob_len HT1.o];exact hlt) HV.o HU.o (sameV_no hd),Bool.and_false]
     have hbad:Hid (Below w w W7):=hD HM7.o.g;by_cases h1:nm=um
     ·subst h1;by_cases h2:vn=un
      ·subst h2;have h3:(vr != ur)=true:=by
        rcases hd with hd|hd|hd
        ·exact absurd rfl hd
        ·exact absurd rfl hd
        ·simpa using hd
       clear hd;go_wp2_with fail;go_ret;exact⟨rfl,hbad.o⟩
      ·have h3:(vn != un)=true:=by simpa using h2
       clear hd h2;go_wp2_with fail;go_ret;exact⟨rfl,hbad.o⟩
     ·have h3:(nm==um)=false:=by simpa using h1
      clear hd h1;go_wp2_with fail;go_ret;exact⟨rfl,hbad.o⟩
    ·obtain rfl:nm=um:=Decidable.not_not.1 fun e=>hd (.inl e);obtain rfl:vn=un:=Decidable.not_not.1 fun e=>hd (.inr (.inl e));obtain rfl:vr=ur:=Decidable.not_not.1 fun e=>hd (.inr (.inr e));clear hd;obtain⟨n,rfl⟩:=Qr HK1.o.1;have hn6:n<=65536:=by have:=HK1.o.2;omega
     go_wp2_with fail;clear x0 x1 x2 y0 y1 y2;have HLTS:Hid (k<ts.length/\n<=65536):=hD ⟨hlt,hn6⟩;go_loopw [8] (fun i wx=>∃ q:Nat,q<=n/\i= .int .i64 q/\Hid (∀j,j<q->vf j=uf j)/\Below W7 W7 wx) (fun i _=>n-(intOf i).toNat)
     case atStart=>exact⟨0,Yf _,rfl,hD (fun j hj=>by omega),bR⟩
     case round=>
      as_aux_lemma=>
      obtain⟨q,hq,rfl,hsc,hB2⟩:=hrel;have HMA:=hD (HM7.o.aIx hB2);have HXA:=hD (HX.o.aIx hB2);have HBA:=hD hB2;clear hB2;have x0:=HXA.o.x0;have x1:=HXA.o.x1;simp only at x0 x1;by_cases hlt2:q<n
      ·have HNUM:Hid (q<n/\n<=65536):=hD ⟨hlt2,hn6⟩;obtain⟨hl1,hb1⟩:(aX s.F nm q).2.1=(vf q).isSome/\vF Bk.zero s nm q=(vf q).getD Bk.zero:=HLV.o q (by show(q:Int)<(n:Int);omega);obtain⟨hl2,hb2⟩:(aX t.F nm q).2.1=(uf q).isSome/\vF Bk.zero t nm q=(uf q).getD Bk.zero:=HLU.o q (by show(q:Int)<(n:Int);omega);obtain⟨x,hx⟩:∃ x,(vf q).getD Bk.zero=x:=⟨_,rfl⟩;obtain⟨y,hy⟩:∃ y,(uf q).getD Bk.zero=y:=⟨_,rfl⟩;obtain⟨p1,hp1⟩:∃ p1,(vf q).isSome=p1:=⟨_,rfl⟩;obtain⟨p2,hp2⟩:∃ p2,(uf q).isSome=p2:=⟨_,rfl⟩;rw[hx]at hb1;rw[hy]at hb2;rw[hp1]at hl1;rw[hp2]at hl2;obtain⟨er1,he1⟩:∃ e,(aX s.F nm q).2.2=e:=⟨_,rfl⟩;obtain⟨er2,he2⟩:∃ e,(aX t.F nm q).2.2=e:=⟨_,rfl⟩;have HRA:=hD (fun W (h:RSt W (cw b o) ts.length vc da s)=>GJ (rsV s.F.N (cw b o) ts.length vc da dc) s nm q W HSM.o.ok ⟨some (cw b o),ts.length,vc,da,dc,rfl,h⟩ HNL.o x hb1 er1 he1);have HRB:=hD (fun W (h:RSt W (cw b' o') us.length uc ea t)=>GJ (rsV t.F.N (cw b' o') us.length uc ea ec) t nm q W HSG.o.ok ⟨some (cw b' o'),us.length,uc,ea,ec,rfl,h⟩ HNL.o y hb2 er2 he2);have HPA:=hD (fun W (h:RSt W (cw b o) ts.length vc da s)=>rmapped_is (rsV s.F.N (cw b o) ts.length vc da dc) s nm q W HSM.o.ok ⟨some (cw b o),ts.length,vc,da,dc,rfl,h⟩ HNL.o p1 hl1);have HPB:=hD (fun W (h:RSt W (cw b' o') us.length uc ea t)=>rmapped_is (rsV t.F.N (cw b' o') us.length uc ea ec) t nm q W HSG.o.ok ⟨some (cw b' o'),us.length,uc,ea,ec,rfl,h⟩ HNL.o p2 hl2);have HEQ:=hD (opt_same Bk.zero (vf q) (uf q));rw[hx,hy,hp1,hp2]at HEQ;clear hl1 hl2 hb1 hb2 hx hy hp1 hp2 he1 he2;obtain⟨a0,a1,a2,a3,a4,a5,a6,a7⟩:=x;obtain⟨c0,c1,c2,c3,c4,c5,c6,c7⟩:=y;unfold Rh at HRA HRB;unfold Bk.v at HRA HRB;simp only at HRA HRB;have z0:=HMA.o.b1.c0;have z1:=HMA.o.b1.c1;have z2:=HMA.o.b1.c2;go_wp2_with fail;refine(HRA.o _ HMA.o.s1).m ?_;rintro e wa ⟨rfl,hb⟩;have hka:=hb.aIw (.cells (iW ⟨a0,a1,a2,a3,a4,a5,a6,a7⟩) 56);have HYA:=hD (RB8.new wa wa ⟨a0,a1,a2,a3,a4,a5,a6,a7⟩ 56 bR);have HMB:=hD (HMA.o.aIx hka);have HXB:=hD (HXA.o.aIx hka);have HBB:=hD (HBA.o.on hka);clear hb hka x0 x1 z0 z1 z2 HMA HXA HBA HRA;clear hlt2 hq hk0 hk1 hlt hk hn6;go_upto_region 13 with fail;generalize wa.alloc (cq #[.int .u8 a0,.int .u8 a1,.int .u8 a2,.int .u8 a3,.int .u8 a4,.int .u8 a5,.int .u8 a6,.int .u8 a7] 56)=WA at HYA HMB HXB HBB ⊢;generalize wa.heap.size=TA at HYA ⊢;have x0:=HXB.o.x0;have z0:=HMB.o.b2.c0;have z1:=HMB.o.b2.c1;have z2:=HMB.o.b2.c2;simp only at x0;go_wp2_with fail;refine(HRB.o _ HMB.o.s2).m ?_;rintro e wb ⟨rfl,hb⟩;have hkb:=hb.aIw (.cells (iW ⟨c0,c1,c2,c3,c4,c5,c6,c7⟩) 56);have HYB:=hD (RB8.new wb wb ⟨c0,c1,c2,c3,c4,c5,c6,c7⟩ 56 bR);have HYC:=hD (HYA.o.aIx hkb);have HMC:=hD (HMB.o.aIx hkb);have HXC:=hD (HXB.o.aIx hkb);have HBC:=hD (HBB.o.on hkb);clear hb hkb x0 z0 z1 z2 HMB HXB HBB HRB HYA;go_upto_region 14 with fail;generalize wb.alloc (cq #[.int .u8 c0,.int .u8 c1,.int .u8 c2,.int .u8 c3,.int .u8 c4,.int .u8 c5,.int .u8 c6,.int .u8 c7] 56)=WB at HYB HYC HMC HXC HBC ⊢;generalize wb.heap.size=TB at HYB ⊢;obtain⟨g0,g1,g2,g3,g4,g5,g6,g7⟩:=HYC.o.at';obtain⟨h0,h1,h2,h3,h4,h5,h6,h7⟩:=HYB.o.at';simp only[Nat.zero_mul,Nat.zero_add]at g0 g1 g2 g3 g4 g5 g6 g7 h0 h1 h2 h3 h4 h5 h6 h7;have hneq:=fun W=>uY ⟨a0,a1,a2,a3,a4,a5,a6,a7⟩ ⟨c0,c1,c2,c3,c4,c5,c6,c7⟩ 9998 W;unfold Bk.v at hneq;simp only[Nat.reduceAdd]at hneq;have x0:=HXC.o.x0;have z0:=HMC.o.b1.c0;have z1:=HMC.o.b1.c1;have z2:=HMC.o.b1.c2;have y0:=HMC.o.b2.c0;have y1:=HMC.o.b2.c1;have y2:=HMC.o.b2.c2;simp only at x0;have HFALSE:vf q≠uf q->R=false:=fun hne=>by
        rw[<-HRS.o];unfold sameO;rw[sameK_bad (by rw[ob_len HT1.o];exact HLTS.o.1) HV.o HU.o (sameV_bad (k:=q) (by show(q:Int)<(n:Int);have:=HNUM.o;omega) hne),Bool.and_false]
       by_cases hxy:(⟨a0,a1,a2,a3,a4,a5,a6,a7⟩:Bk)=⟨c0,c1,c2,c3,c4,c5,c6,c7⟩
       ·rw [Qo hxy]at HEQ hneq;obtain⟨rfl,rfl,rfl,rfl,rfl,rfl,rfl,rfl⟩:=Bk.mk.inj hxy;clear hxy;by_cases hp:p1=p2
        ·have hvu:vf q=uf q:=by
          have:=HEQ.o;rw[Qo hp]at this
          simpa using this
         have HVU:=hD hvu;subst hp;clear HEQ hvu HFALSE;cases p1
         all_goals
          refine wpr ?_
          repeat(go_big_quiet_step ((first|(go_at_call_of 48 (Value.agg #[s.F.N,.slice (cw b o) ts vc,.slice da s.F.N dc]);exact Calls.aJb (HPA.o _ (HMC.o.s1.keep (World.aIy _ _))))|(go_at_call 48;exact Calls.aJb (HPB.o _ (HMC.o.s2.keep (World.aIy _ _)))))))
          refine wqn fun nq=> ?_;go_wp2_with fail;go_roundw
          all_goals
           have hn9:=HNUM.o;have hw9:wrap64 ((q:Int)+1)=q+1:=by unfold wrap64;omega
          case rel=>exact⟨q+1,hn9.1,by rw[hw9];rfl,hD (fun i hi=>by
           by_cases e:i=q
           ·subst e;exact HVU.o
           ·exact hsc.o i oM),HBC.o.on (World.aIy _ _)⟩
          case measure=>rw[hw9];simp[intOf];omega
        ·obtain rfl:R=false:=HFALSE (by
          have:=HEQ.o;rw[Qp hp]at this
          simpa using this)
         clear HEQ HFALSE;cases p1
         ·obtain rfl:p2=true:=by cases p2 <;> simp at hp ⊢
          exact sy0
         ·obtain rfl:p2=false:=by cases p2 <;> simp at hp ⊢
          exact sy0
       ·rw [Qp hxy]at HEQ hneq;clear hxy;obtain rfl:R=false:=HFALSE (by
         have:=HEQ.o
         simpa using this)
        clear HEQ HFALSE;refine wpr ?_
        repeat(go_big_quiet_step ((fail)))
        refine wqn fun nq=> ?_;go_wp2_with fail;go_ret;exact⟨rfl,HMC.o.g.on (World.aIy _ _)⟩
      ·obtain rfl:q=n:=oM
       go_wp2_with fail;go_roundw
       case rel=>exact⟨k+1,oM,by go_num,hD (fun i hi=>by
        by_cases e:i=k
        ·subst e;exact⟨_,_,HV.o,HU.o,sameV_full rfl rfl rfl fun i hi=>hsc.o i (by simp only at hi;omega)⟩
        ·exact hsm.o i oM),HB7.o.on HBA.o⟩
       case measure=>simp[intOf];omega
  ·obtain rfl:k=ts.length:=oM
   obtain rfl:R=true:=by
    rw[<-HRS.o];unfold sameO;rw[Qo (by rw[ob_len HT1.o,ob_len HT2.o,HLEN.o]),ob_len HT1.o,sameK_full _ hsm.o];rfl
   go_wp2_with fail;go_ret;exact⟨rfl,HM.o.g⟩
structure CkR (w W:Wd) (X:Nat) (m:Mo Bk) (T:Nat) (p:RS) (pa:OA) (pc:Nat) (ps:List RS) (g:Mo Bk):Prop where
 mo:MoB W X m
 bx:Bx4 W T 34 p.s.F.N (.slice p.va p.vn p.vc) (.slice p.da p.s.F.N p.dc) (.slice pa ps pc)
 rm:RMd W p pa ps g
 g:Below w w W
 ge:w.heap.size<=X
 tx:w.heap.size<=T
 ne:X≠T
section
variable {w W W':Wd} {X:Nat} {m m':Mo Bk} {T:Nat} {p:RS} {pa:OA} {pc:Nat} {ps:List RS} {g:Mo Bk}
theorem CkR.aIx (h:CkR w W X m T p pa pc ps g) (hb:Below W W W'):CkR w W' X m T p pa pc ps g:=
 ⟨h.mo.aIx hb,h.bx.aIx hb,h.rm.keep hb,h.g.on hb,h.ge,h.tx,h.ne⟩
theorem CkR.went (h:CkR w W X m T p pa pc ps g) (hm:MoB W' X m') (hg:W.grownBy W' (some X)):CkR w W' X m' T p pa pc ps g:=
 ⟨hm,h.bx.grown hg (fun e=>h.ne (Qv e)),h.rm.grown h.mo.mx hg,h.g.aJa hg (fun j e=>by have:=h.ge;injection e with e;omega),h.ge,h.tx,h.ne⟩
theorem CkR.other {Y:Nat} {n:Mo Bk} (h:CkR w W X m T p pa pc ps g) (hn:MoB W Y n) (hg:W.grownBy W' (some Y)) (hY:w.heap.size<=Y) (h1:X≠Y) (h2:T≠Y):CkR w W' X m T p pa pc ps g:=
 ⟨h.mo.aJm hn.odM hg h1,h.bx.grown hg (fun e=>h2 (Qv e).symm),h.rm.grown hn.mx hg,h.g.aJa hg (fun j e=>by injection e with e;omega),h.ge,h.tx,h.ne⟩
theorem below_rep4 (h:Below w w W) (hT:w.heap.size<=T) (u0 u1 u2 u3:Value):Below w w (vT W T u0 u1 u2 u3):=
 (((h.setCell hT _).setCell hT _).setCell hT _).setCell hT _
theorem CkR.put {q:RS} {qa:OA} {qc:Nat} {qs:List RS} {g':Mo Bk} (h:CkR w W X m T p pa pc ps g) (hr:RMd W q qa qs g'):
  CkR w (vT W T q.s.F.N (.slice q.va q.vn q.vc) (.slice q.da q.s.F.N q.dc) (.slice qa qs qc)) X m T q qa qc qs g':=by
 have g1:=fK W T q.s.F.N (.slice q.va q.vn q.vc) (.slice q.da q.s.F.N q.dc) (.slice qa qs qc);exact⟨h.mo.aJm (h.bx.odM yG aGs aGr) g1 h.ne,h.bx.rep _ _ _ _,hr.grownT (h.bx.odN yG (fun j d e=>by cases e) (fun j d e=>by cases e)) h.bx.ty NN g1,below_rep4 h.g h.tx _ _ _ _,h.ge,h.tx,h.ne⟩
theorem CkR.away {S:Nat} {y0 y1 u0 u1 u2 u3:Value} {na:OA} {nn nk:Nat} {ma:OA} {mn mk:Nat} (h:CkR w W X m T p pa pc ps g) (hb:Bx4 W S 34 y0 y1 (.slice na nn nk) (.slice ma mn mk)) (hS:w.heap.size<=S) (h1:X≠S) (h2:T≠S):CkR w (vT W S u0 u1 u2 u3) X m T p pa pc ps g:=by
 have g1:=fK W S u0 u1 u2 u3;exact⟨h.mo.aJm (hb.odM yG aGs aGr) g1 h1,h.bx.grown g1 (fun e=>h2 (Qv e).symm),h.rm.grownT (hb.odN yG (fun j d e=>by cases e) (fun j d e=>by cases e)) hb.ty NN g1,below_rep4 h.g hS _ _ _ _,h.ge,h.tx,h.ne⟩
end
theorem ob_eq {m g:Mo Bk} (h:FL m g):obS g.cur=obS m.cur:=by
 obtain⟨σ,hσ⟩:=h.cur;exact ob_same hσ
theorem law_same48 (A:List CV) (a:OA) (ca:Nat) (B:List CV) (b:OA) (cb:Nat) (n:Nat) (w:Wd) (hra:FM w a A) (hrb:FM w b B) (hn:n<=255):
  ep 8 #[.slice a A ca,.slice b B cb,.int .u8 n] w (RB w true):=by
 obtain⟨q1,hq1⟩:∃ q,(Dk A&&decide (A.length<=15))=q:=⟨_,rfl⟩;obtain⟨q2,hq2⟩:∃ q,(Dk B&&decide (B.length<=15))=q:=⟨_,rfl⟩;have HA0:=hD hra;have HB0:=hD hrb;have HQ1:=hD hq1;have HQ2:=hD hq2;clear hra hrb hq1 hq2;go_enter func8,ntmps8;go_wp2_with fail;refine(Fz _).m ?_;rintro e w1 ⟨rfl,hb⟩;have HB1:=hD hb;clear hb;cases q1
 ·go_wp2_with fail;refine(GM A a ca 15 _ (HA0.o.keep HB1.o) oM _ HQ1.o).m ?_;rintro e w2 ⟨rfl,hb⟩;have HB2:=hD (HB1.o.on hb);clear hb;go_wp2_with fail;go_ret;exact⟨rfl,HB2.o⟩
 cases q2
 ·go_wp2_with fail;refine(GM A a ca 15 _ (HA0.o.keep HB1.o) oM _ HQ1.o).m ?_;rintro e w2 ⟨rfl,hb⟩;have HB2:=hD (HB1.o.on hb);clear hb;go_wp2_with fail;refine(GM B b cb 15 _ (HB0.o.keep HB2.o) oM _ HQ2.o).m ?_;rintro e w3 ⟨rfl,hb⟩;have HB3:=hD (HB2.o.on hb);clear hb;go_wp2_with fail;go_ret;exact⟨rfl,HB3.o⟩
 go_wp2_with fail;refine(GM A a ca 15 _ (HA0.o.keep HB1.o) oM _ HQ1.o).m ?_;rintro e w2 ⟨rfl,hb⟩;have HB2:=hD (HB1.o.on hb);clear hb;go_wp2_with fail;refine(GM B b cb 15 _ (HB0.o.keep HB2.o) oM _ HQ2.o).m ?_;rintro e w3 ⟨rfl,hb⟩;have HB3:=hD (HB2.o.on hb);clear hb HB1 HB2;have h1:=Bool.and_eq_true_iff.1 HQ1.o;have h2:=Bool.and_eq_true_iff.1 HQ2.o;have HF1:=hD h1.1;have HF2:=hD h2.1;have HL1:Hid (A.length<=15):=hD (Qt h1.2);have HL2:Hid (B.length<=15):=hD (Qt h2.2);clear h1 h2 HQ1 HQ2;go_wp2_with fail;refine(Ic n A a ca _ hn (HA0.o.keep HB3.o) HF1.o (by have:=HL1.o;omega)).m ?_;rintro e w4 ⟨X,m,g,p,pa,pc,ps,rfl,hm,hg,hs,fm,fg,hpl,hx,hb⟩;obtain⟨va,vn,vc,da,dc,s⟩:=p;obtain rfl:s=g.cur:=hg.cur;have hk4:=(bQ w4).aIw (cq #[g.cur.F.N,.slice va vn vc,.slice da g.cur.F.N dc,.slice pa ps pc] 34);have HC:Hid (CkR w _ X m w4 ⟨va,vn,vc,da,dc,g.cur⟩ pa pc ps g):=hD ⟨hm.aIx hk4,Bx4.new w4 _ rfl g.cur.F.N (.slice va vn vc) (.slice da g.cur.F.N dc) (.slice pa ps pc) 34,RMd.keep hg hk4,(HB3.o.on hb).on hk4,by have:=HB3.o.size;omega,(HB3.o.on hb).size,Nat.ne_of_lt hm.lt⟩;have HS:=hD hs;have HFM:=hD fm;have HFG:=hD fg;have HP:Hid (m.past.length<=15):=hD (by have:=HL1.o;omega);clear hk4 hm hg hs fm fg hpl hx hb HB3;unfold rmV;simp only;go_upto_region 6 with fail;generalize w4.alloc (cq #[g.cur.F.N,.slice va vn vc,.slice da g.cur.F.N dc,.slice pa ps pc] 34)=W4 at HC ⊢;generalize w4.heap.size=T8 at HC ⊢;go_wp2_with fail;refine(Ic n B b cb _ hn (HB0.o.keep HC.o.g) HF2.o (by have:=HL2.o;omega)).m ?_;rintro e w5 ⟨Y,d,h,p,ra,rc,rs,rfl,hm,hg,hs,fm,fg,hpl,hx,hb⟩;obtain⟨ua,un,uc,ea,ec,s⟩:=p;obtain rfl:s=h.cur:=hg.cur;have hk5:=(bQ w5).aIw (cq #[h.cur.F.N,.slice ua un uc,.slice ea h.cur.F.N ec,.slice ra rs rc] 34);have HD:Hid (CkR w _ Y d w5 ⟨ua,un,uc,ea,ec,h.cur⟩ ra rc rs h):=hD ⟨hm.aIx hk5,Bx4.new w5 _ rfl h.cur.F.N (.slice ua un uc) (.slice ea h.cur.F.N ec) (.slice ra rs rc) 34,RMd.keep hg hk5,(HC.o.g.on hb).on hk5,by have:=HC.o.g.size;omega,(HC.o.g.on hb).size,Nat.ne_of_lt hm.lt⟩;have HC5:=hD ((HC.o.aIx hb).aIx hk5);have HS2:=hD hs;have HDM:=hD fm;have HDG:=hD fg;clear hk5 hm hg hs fm fg hpl hx hb HC;unfold rmV;simp only;go_upto_region 7 with fail;generalize w5.alloc (cq #[h.cur.F.N,.slice ua un uc,.slice ea h.cur.F.N ec,.slice ra rs rc] 34)=W5 at HC5 HD ⊢;generalize w5.heap.size=T11 at HD ⊢;go_wp2_with fail;refine(mmcopy_is X m _ HC5.o.mo (by have:=HP.o;omega)).m ?_;rintro e w6 ⟨Z,rfl,hz,hzl,hb⟩;have HC6:=hD (HC5.o.aIx hb);have HD6:=hD (HD.o.aIx hb);have HZ:=hD hz;have HZX:Hid (X<Z/\T8<Z/\w.heap.size<=Z):=hD ⟨by have:=HC5.o.mo.lt;omega,by have:=HC5.o.bx.lt;omega,by have:=HC5.o.g.size;omega⟩;clear hb hz hzl HC5 HD;go_upto_region 10 with fail;have HNE:Hid (obS g.cur=obS m.cur/\obS h.cur=obS d.cur):=hD ⟨ob_eq HS.o,ob_eq HS2.o⟩;obtain⟨r,hr⟩:∃ r,sameO (obS m.cur) (obS d.cur)=r:=⟨_,rfl⟩;have C1:=hD (fun W (h1:MoB W X m) (h2:MoB W Z m)=>mmsame_is X Z m m W h1 h2 HFM.o.cur.sound HFM.o.cur.sound);have C2:=hD (fun W=>mmsame_nil2 X W);have C3:=hD (fun W=>mmsame_nil1 (.pointer (cw X 0)) ⟨X,rfl⟩ W);have C4:=hD (fun W=>mmsame_nil W);have C5:=hD (fun W (h1:MoB W X m) (h2:MoB W Y d)=>mmsame_is X Y m d W h1 h2 HFM.o.cur.sound HDM.o.cur.sound);have C6:=hD (fun W h1 h2=>rsame48_is va vn vc da dc g.cur ua un uc ea ec h.cur W h1 h2 HFG.o.cur.sound HDG.o.cur.sound);rw[sameO_refl]at C1;rw[hr]at C5;rw[HNE.o.1,HNE.o.2,hr]at C6;clear hr HNE;have x0:=HC6.o.bx.c0;have x1:=HC6.o.bx.c1;have x2:=HC6.o.bx.c2;have y0:=HD6.o.bx.c0;have y1:=HD6.o.bx.c1;have y2:=HD6.o.bx.c2;simp only at x0 x1 x2 y0 y1 y2
 go_cut [78] from 48 to 78 (fun v wx=>v= .bool false/\Below w6 w6 wx)
 case first=>
  clear HA0 HB0 HF1 HF2 HL1 HL2 HS HS2 HP HZX HFM HFG HDM HDG;cases r
  all_goals
   refine wpr ?_
   repeat(go_big_quiet_step ((first|(go_at_call 26;exact Calls.aJb (C6.o _ (RSt.keep HC6.o.rm.st (World.aIy _ _)) (RSt.keep HD6.o.rm.st (World.aIy _ _))))|(go_at_call 25;first|with_reducible exact Calls.aJb (C1.o _ (HC6.o.mo.aIx (World.aIy _ _)) (HZ.o.aIx (World.aIy _ _)))|with_reducible exact Calls.aJb (C2.o _)|with_reducible exact Calls.aJb (C3.o _)|with_reducible exact Calls.aJb (C4.o _)|with_reducible exact Calls.aJb (C5.o _ (HC6.o.mo.aIx (World.aIy _ _)) (HD6.o.mo.aIx (World.aIy _ _)))))))
   refine wqn fun nq=> ?_;go_wp2_with fail;go_meet;exact⟨rfl,World.aIy _ _⟩
 case rest=>
  obtain⟨rfl,hb⟩:=hcut;clear x0 x1 x2 y0 y1 y2 C1 C2 C3 C4 C5 C6;have HC7:=hD (HC6.o.aIx hb);have HZ7:=hD (HZ.o.aIx hb);clear HC6 HZ HD6 hb HS2 HDM HDG;generalize hw7:wc=w7 at *;clear hw7;have x0:=HC7.o.bx.c0;have x1:=HC7.o.bx.c1;have x2:=HC7.o.bx.c2;have x3:=HC7.o.bx.c3;simp only at x0 x1 x2 x3;have hk7:=(bQ w7).aIw (cq #[g.cur.F.N,.slice va vn vc,.slice da g.cur.F.N dc,.slice pa ps pc] 34);have HE:Hid (CkR w _ Z m w7 ⟨va,vn,vc,da,dc,g.cur⟩ pa pc ps g):=hD ⟨HZ7.o.aIx hk7,Bx4.new w7 _ rfl g.cur.F.N (.slice va vn vc) (.slice da g.cur.F.N dc) (.slice pa ps pc) 34,RMd.keep HC7.o.rm hk7,HC7.o.g.on hk7,HZX.o.2.2,HC7.o.g.size,Nat.ne_of_lt HZ7.o.lt⟩;have HC8:=hD (HC7.o.aIx hk7);have HN:Hid (X≠Z/\T8≠Z/\X≠w7.heap.size/\T8≠w7.heap.size):=hD ⟨by have:=HZX.o;omega,by have:=HZX.o;omega,by have:=HC7.o.mo.lt;omega,by have:=HC7.o.bx.lt;omega⟩;clear hk7 HZX HZ7;go_upto_region 13 with fail;clear x0 x1 x2 x3 HC7;generalize w7.alloc (cq #[g.cur.F.N,.slice va vn vc,.slice da g.cur.F.N dc,.slice pa ps pc] 34)=W8 at HE HC8 ⊢;generalize w7.heap.size=T14 at HE HN ⊢;go_wp2_with fail;go_loopw [15] (fun i wr=>∃ (k:Nat) (c y:Mo Bk) (va':OA) (vn' vc':Nat) (da':OA) (dc':Nat) (s':MSt Bk) (pa':OA) (pc':Nat) (ps':List RS),k<=B.length/\i= .int .i64 k/\Hid (c.past.length<=15+k)/\Hid (CkR w wr X m T8 ⟨va,vn,vc,da,dc,g.cur⟩ pa pc ps g)/\Hid (CkR w wr Z c T14 ⟨va',vn',vc',da',dc',s'⟩ pa' pc' ps' y)/\Hid (FL c y)/\Hid c.fine/\Hid y.fine) (fun i _=>B.length-(intOf i).toNat)
  case atStart=>exact⟨0,m,g,va,vn,vc,da,dc,g.cur,pa,pc,ps,Yf _,rfl,hD (by have:=HP.o;omega),HC8,HE,HS,HFM,HFG⟩
  case round=>
   clear HE HC8;obtain⟨k,c,y,va',vn',vc',da',dc',s',pa',pc',ps',hk,rfl,HPL,HK1,HK2,HSY,HFC,HFY⟩:=hrel;by_cases hlt:k<B.length
   ·as_aux_lemma=>
    have HRW:=hD (HB0.o.keep HK1.o.g);obtain⟨gb,go,rfl,hat⟩:=HRW.o.at oM;have hcm:=hat k _ (Qa hlt);have hfit:=HRW.o.2.1 _ (Qm hlt);have hfew:=MB HF2.o (Qm hlt);have hgb:gb<w.heap.size:=by
     obtain⟨gb',go',he,hat'⟩:=HB0.o.at (show 0<B.length by omega);have he:=Qv he;have e1:gb=gb':=congrArg Addr.block he;rw[e1];exact Qj w ⟨gb',_,none⟩ (hat' k _ (Qa hlt)).c0
    have hmemx:=Qm hlt;generalize B[k]=x at *;obtain⟨⟨tg,kd,ao,af,vol,oth,cp,cn,dt⟩,xa,xk⟩:=x;simp only at hfew;have HCM:=hD hcm;have HFT:=hD hfit.fit;have HRXA:Hid (RdB w xa dt):=hD ((HB0.o.2.1 _ hmemx).dat sO);have HGB:=hD hgb;have HFW:=hD hfew;have hk0:(0:Int)<=k:=oM
    have hk1:(k:Int)<B.length:=oM
    clear hat hcm hfit hgb hfew HRW hmemx;have hypl:y.past.length<=10000:=by
     have h1:=HSY.o.past.length;have h2:=HPL.o;have h20:=HL2.o;omega
    have hcpl:c.past.length<=10000:=by have h2:=HPL.o;have h20:=HL2.o;omega
    have HAP:=hD (fun W h1 h2=>Cy ⟨va',vn',vc',da',dc',s'⟩ pa' pc' ps' y ⟨tg,kd,ao,af,vol,oth,cp,cn,dt⟩ xa xk W h1 HFY.o hypl HFT.o h2);have HMP:=hD (fun W h1 h2=>yX Z c ⟨tg,kd,ao,af,vol,oth,cp,cn,dt⟩ xa xk W h1 HFC.o hcpl HFT.o h2 (fun e=>by have:=HFW.o.2 e;show cn<=255;omega));unfold FN at HAP;unfold JY at HMP;unfold cmV at HAP HMP;simp only at HAP HMP;clear hypl hcpl;obtain⟨e0,e1,e2,e3,e4,e5,e6,e7,e8⟩:=HCM.o;simp only at e0 e1 e2 e3 e4 e5 e6 e7 e8;go_wp2_with fail;refine(HMP.o _ HK2.o.mo (HRXA.o.keep HK2.o.g)).m ?_;rintro e w6 ⟨a3,k3,c',rfl,hap,hmo,_,hgr⟩;have HAPM:=hD hap;have HK3:=hD (HK1.o.other HK2.o.mo hgr HK2.o.ge HN.o.1 HN.o.2.1);have HK4:=hD (HK2.o.went hmo hgr);have HC6:=hD (HCM.o.grown hgr (by have h1:=HGB.o;have h2:=HK2.o.ge;omega));clear hap hmo hgr HK1 HK2 HCM HMP e0 e1 e2 e3 e4 e5 e6 e7 e8;go_upto_region 17 with fail;have HKd:=hD (HK4.o.aIx (bQ w6).drew);have HJd:=hD (HK3.o.aIx (bQ w6).drew);have HCd:=hD (HC6.o.keep (bQ w6).drew);have HDd:=hD (HRXA.o.keep HKd.o.g);refine wp_region_held_drew (S:=fun W=>yC W gb go k ⟨⟨tg,kd,ao,af,vol,oth,cp,cn,dt⟩,xa,xk⟩) kR HCd.o (fun hHeld=> ?_);generalize w6.drew=wd at *;clear HK3 HK4 HC6 HRXA;refine etk 1 ?_;refine etk 2 ?_;refine etk 3 ?_;refine etk 4 ?_;obtain⟨e0,e1,e2,e3,-⟩:=HKd.o.bx;simp only at e0 e1 e2 e3;refine rdy 0 fun K hK=> ?_;go_simp;refine hK.out _ _ HCd.o (fun hHeld=> ?_);clear hK K
    try simp only[Act.put,sp]
    clear e0 e1 e2 e3;refine rdy 5 fun K hK=> ?_;go_simp;refine(HAP.o _ HKd.o.rm HDd.o).m ?_;rintro e w9 ⟨⟨va2,vn2,vc2,da2,dc2,s2⟩,pa2,pc2,ps2,y2,a2,k2,rfl,hap,hrm,_,hb⟩;simp only;have HAPG:=hD hap;have HK5:=hD (HKd.o.aIx hb);have HJ5:=hD (HJd.o.aIx hb);have HC5:=hD (HCd.o.keep hb);have HK6:=hD (HK5.o.put (qc:=pc2) hrm);have HJ6:=hD (HJ5.o.away (u0:=s2.F.N) (u1:= .slice va2 vn2 vc2) (u2:= .slice da2 s2.F.N dc2) (u3:= .slice pa2 ps2 pc2) HK5.o.bx HK5.o.tx HN.o.2.2.1 HN.o.2.2.2);have HC7:Hid (yC (vT w9 T14 s2.F.N (.slice va2 vn2 vc2) (.slice da2 s2.F.N dc2) (.slice pa2 ps2 pc2)) gb go k ⟨⟨tg,kd,ao,af,vol,oth,cp,cn,dt⟩,xa,xk⟩):=hD (HC5.o.grown (fK w9 T14 _ _ _ _) (by have h1:=HGB.o;have h2:=HK5.o.tx;omega));clear hap hrm hb HKd HJd HCd HDd HAP;refine hK.out _ _ HC5.o (fun hHeld=> ?_);clear hK K
    try simp only[Act.put,sp]
    refine etk 6 ?_;refine etk 7 ?_;refine etk 8 ?_;obtain⟨e0,e1,e2,e3,e4,e5,e6,e7,-⟩:=HK5.o.bx;simp only at e0 e1 e2 e3;refine rdy 9 fun K hK=> ?_;go_simp;refine hK.out _ _ HC7.o (fun hHeld=> ?_);clear hK K
    try simp only[Act.put,sp]
    clear e0 e1 e2 e3 e4 e5 e6 e7 HK5 HJ5 HC5;refine wpAnyH_done kR ?_ _;clear HC7;have h20:=HL2.o;go_wp2_with fail;go_roundw
    case rel=>exact⟨k+1,c',y2,va2,vn2,vc2,da2,dc2,s2,pa2,pc2,ps2,oM,by go_num,hD (by have h1:=HAPM.o.past;have h2:=HPL.o;omega),HJ6,HK6,hD (Ap.sim HSY.o HFC.o HFY.o HAPM.o HAPG.o),hD (HAPM.o.fine HFC.o (fun e=>by have:=HFW.o.2 e;show cn<=255;omega)),hD (HAPG.o.fine HFY.o (fun e=>by have:=HFW.o.2 e;show cn<=255;omega))⟩
    case measure=>simp[intOf];omega
   ·as_aux_lemma=>
    obtain rfl:k=B.length:=oM
    go_upto_region 18 with fail;obtain⟨c0,c1,c2,c3,-⟩:=HK2.o.bx;simp only at c0 c1 c2 c3;have HSA:=hD (fun W h1 h2=>Ev Z c y ⟨va',vn',vc',da',dc',s'⟩ pa' pc' ps' W h1 h2 HSY.o HFC.o HFY.o);have HSB:=hD (fun W h1 h2=>Ev X m g ⟨va,vn,vc,da,dc,g.cur⟩ pa pc ps W h1 h2 HS.o HFM.o HFG.o);unfold rmV at HSA HSB;simp only at HSA HSB;go_wp2_with fail;refine(HSA.o _ HK2.o.mo HK2.o.rm).m ?_;rintro e w9 ⟨rfl,hb⟩;have HK9:=hD (HK1.o.aIx hb);clear hb HK1 HK2 c0 c1 c2 c3 HSA;obtain⟨c0,c1,c2,c3,-⟩:=HK9.o.bx;simp only at c0 c1 c2 c3;go_wp2_with fail;refine(HSB.o _ HK9.o.mo HK9.o.rm).m ?_;rintro e w8 ⟨rfl,hb⟩;have HE:=hD (HK9.o.g.on hb);clear hb HK9 c0 c1 c2 c3 HSB;go_wp2_with fail;go_ret;exact⟨rfl,HE.o⟩
end Go.Proofs.YtphfgbbbejloaaaGreatDoor
