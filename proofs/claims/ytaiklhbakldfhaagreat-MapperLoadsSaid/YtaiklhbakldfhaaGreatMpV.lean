/-
  package mapper: State.
  Conditions: as each theorem says.
-/
import Derived.Test.YtaiklhbakldfhaaGreatHZ
import Derived.Test.YtaiklhbakldfhaaGreatFcR
import Derived.Deep.RegionHeld3
namespace Go.Proofs.YtaiklhbakldfhaaGreat
open Go.Lib (hid)
set_option linter.unusedSimpArgs false
set_option linter.unusedVariables false
set_option maxRecDepth 100000
set_option maxHeartbeats 16000000
open Go.RowKit Go.Maps
theorem bGn (x:E):(aEh x).length<=30:=xG _
theorem aHm (l:List E) (k:Nat) (h:k<l.length):iZ (l.take (k+1))=iZ (l.take k)++aEh l[k]:=by
 unfold iZ;rw[List.take_succ_eq_append_getElem h,List.flatMap_append];simp
theorem aCm (l:List E):(iZ l).length<=30*l.length:=by
 induction l with
 |nil=>simp[iZ]
 | cons x r ih=>
  unfold iZ at *;rw[List.flatMap_cons,List.length_append,List.length_cons];have:=bGn x;omega
theorem bGo {N:Nat} {v:Vol} (h:v.ok N):(wL v).length<=2000000:=by
 unfold wL;rw[List.length_append,List.length_append];have h1:=sV v.nm (by have:=(jU h.name).2;omega);have h2:=xG [v.n,v.r,v.l.length];have h3:=aCm v.l;have h4:=(jU h.name).2;have h5:=h.short.1;simp at h2;omega
theorem bBx {N:Nat} (vs:List Vol) (h:∀ v∈vs,v.ok N):(vs.flatMap wL).length<=2000000*vs.length:=by
 induction vs with
 |nil=>simp
 | cons v r ih=>
  rw[List.flatMap_cons,List.length_append,List.length_cons];have:=bGo (h v (by simp));have:=ih fun u hu=>h u (by simp[hu]);omega
theorem aZa {F:Fam} (hF:F.ok) (k:Nat):(encI F.vs.length++(F.vs.take k).flatMap wL).length<=70000000:=by
 rw[List.length_append];have h1:=(wM F.vs.length).2;have h2:=bBx (F.vs.take k) fun v hv=>hF.vol v (List.mem_of_mem_take hv);have h3:(F.vs.take k).length<=F.vs.length:=by rw[List.length_take];omega
 have h4:=hF.few;omega
theorem aGf (p n s:Int) (l P:List UInt8) (a al:Option Addr) (c cl:Nat) (w:World) (h:RdY w a l) (hL:RdI w al [p,n,s]) (hl:l.length<=800000000) (hP:l++numsL [p,n,s]=P):
  Calls Tryz.prog 18 #[.slice a l.length c,.slice al 3 cl] w fun e w'=>∃ a c,e= .returned (.slice a P.length c)/\RdY w' a P/\Below w.heap.size w w':=by
 refine(tV [p,n,s] l a al c cl w h hL hl (by simp)).mono ?_;rintro e w' ⟨v,rfl,⟨na,nc,rfl,hrd⟩,hb⟩;rw[hP]at hrd ⊢;exact⟨na,nc,rfl,hrd,hb⟩
theorem numbers3c (p n s:Int) (l P:List UInt8) (a al:Option Addr) (c cl:Nat) (w:World) (h:RdY w a l) (hL:RdI w al [p,n,s]) (hl:l.length<=800000000) (hP:l++numsL [p,n,s]=P) (hc:l.length<=c):
  Calls Tryz.prog 18 #[.slice a l.length c,.slice al 3 cl] w fun e w'=>∃ a c,e= .returned (.slice a P.length c)/\RdY w' a P/\P.length<=c/\Below w.heap.size w w':=by
 refine(numbers_cap [p,n,s] l a al c cl w h hL hl (by simp)).mono ?_;rintro e w' ⟨v,rfl,⟨na,nc,rfl,hrd,hq⟩,hb⟩;rw[hP]at hrd hq ⊢;exact⟨na,nc,rfl,hrd,hq hc,hb⟩
structure SVI (W:World) (T:Nat) (n r:Int):Prop where
 t1:W.cell? ⟨T,1,none⟩=some (.int .i64 n)
 t2:W.cell? ⟨T,2,none⟩=some (.int .i64 r)
theorem SVI.later {W W':World} {T:Nat} {n r:Int} (h:SVI W T n r) (hb:Below W.heap.size W W'):SVI W' T n r:=⟨hb.keep h.t1,hb.keep h.t2⟩
theorem bIe {F:Fam} {fv:Value} {nm:List UInt8} {n:Int} {l:List E} (hF:F.ok) (hn:nm.length<=maxLen) (hr:1<=n/\n<=65536) (he:fU F nm 0 n=(l,0)) (hl:l.length<=65536) (w:World) (h:bA w fv F):
  Calls Tryz.prog 20 #[fv,nmV nm,.int .i64 0,.int .i64 n] w fun e w'=>∃ a c,e= .returned (.tuple #[.slice a l.length c,.int .i64 0])/\Rd w' a l/\Below w.heap.size w w':=by
 refine(aLb F fv nm 0 n w hF h hn (by omega) (by omega)).mono ?_;rintro e w' ⟨sv,rfl,ho,hb⟩;rw[he]at ho;obtain⟨a,c,rfl,hrd⟩:=ho.rd (by simp only;omega);exact⟨a,c,by rw[he],hrd,hb⟩
theorem mstate_cap (M:Nat) (F:Fam) (w:World) (hF:F.ok) (hs:∀ v∈F.vs,v.l.length<=9000) (h:dU w M F):
  Calls Tryz.prog 6 #[.pointer (some ⟨M,0,none⟩)] w fun e w'=>∃ a c,e= .returned (.slice a (jG F).length c)/\RdY w' a (jG F)/\(jG F).length<=c/\Below w.heap.size w w':=by
 obtain⟨ma,mc,mm,hb,hf⟩:=h.form;have HM:=hid hb;have HFA:=hid hf;have m0:=hb.c0;have m1:=hb.c1;have HF:=hid hF;have HS:=hid hs;have h32:=hF.few;clear hb hf h hF hs;go_enter Tryz.func6,Tryz.ntmps6;go_wp2_with fail;refine(aCj F _ _ HF.o HFA.o).mono ?_;rintro e w1 ⟨nv,rfl,hns,hb⟩;obtain⟨na,nc,rfl,hnr⟩:=hns.rd;rw[List.length_map];have HNR:Hid (yF w1 na (F.vs.map (·.nm))):=hid hnr;have HB:=hid hb;clear hnr hns hb m0 m1;have hk:=(Below.refl w1.heap.size w1).bMq (.cells #[.int .i64 F.vs.length] 3);obtain⟨P0,hP0⟩:∃ P,encI F.vs.length=P:=⟨_,rfl⟩;have HN:=hid (numbers_cap [(F.vs.length:Int)] [] none _ 0 1 _ ((RdY.nil w1).keep hk) (RdI.lit w1 [(F.vs.length:Int)] (by simp) #[.int .i64 F.vs.length] rfl) (by simp) (by simp));have HP1:Hid ([]++numsL [(F.vs.length:Int)]=P0):=hid (by rw[<-hP0];simp[numsL]);rw[HP1.o]at HN;have HP0:=hid hP0;replace HNR:=hid (HNR.o.keep hk);replace HB:=hid (HB.o.on hk);clear hk hP0;go_wp2_with fail;refine HN.o.mono ?_;rintro e w2 ⟨v2,rfl,⟨pa,pc,rfl,hrd,hpc⟩,hb⟩;have HRD:=hid hrd;have HPC:=hid (hpc (Nat.zero_le _));replace HNR:=hid (HNR.o.keep hb);replace HB:=hid (HB.o.on hb);clear hrd hb HN hpc;go_wp2_with fail;go_loopw [4,26] (fun b i wr=>∃ (k:Nat) (ab:Option Addr) (cb:Nat) (P:List UInt8),k<=F.vs.length/\i= .int .i64 k/\b= .slice ab P.length cb/\Hid (P=P0++(F.vs.take k).flatMap wL)/\Hid (RdY wr ab P)/\Hid (P.length<=cb)/\Hid (yF wr na (F.vs.map (·.nm)))/\Hid (Below w.heap.size w wr)) (fun _ i _=>F.vs.length-(intOf i).toNat)
 case atStart=>exact⟨0,pa,pc,P0,Nat.zero_le _,rfl,rfl,hid (by simp),HRD,HPC,HNR,HB⟩
 case round=>
  obtain⟨k,ab,cb,P,hk,rfl,rfl,hP,hY,hQ,hN,hB⟩:=hrel;clear HRD HNR HB HPC;have hPl:P.length<=70000000:=by rw[hP.o,<-HP0.o];exact aZa HF.o k
  by_cases hlt:k<F.vs.length
  ·have hge:(F.vs.map (·.nm))[k]? =some F.vs[k].nm:=by
    rw[List.getElem?_map,List.getElem?_eq_getElem hlt];rfl
   obtain ⟨g,hna,hnm⟩:=hN.o.resolve_left (fun e=>by rw[e]at hge;simp at hge);subst hna;have hnc:=hnm k _ hge;have hmem:=List.getElem_mem hlt;have HVO:=hid (HF.o.vol _ hmem);have HGV:=hid (iO HF.o.sorted hmem);have HT:Hid ((F.vs.take (k+1)).flatMap wL=(F.vs.take k).flatMap wL++wL F.vs[k]):=hid (by
    rw[List.take_succ_eq_append_getElem hlt,List.flatMap_append]
    simp)
   have HRW:=hid (aDg HF.o HGV.o);have HIN:Hid (eP F F.vs[k].nm=(bFn F.C F.vs[k],0)):=hid (by unfold eP;rw[HGV.o]);have hk0:(0:Int)<=k:=by omega
   have hk1:(k:Int)<F.vs.length:=by omega
   clear hmem hge hnm;generalize F.vs[k]=v at *;obtain⟨nm,n,r,l⟩:=v;have HNL:Hid (nm.length<=16):=hid (jU HVO.o.name).2;have HNX:Hid (nm.length<=maxLen):=hid (nI HVO.o.name);have hn1:1<=n:=HVO.o.n1;have hn2:n<=65536:=HVO.o.n2;have HLL:Hid (l.length<=65536):=hid HVO.o.short.1;have m0:=(HM.o.later hB.o).c0;have m1:=(HM.o.later hB.o).c1;go_upto_region 8 with fail;go_wp2_with fail;refine(sD F nm n r _ _ 0 _ nm _ HF.o HS.o (HFA.o.keep hB.o) HNX.o HIN.o).mono ?_;rintro e w3 ⟨rfl,hb⟩;have HRG:=hid (fun W h=>bIe (fv:= .agg #[.slice ma F.N mc,.map mm]) HF.o HNX.o ⟨hn1,hn2⟩ HRW.o HLL.o W h);have hk3:=hb.bMq (.cells #[nmV nm,.int .i64 n,.int .i64 r,.int .i64 (aT l),.int .i64 (bF F.C l)] 73);have HB3:=hid (hB.o.on hk3);have HY3:=hid (hY.o.keep hk3);have HN3:=hid (hN.o.keep hk3);have HSV:Hid (SVI (w3.alloc (.cells #[nmV nm,.int .i64 n,.int .i64 r,.int .i64 (aT l),.int .i64 (bF F.C l)] 73)) w3.heap.size n r):=hid ⟨by simp,by simp⟩;clear hb hk3 m0 m1 hnc;go_upto_region 9 with fail;generalize w3.alloc (.cells #[nmV nm,.int .i64 n,.int .i64 r,.int .i64 (aT l),.int .i64 (bF F.C l)] 73)=W3 at *;generalize w3.heap.size=T at *;have HD:=hid (HSV.o.later (Below.refl _ _).drew);have HMD:=hid ((HM.o.later HB3.o).later (Below.refl _ _).drew);have HFD:=hid ((HFA.o.keep HB3.o).keep (Below.refl _ _).drew)
   go_region_held3 (fun w'=>w'.cell? ⟨M,0,none⟩=some (.slice ma F.N mc)/\w'.cell? ⟨M,1,none⟩=some (.map mm)/\w'.cell? ⟨T,1,none⟩=some (.int .i64 n))
    (first
     |with_reducible exact⟨HMD.o.c0,HMD.o.c1,HD.o.t1⟩
     |with_reducible exact⟨HM4.o.c0,HM4.o.c1,HV4.o.t1⟩)
    ((go_at_call 20;(with_reducible refine(HRG.o _ HFD.o).mono ?_);rintro e w4 ⟨la,lc,rfl,hl4,hb4⟩;have HV4:=hid (HD.o.later hb4);have HM4:=hid (HMD.o.later hb4);have HL4:=hid hl4;have HB4:=hid ((Below.refl W3.heap.size W3).drew.on hb4);clear hl4 hb4))
   replace HB3:=hid (HB3.o.on HB4.o);replace HY3:=hid (HY3.o.keep HB4.o);replace HN3:=hid (HN3.o.keep HB4.o);clear HD HMD HFD HM4 HB4 HRG;go_upto_region 10 with fail;obtain⟨Q1,hQ1⟩:∃ Q,P++wN nm=Q:=⟨_,rfl⟩;obtain⟨Q2,hQ2⟩:∃ Q,Q1++numsL [n,r,(l.length:Int)]=Q:=⟨_,rfl⟩;have HQ1:=hid hQ1;have HQ2:=hid hQ2;have hq1:Hid (Q1.length<=80000000):=hid (by
    rw[<-hQ1,List.length_append];have:=sV nm (by have:=HNL.o;omega);have:=HNL.o
    omega)
   clear hQ1 hQ2
   go_cut [4] from 50 to 61 (fun b wx=>∃ ab cb,b= .slice ab Q2.length cb/\Hid (RdY wx ab Q2)/\Hid (Q2.length<=cb)/\Hid (Below w4.heap.size w4 wx))
   case first=>
    have HD:=hid (HV4.o.later (Below.refl _ _).drew);have hka:=((Below.refl w4.heap.size w4).bMq (.cells #[.int .i64 n,.int .i64 r,.int .i64 l.length] 3)).drew;have HDa:=hid (HV4.o.later hka);have HKA:=hid hka;have hnl9:nm.length<=1000000000:=by have:=HNL.o;omega
    obtain⟨cap1,W1,hconv1,hcell1,hbel1⟩:=wQ nm w4.drew hnl9;have HC1:Hid (RdY W1 (some ⟨w4.heap.size,0,none⟩) nm):=hid hcell1;have HB1:=hid ((Below.refl w4.heap.size w4).drew.on hbel1);have HV1:=hid (HD.o.later hbel1);have hL3:([n,r,(l.length:Int)]:List Int).length<=65536:=by simp
    have HAB:=hid (fun W (x:Option Addr) c (h1:RdY W ab P) (h2:RdY W x nm)=>by
     have:=yC nm P ab x cb c W h1 h2 (by omega) (by have:=HNL.o;omega);rw[HQ1.o]at this
     exact this)
    have HN3:=hid (fun W (a al:Option Addr) c cl (h1:RdY W a Q1) (h2:RdI W al [n,r,(l.length:Int)]) (h3:Q1.length<=c)=>numbers3c n r (l.length:Int) Q1 Q2 a al c cl W h1 h2 (by have:=hq1.o;omega) HQ2.o h3);clear hka hcell1 hbel1;have hS0:(w4.drew.cell? ⟨T,1,none⟩=some (.int .i64 n)/\w4.drew.cell? ⟨T,2,none⟩=some (.int .i64 r)):=⟨HD.o.t1,HD.o.t2⟩;refine wp_region_held_drew (S:=(fun w'=>w'.cell? ⟨T,1,none⟩=some (.int .i64 n)/\w'.cell? ⟨T,2,none⟩=some (.int .i64 r))) (by kernel_rfl) hS0 (fun hHeld=> ?_);refine wpAnyH_take (i:=0) (v:= ?_) rfl (by kernel_rfl) (by kernel_rfl) (by kernel_rfl) (fun _ _ _ h=>h) (Or.inl ⟨by rfl,?_⟩) (by assumption) ?_
    rotate_left
    ·(intro w hSw;(try dsimp only at hSw);go_simp;try with_reducible rfl)
    try simp only[Act.put,List.setIfInBounds_toArray,List.set_cons_zero,List.set_cons_succ]
    refine wpAnyH_take (i:=1) (v:= ?_) rfl (by kernel_rfl) (by kernel_rfl) (by kernel_rfl) (fun _ _ _ h=>h) (Or.inl ⟨by rfl,?_⟩) (by assumption) ?_
    rotate_left
    ·(intro w hSw;(try dsimp only at hSw);go_simp;try with_reducible rfl)
    try simp only[Act.put,List.setIfInBounds_toArray,List.set_cons_zero,List.set_cons_succ]
    refine wpAnyH_take (i:=4) (v:= ?_) rfl (by kernel_rfl) (by kernel_rfl) (by kernel_rfl) (fun _ _ _ h=>h) (Or.inl ⟨by rfl,?_⟩) (by assumption) ?_
    rotate_left
    ·(intro w hSw;(try dsimp only at hSw);go_simp;try with_reducible rfl)
    try simp only[Act.put,List.setIfInBounds_toArray,List.set_cons_zero,List.set_cons_succ]
    refine wpAnyH_take (i:=5) (v:= ?_) rfl (by kernel_rfl) (by kernel_rfl) (by kernel_rfl) (fun _ _ _ h=>h) (Or.inl ⟨by rfl,?_⟩) (by assumption) ?_
    rotate_left
    ·(intro w hSw;(try dsimp only at hSw);go_simp;try with_reducible rfl)
    try simp only[Act.put,List.setIfInBounds_toArray,List.set_cons_zero,List.set_cons_succ]
    refine wpAnyH_take (i:=6) (v:= ?_) rfl (by kernel_rfl) (by kernel_rfl) (by kernel_rfl) (fun _ _ _ h=>h) (Or.inl ⟨by rfl,?_⟩) (by assumption) ?_
    rotate_left
    ·(intro w hSw;(try dsimp only at hSw);go_simp;try with_reducible rfl)
    try simp only[Act.put,List.setIfInBounds_toArray,List.set_cons_zero,List.set_cons_succ]
    refine wpAnyH_take (i:=7) (v:= ?_) rfl (by kernel_rfl) (by kernel_rfl) (by kernel_rfl) (fun _ _ _ h=>h) (Or.inl ⟨by rfl,?_⟩) (by assumption) ?_
    rotate_left
    ·(intro w hSw;(try dsimp only at hSw);go_simp;try with_reducible rfl)
    try simp only[Act.put,List.setIfInBounds_toArray,List.set_cons_zero,List.set_cons_succ]
    refine wpAnyH_take (i:=8) (v:= ?_) rfl (by kernel_rfl) (by kernel_rfl) (by kernel_rfl) (fun _ _ _ h=>h) (Or.inl ⟨by rfl,?_⟩) (by assumption) ?_
    rotate_left
    ·(intro w hSw;(try dsimp only at hSw);go_simp;try with_reducible rfl)
    try simp only[Act.put,List.setIfInBounds_toArray,List.set_cons_zero,List.set_cons_succ]
    refine wpAnyH_take (i:=9) (v:= ?_) rfl (by kernel_rfl) (by kernel_rfl) (by kernel_rfl) (fun _ _ _ h=>h) (Or.inl ⟨by rfl,?_⟩) (by assumption) ?_
    rotate_left
    ·(intro w hSw;(try dsimp only at hSw);go_simp;try with_reducible rfl)
    try simp only[Act.put,List.setIfInBounds_toArray,List.set_cons_zero,List.set_cons_succ]
    refine wpAnyH_ready (rs:=[2,10]) (by kernel_rfl) (by simp) ?_;refine AllReadyH.cons rfl (fun K hK=> ?_) (AllReadyH.cons rfl (fun K hK=> ?_) AllReadyH.nil)
    ·go_simp;refine hK.out _ _ ⟨HV1.o.t1,HV1.o.t2⟩ (fun hHeld=> ?_);clear hK K
     try simp only[Act.put,List.setIfInBounds_toArray,List.set_cons_zero,List.set_cons_succ]
     clear hconv1;refine wpAnyH_ready (rs:=[3,10]) (by kernel_rfl) (by simp) ?_;refine AllReadyH.cons rfl (fun K hK=> ?_) (AllReadyH.cons rfl (fun K hK=> ?_) AllReadyH.nil)
     ·go_simp
      (with_reducible refine(HAB.o W1 _ _ (HY3.o.keep HB1.o) HC1.o).mono ?_)
      rintro e w5 ⟨v5,rfl,ho,hb⟩;obtain⟨xa,xc,rfl,hxc,_,hrd⟩:=ho.rd (by have:=hq1.o;omega);have HRD:=hid hrd;have HXC:=hid hxc;have HB5:=hid (HB1.o.on hb);have HV5:=hid (HV1.o.later hb);clear ho hb hrd hxc;refine hK.out _ _ ⟨HV5.o.t1,HV5.o.t2⟩ (fun hHeld=> ?_);clear hK K
      try simp only[Act.put,List.setIfInBounds_toArray,List.set_cons_zero,List.set_cons_succ]
      have hk5:=(Below.refl w5.heap.size w5).bMq (.cells #[.int .i64 n,.int .i64 r,.int .i64 l.length] 3);have HV5a:=hid (HV5.o.later hk5);have HB5a:=hid (HB5.o.on hk5);have HI5:=hid (RdI.lit w5 [n,r,(l.length:Int)] hL3 #[.int .i64 n,.int .i64 r,.int .i64 l.length] rfl);have HR5:=hid (HRD.o.keep hk5);clear hk5;refine wpAnyH_ready (rs:=[10]) (by kernel_rfl) (by simp) ?_;refine AllReadyH.cons rfl (fun K hK=> ?_) AllReadyH.nil;go_simp;refine hK.out _ _ ⟨HV5a.o.t1,HV5a.o.t2⟩ (fun hHeld=> ?_);clear hK K
      try simp only[Act.put,List.setIfInBounds_toArray,List.set_cons_zero,List.set_cons_succ]
      refine wpAnyH_ready (rs:=[11]) (by kernel_rfl) (by simp) ?_;refine AllReadyH.cons rfl (fun K hK=> ?_) AllReadyH.nil;go_simp
      (with_reducible refine(HN3.o _ _ _ _ _ HR5.o HI5.o HXC.o).mono ?_)
      rintro e w6 ⟨ya,yc,rfl,hrd,hyc,hb⟩;have HRD6:=hid hrd;have HYC6:=hid hyc;have HB6:=hid (HB5a.o.on hb);have HV6:=hid (HV5a.o.later hb);clear hrd hb hyc;refine hK.out _ _ ⟨HV6.o.t1,HV6.o.t2⟩ (fun hHeld=> ?_);clear hK K
      try simp only[Act.put,List.setIfInBounds_toArray,List.set_cons_zero,List.set_cons_succ]
      refine wpAnyH_take (i:=12) (v:= ?_) rfl (by kernel_rfl) (by kernel_rfl) (by kernel_rfl) (fun _ _ _ h=>h) (Or.inl ⟨by rfl,?_⟩) (by assumption) ?_
      rotate_left
      ·(intro w hSw;(try dsimp only at hSw);go_simp;try with_reducible rfl)
      try simp only[Act.put,List.setIfInBounds_toArray,List.set_cons_zero,List.set_cons_succ]
      simp only[Act.put,List.getElem_toArray,List.getElem_cons_succ,List.getElem_cons_zero,List.setIfInBounds_toArray,List.set_cons_zero,List.set_cons_succ];refine wpAnyH_done (by kernel_rfl) ?_ _;go_wp2_with fail;go_meet;exact⟨ya,yc,rfl,HRD6,HYC6,HB6⟩
     ·have hk1:=(Below.refl W1.heap.size W1).bMq (.cells #[.int .i64 n,.int .i64 r,.int .i64 l.length] 3);have HV1a:=hid (HV1.o.later hk1);have HB1a:=hid (HB1.o.on hk1);have HI1:=hid (RdI.lit W1 [n,r,(l.length:Int)] hL3 #[.int .i64 n,.int .i64 r,.int .i64 l.length] rfl);have HC1a:=hid (HC1.o.keep hk1);clear hk1;go_simp;refine hK.out _ _ ⟨HV1a.o.t1,HV1a.o.t2⟩ (fun hHeld=> ?_);clear hK K
      try simp only[Act.put,List.setIfInBounds_toArray,List.set_cons_zero,List.set_cons_succ]
      refine wpAnyH_ready (rs:=[3]) (by kernel_rfl) (by simp) ?_;refine AllReadyH.cons rfl (fun K hK=> ?_) AllReadyH.nil;go_simp
      (with_reducible refine(HAB.o _ _ _ (HY3.o.keep HB1a.o) HC1a.o).mono ?_)
      rintro e w5 ⟨v5,rfl,ho,hb⟩;obtain⟨xa,xc,rfl,hxc,_,hrd⟩:=ho.rd (by have:=hq1.o;omega);have HRD:=hid hrd;have HXC:=hid hxc;have HB5:=hid (HB1a.o.on hb);have HV5:=hid (HV1a.o.later hb);have HI5:=hid (HI1.o.keep hb);clear ho hb hrd hxc;refine hK.out _ _ ⟨HV5.o.t1,HV5.o.t2⟩ (fun hHeld=> ?_);clear hK K
      try simp only[Act.put,List.setIfInBounds_toArray,List.set_cons_zero,List.set_cons_succ]
      refine wpAnyH_ready (rs:=[11]) (by kernel_rfl) (by simp) ?_;refine AllReadyH.cons rfl (fun K hK=> ?_) AllReadyH.nil;go_simp
      (with_reducible refine(HN3.o _ _ _ _ _ HRD.o HI5.o HXC.o).mono ?_)
      rintro e w6 ⟨ya,yc,rfl,hrd,hyc,hb⟩;have HRD6:=hid hrd;have HYC6:=hid hyc;have HB6:=hid (HB5.o.on hb);have HV6:=hid (HV5.o.later hb);clear hrd hb hyc;refine hK.out _ _ ⟨HV6.o.t1,HV6.o.t2⟩ (fun hHeld=> ?_);clear hK K
      try simp only[Act.put,List.setIfInBounds_toArray,List.set_cons_zero,List.set_cons_succ]
      refine wpAnyH_take (i:=12) (v:= ?_) rfl (by kernel_rfl) (by kernel_rfl) (by kernel_rfl) (fun _ _ _ h=>h) (Or.inl ⟨by rfl,?_⟩) (by assumption) ?_
      rotate_left
      ·(intro w hSw;(try dsimp only at hSw);go_simp;try with_reducible rfl)
      try simp only[Act.put,List.setIfInBounds_toArray,List.set_cons_zero,List.set_cons_succ]
      simp only[Act.put,List.getElem_toArray,List.getElem_cons_succ,List.getElem_cons_zero,List.setIfInBounds_toArray,List.set_cons_zero,List.set_cons_succ];refine wpAnyH_done (by kernel_rfl) ?_ _;go_wp2_with fail;go_meet;exact⟨ya,yc,rfl,HRD6,HYC6,HB6⟩
    ·obtain⟨cap2,W2,hconv2,hcell2,hbel2⟩:=wQ nm (w4.alloc (.cells #[.int .i64 n,.int .i64 r,.int .i64 l.length] 3)).drew hnl9;have HC2:Hid (RdY W2 (some ⟨w4.heap.size+1,0,none⟩) nm):=hid (by simpa using hcell2);have HB2:=hid (HKA.o.on hbel2);have HV2:=hid (HDa.o.later hbel2);have HI2:=hid (((RdI.lit w4 [n,r,(l.length:Int)] hL3 #[.int .i64 n,.int .i64 r,.int .i64 l.length] rfl).keep (Below.refl _ _).drew).keep hbel2);clear hcell2 hbel2 hconv1;go_simp;refine hK.out _ _ ⟨HDa.o.t1,HDa.o.t2⟩ (fun hHeld=> ?_);clear hK K
     try simp only[Act.put,List.setIfInBounds_toArray,List.set_cons_zero,List.set_cons_succ]
     refine wpAnyH_ready (rs:=[2]) (by kernel_rfl) (by simp) ?_;refine AllReadyH.cons rfl (fun K hK=> ?_) AllReadyH.nil;go_simp;refine hK.out _ _ ⟨HV2.o.t1,HV2.o.t2⟩ (fun hHeld=> ?_);clear hK K
     try simp only[Act.put,List.setIfInBounds_toArray,List.set_cons_zero,List.set_cons_succ]
     refine wpAnyH_ready (rs:=[3]) (by kernel_rfl) (by simp) ?_;refine AllReadyH.cons rfl (fun K hK=> ?_) AllReadyH.nil;go_simp
     (with_reducible refine(HAB.o _ _ _ (HY3.o.keep HB2.o) HC2.o).mono ?_)
     rintro e w5 ⟨v5,rfl,ho,hb⟩;obtain⟨xa,xc,rfl,hxc,_,hrd⟩:=ho.rd (by have:=hq1.o;omega);have HRD:=hid hrd;have HXC:=hid hxc;have HB5:=hid (HB2.o.on hb);have HV5:=hid (HV2.o.later hb);have HI5:=hid (HI2.o.keep hb);clear ho hb hrd hxc;refine hK.out _ _ ⟨HV5.o.t1,HV5.o.t2⟩ (fun hHeld=> ?_);clear hK K
     try simp only[Act.put,List.setIfInBounds_toArray,List.set_cons_zero,List.set_cons_succ]
     refine wpAnyH_ready (rs:=[11]) (by kernel_rfl) (by simp) ?_;refine AllReadyH.cons rfl (fun K hK=> ?_) AllReadyH.nil;go_simp
     (with_reducible refine(HN3.o _ _ _ _ _ HRD.o HI5.o HXC.o).mono ?_)
     rintro e w6 ⟨ya,yc,rfl,hrd,hyc,hb⟩;have HRD6:=hid hrd;have HYC6:=hid hyc;have HB6:=hid (HB5.o.on hb);have HV6:=hid (HV5.o.later hb);clear hrd hb hyc;refine hK.out _ _ ⟨HV6.o.t1,HV6.o.t2⟩ (fun hHeld=> ?_);clear hK K
     try simp only[Act.put,List.setIfInBounds_toArray,List.set_cons_zero,List.set_cons_succ]
     refine wpAnyH_take (i:=12) (v:= ?_) rfl (by kernel_rfl) (by kernel_rfl) (by kernel_rfl) (fun _ _ _ h=>h) (Or.inl ⟨by rfl,?_⟩) (by assumption) ?_
     rotate_left
     ·(intro w hSw;(try dsimp only at hSw);go_simp;try with_reducible rfl)
     try simp only[Act.put,List.setIfInBounds_toArray,List.set_cons_zero,List.set_cons_succ]
     simp only[Act.put,List.getElem_toArray,List.getElem_cons_succ,List.getElem_cons_zero,List.setIfInBounds_toArray,List.set_cons_zero,List.set_cons_succ];refine wpAnyH_done (by kernel_rfl) ?_ _;go_wp2_with fail;go_meet;exact⟨ya,yc,rfl,HRD6,HYC6,HB6⟩
   case rest=>
    obtain ⟨ab2,cb2,rfl,hy,hqc,hbc⟩:=hcut;have HYC:=hid hy.o;have HLC:=hid (HL4.o.keep hbc.o);have HNC:=hid (HN3.o.keep hbc.o);have HBC:=hid (HB3.o.on hbc.o);have hll:=HLL.o;have HQL:Hid (∀j,(Q2++iZ (l.take j)).length<=90000000):=hid fun j=>by
     rw[List.length_append,<-HQ2.o,List.length_append];have h1:=xG [n,r,(l.length:Int)];have h2:=aCm (l.take j);have h3:(l.take j).length<=l.length:=by rw[List.length_take];omega
     have h4:=hq1.o;simp at h1;omega
    clear hy hbc HY3 HN3 HB3 HL4 HSV HV4;go_wp2_with fail;go_loopw [4,64] (fun b i wi=>∃ (j:Nat) (ax:Option Addr) (cx:Nat) (X:List UInt8),j<=l.length/\i= .int .i64 j/\b= .slice ax X.length cx/\Hid (X=Q2++iZ (l.take j))/\Hid (RdY wi ax X)/\Hid (X.length<=cx)/\Hid (Below wc.heap.size wc wi)) (fun _ i _=>l.length-(intOf i).toNat)
    case atStart=>exact⟨0,ab2,cb2,Q2,Nat.zero_le _,rfl,rfl,hid (by simp[iZ]),HYC,hqc,hid (Below.refl _ _)⟩
    case round=>
     obtain⟨j,ax,cx,Y,hj,rfl,rfl,hX,hXY,hXQ,hXB⟩:=hrel;by_cases hjl:j<l.length
     ·obtain⟨lb,lo,rfl,hat⟩:=(HLC.o.keep hXB.o).at (by omega);obtain⟨x1,x2,x3⟩:=hat j _ (List.getElem?_eq_getElem hjl);have HE:=hid (aHm l j hjl);have hj0:(0:Int)<=j:=by omega
      have hj1:(j:Int)<l.length:=by omega
      have hYl:Y.length<=90000000:=by rw[hX.o];exact HQL.o j
      generalize l[j]=z at *;clear hat;obtain⟨Y2,hY2⟩:∃ Q,Y++numsL [z.a,z.n,z.s]=Q:=⟨_,rfl⟩;have HY2:=hid hY2;have hk:=((Below.refl wr.heap.size wr).bMq (.cells #[.int .i64 z.a,.int .i64 z.n,.int .i64 z.s] 81));have hk2:=hk.bMq (.cells #[.int .i64 z.a,.int .i64 z.n,.int .i64 z.s] 3);have hRL:=RdI.lit (wr.alloc (.cells #[.int .i64 z.a,.int .i64 z.n,.int .i64 z.s] 81)) [z.a,z.n,z.s] (by simp) #[.int .i64 z.a,.int .i64 z.n,.int .i64 z.s] rfl;rw[World.size_alloc]at hRL;have HN3:=hid (numbers3c z.a z.n z.s Y Y2 ax _ cx 3 _ (hXY.o.keep hk2) hRL (by omega) hY2 hXQ.o);clear hRL;have HK2:=hid (hXB.o.on hk2);clear hY2 hk hk2;go_wp2_with fail
      (with_reducible refine HN3.o.mono ?_)
      rintro e w7 ⟨ya,yc,rfl,hrd,hyc,hb⟩;have HRD:=hid hrd;have HYC7:=hid hyc;have HB7:=hid (HK2.o.on hb);clear hrd hb hyc;go_wp2_with fail;go_roundw
      case rel=>exact⟨j+1,ya,yc,Y2,by omega,by go_num,rfl,hid (by rw[HE.o,<-HY2.o,hX.o,List.append_assoc];rfl),HRD,HYC7,HB7⟩
      case measure=>simp[intOf];omega
     ·obtain rfl:j=l.length:=by omega
      have HPK:Hid (Y=P0++(F.vs.take (k+1)).flatMap wL):=hid (by
       rw[HT.o,<-List.append_assoc,<-hP.o,hX.o,List.take_length,<-HQ2.o,<-HQ1.o];unfold wL
       simp only[List.append_assoc])
      have HBB:=hid (HBC.o.on hXB.o);have HNN:=hid (HNC.o.keep hXB.o);clear hX hP;go_wp2_with fail;go_roundw
      case rel=>exact⟨k+1,ax,cx,Y,by omega,by go_num,rfl,HPK,hXY,hXQ,HNN,HBB⟩
      case measure=>simp[intOf];omega
  ·obtain rfl:k=F.vs.length:=by omega
   have HE:Hid (P=jG F):=hid (by rw[hP.o,<-HP0.o,List.take_length];rfl);clear hP;go_wp2_with fail;go_ret;exact⟨ab,cb,by rw[HE.o];rfl,by rw[<-HE.o];exact hY.o,by rw[<-HE.o];exact hQ.o,hB.o⟩
theorem qF (M:Nat) (F:Fam) (w:World) (hF:F.ok) (hs:∀ v∈F.vs,v.l.length<=9000) (h:dU w M F):
  Calls Tryz.prog 6 #[.pointer (some ⟨M,0,none⟩)] w fun e w'=>∃ a c,e= .returned (.slice a (jG F).length c)/\RdY w' a (jG F)/\Below w.heap.size w w':=
 (mstate_cap M F w hF hs h).mono fun _ _ ⟨a,c,h1,h2,_,h3⟩=>⟨a,c,h1,h2,h3⟩
end Go.Proofs.YtaiklhbakldfhaaGreat
