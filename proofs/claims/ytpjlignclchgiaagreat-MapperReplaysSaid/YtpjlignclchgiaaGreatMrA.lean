/-
  The walk of MapperReplays.
  Conditions: as the theorem says.
-/
import Derived.Test.YtpjlignclchgiaaGreatJA
import Derived.Test.YtpjlignclchgiaaGreatMqQ
namespace Go.Proofs.YtpjlignclchgiaaGreat
open Go.Lib (hid)
set_option linter.unusedSimpArgs false
set_option linter.unusedVariables false
set_option maxRecDepth 100000
set_option maxHeartbeats 16000000
open Go.RowKit Go.Maps
theorem law_replays38 (i:Int) (S:List aW) (fx:Int) (a:Option Addr) (c:Nat) (w:World) (hi:0<=i/\i<=255) (hr:mQ w a S) (hfx:0<=fx/\fx<=255):
  Calls Tryz.prog 9 #[.int .u8 i,.slice a S.length c,.int .u8 fx] w fun e w'=>e= .returned (.bool true)/\Below w.heap.size w w':=by
 obtain⟨n,rfl⟩:=Int.eq_ofNat_of_zero_le hi.1;have hn:n<=255:=by omega
 have hlen:=hr.1;by_cases h25:20<S.length
 ·go_enter Tryz.func9,Tryz.ntmps9;go_wp2_with fail;refine(eU _).mono ?_;rintro e w1 ⟨rfl,hb1⟩;go_wp2_with fail;go_ret;exact⟨rfl,by first|exact hb1|exact HK0.o.on hb1⟩
 have hS20:S.length<=1000:=by omega
 go_enter Tryz.func9,Tryz.ntmps9;go_wp2_with fail;refine(eU _).mono ?_;rintro e w1 ⟨rfl,hb1⟩;go_wp2_with fail;refine(qZ n S a c _ hn hS20 (hr.keep hb1)).mono ?_;rintro e w2 ⟨M,F,gv,ns,na,nc,rfl,hsd,hon,hsm,hFN,hmb,hfr,hnr,hns,hfw,hch,hMw,hb2⟩;obtain⟨ra,rn,rc,rfl⟩:=hfr.form;have hk2:=(Below.refl w2.heap.size w2).bMq (.cells #[.int .i64 F.N,.slice ra rn rc] 30);have hm0:n%50<=65536:=by omega
 have hm50:n%50<50:=by omega
 have hmod:((n:Int)%50)=((n%50:Nat):Int):=by omega
 obtain⟨m,hm⟩:∃ m,n%50=m:=⟨_,rfl⟩;rw[hm]at hch hm0 hm50 hmod;have HM:=hid hmod;obtain⟨f,hf0,hfn,hfi⟩:=chain_fun hch;have HF0:=hid hf0;rw[List.length_map]at hfn;have HFN:=hid hfn;have HFI:=hid hfi;have HSD:=hid hsd;have HMB:=hid (hmb.later hk2);have HNR:=hid (hnr.keep hk2);have HNS:=hid (hns.keep hk2);have HBW:=hid ((hb1.on hb2).on hk2);obtain⟨P,hP⟩:∃ P,jG F=P:=⟨_,rfl⟩;have HST:=hid (fun M W (h:dU W M F)=>qF M F W hsd.ok hsd.short h);rw[hP]at HST;have hN1:(0:Int)<=ns.length:=by omega
 have hN2:(ns.length:Int)<=1000:=by omega
 clear hk2 hsd hon hsm hFN hmb hfr hnr hns hch hMw hb1 hb2 hm hmod hf0 hfn hfi hr hP;go_wp2_with fail;generalize w2.alloc (.cells #[.int .i64 F.N,.slice ra rn rc] 30)=W0 at *;rw[HM.o];refine(aAl m _ hm0).mono ?_;rintro e w3 ⟨X0,rfl,hX0,hmx,hb⟩;have HMX:=hid hmx;have HX0:=hid hX0;have HB0:=hid hb;clear hX0 hmx hb;go_wp2_with fail;generalize fx%((ns.length:Int)+1)=q at *;go_loopw [11,14] (fun x i wr=>∃ (k:Nat) (X:Nat),k<=ns.length/\i= .int .i64 k/\x= .pointer (some ⟨X,0,none⟩)/\dU wr X (f k)/\W0.heap.size<=X/\Below W0.heap.size W0 wr) (fun _ i _=>ns.length-(intOf i).toNat)
 case atStart=>exact⟨0,X0,Nat.zero_le _,rfl,rfl,by rw[HF0.o];exact HMX.o,HX0.o,HB0.o⟩
 case round=>
  clear HMX HX0 HB0;obtain⟨k,X,hk,rfl,rfl,hmx,hX,hbx⟩:=hrel;by_cases hlt:k<ns.length
  ·obtain ⟨x,hx⟩:∃ x,ns[k]=x:=⟨_,rfl⟩;have hxm:x∈ns:=by rw[<-hx];exact List.getElem_mem _
   obtain ⟨nb,no,rfl,hat⟩:∃ b o,na=some ⟨b,o,none⟩/\ ∀k u,(ns.map NS.v)[k]? =some u->W0.cell? ⟨b,o+k,none⟩=some u:=
    HNR.o.resolve_left (fun e=>by have:=congrArg List.length e;simp at this;rw[this]at hlt;simp at hlt)
   have hcx:=hat k (NS.v x) (by rw[List.getElem?_map,List.getElem?_eq_getElem hlt,hx];rfl);obtain⟨s1,s2,s3,s4⟩:=HFI.o k x.N (by rw[List.getElem?_map,List.getElem?_eq_getElem hlt,hx];rfl);obtain⟨xa,xc,N⟩:=x;have hRX:RdY W0 xa N:=HNS.o _ hxm;simp only[NS.v]at hcx s4;obtain⟨Q,hQ⟩:∃ Q,jG (f k)=Q:=⟨_,rfl⟩;have s3':(f k).N=m:=s3;have hlo:=fun(a:Option Addr) (c:Nat) W h=>mload_state (F:=f k) (l:=Q) s1 s2 (by rw[s3'];exact hm50) hQ a c W h;have HSK:=hid (fun M W (h:dU W M (f k))=>qF M (f k) W s1.ok s1.short h);rw[s3']at hlo;rw[hQ]at HSK;have HLO:=hid hlo;have HS1:=hid s1;have HS4:=hid s4;have HRX:=hid hRX;have HCX:=hid hcx;have HMX:=hid hmx;have HBX:=hid hbx;have hk0:(0:Int)<=k:=by omega
   have hk1:(k:Int)<ns.length:=by omega
   clear hat hx hxm hcx s1 s2 s3 s3' s4 hRX hQ hlo hmx hbx;by_cases hkq:(k:Int)=q
   ·have hkb:((k:Int)==q)=true:=by simpa using hkq
    have HQ9:=hid hkq;clear hkq;go_wp2_with fail;refine(HSK.o _ _ HMX.o).mono ?_;rintro e w4 ⟨sa,sc,rfl,hrd,hb⟩;replace HBX:=hid (HBX.o.on hb);have HRD:=hid hrd;clear hrd hb;go_wp2_with fail;rw[HM.o];refine(HLO.o _ _ _ HRD.o).mono ?_;rintro e w5 ⟨X2,rfl,hm2,hX2,hb⟩;have hX3:W0.heap.size<=X2:=Nat.le_trans HBX.o.size hX2;replace HBX:=hid (HBX.o.on hb);replace HMX:=hid hm2;have hcx:=HBX.o.keep HCX.o;clear hm2 hX2 hb hX;go_wp2_with fail;refine(gX X2 (f k) (f (k+1)) 0 N xa xc _ HS1.o.ok HS1.o.short8 HMX.o (HRX.o.keep HBX.o) HS4.o).mono ?_;rintro e w6 ⟨rfl,hm6,hg6⟩;replace HBX:=hid (HBX.o.bMu hg6 fun j e=>by injection e with e;omega);replace HMX:=hid hm6;clear hm6 hg6 hcx;go_wp2_with fail;go_roundw
    case rel=>exact⟨k+1,X2,by omega,by go_num,rfl,HMX.o,hX3,HBX.o⟩
    case measure=>simp[intOf];omega
   ·have hkb:((k:Int)==q)=false:=by simpa using hkq
    clear hkq;have hcx:=HBX.o.keep HCX.o;go_wp2_with fail;refine(gX X (f k) (f (k+1)) 0 N xa xc _ HS1.o.ok HS1.o.short8 HMX.o (HRX.o.keep HBX.o) HS4.o).mono ?_;rintro e w6 ⟨rfl,hm6,hg6⟩;replace HBX:=hid (HBX.o.bMu hg6 fun j e=>by injection e with e;omega);replace HMX:=hid hm6;clear hm6 hg6 hcx;go_wp2_with fail;go_roundw
    case rel=>exact⟨k+1,X,by omega,by go_num,rfl,HMX.o,hX,HBX.o⟩
    case measure=>simp[intOf];omega
  ·obtain rfl:k=ns.length:=by omega
   rw[HFN.o]at hmx;have HMX:=hid hmx;have HBX:=hid hbx;clear hmx hbx hlt hk;go_upto_region 20 with fail;have HMd:=hid ((HMB.o.later HBX.o).later (Below.refl _ _).drew);have HXd:=hid (HMX.o.later (Below.refl _ _).drew);have HBd:=hid (HBW.o.on HBX.o.drew);refine wp_region_held_drew (S:=(fun _=>True)) (by kernel_rfl) trivial (fun hHeld=> ?_);refine wpAnyH_take (i:=0) (v:= ?_) rfl (by kernel_rfl) (by kernel_rfl) (by kernel_rfl) (fun _ _ _ h=>h) (Or.inl ⟨by rfl,?_⟩) (by assumption) ?_
   rotate_left
   ·(intro w hSw;(try dsimp only at hSw);go_simp;try with_reducible rfl)
   try simp only[Act.put,List.setIfInBounds_toArray,List.set_cons_zero,List.set_cons_succ]
   refine wpAnyH_take (i:=3) (v:= ?_) rfl (by kernel_rfl) (by kernel_rfl) (by kernel_rfl) (fun _ _ _ h=>h) (Or.inl ⟨by rfl,?_⟩) (by assumption) ?_
   rotate_left
   ·(intro w hSw;(try dsimp only at hSw);go_simp;try with_reducible rfl)
   try simp only[Act.put,List.setIfInBounds_toArray,List.set_cons_zero,List.set_cons_succ]
   refine wpAnyH_ready (rs:=[1]) (by kernel_rfl) (by simp) ?_;refine AllReadyH.cons rfl (fun K hK=> ?_) AllReadyH.nil;go_simp;refine(HST.o _ _ HXd.o).mono ?_;rintro e v1 ⟨sa,sc,rfl,hrd1,hb1⟩;have hcv1:=hrd1.bMz (c:=sc);have HR1:=hid hrd1;replace HMd:=hid (HMd.o.later hb1);replace HBd:=hid (HBd.o.on hb1);clear hrd1 hb1;refine hK.out _ _ trivial (fun hHeld=> ?_);clear hK K
   try simp only[Act.put,List.setIfInBounds_toArray,List.set_cons_zero,List.set_cons_succ]
   refine wpAnyH_ready (rs:=[2,4]) (by kernel_rfl) (by simp) ?_;refine AllReadyH.cons rfl (fun K hK=> ?_) (AllReadyH.cons rfl (fun K hK=> ?_) AllReadyH.nil)
   ·go_simp;refine hK.out _ _ trivial (fun hHeld=> ?_);clear hK K
    try simp only[Act.put,List.setIfInBounds_toArray,List.set_cons_zero,List.set_cons_succ]
    refine wpAnyH_ready (rs:=[4]) (by kernel_rfl) (by simp) ?_;refine AllReadyH.cons rfl (fun K hK=> ?_) AllReadyH.nil;go_simp;refine(HST.o _ _ HMd.o).mono ?_;rintro e v2 ⟨sa2,sc2,rfl,hrd2,hb2⟩;have hcv2:=hrd2.bMz (c:=sc2);have HZ:=hid (HBd.o.on hb2);clear hrd2 hb2;refine hK.out _ _ trivial (fun hHeld=> ?_);clear hK K
    try simp only[Act.put,List.setIfInBounds_toArray,List.set_cons_zero,List.set_cons_succ]
    refine wpAnyH_ready (rs:=[5]) (by kernel_rfl) (by simp) ?_;refine AllReadyH.cons rfl (fun K hK=> ?_) AllReadyH.nil;go_simp;go_simp;refine hK.out _ _ trivial (fun hHeld=> ?_);clear hK K
    try simp only[Act.put,List.setIfInBounds_toArray,List.set_cons_zero,List.set_cons_succ]
    clear hcv1 hcv2;refine wpAnyH_take (i:=6) (v:=(.bool true)) rfl (by kernel_rfl) (by kernel_rfl) (by kernel_rfl) (fun _ _ _ h=>h) (Or.inl ⟨by rfl,?_⟩) (by assumption) ?_
    ·(intro w hSw;(try dsimp only at hSw);go_simp)
    try simp only[Act.put,List.getElem_toArray,List.getElem_cons_succ,List.getElem_cons_zero,List.setIfInBounds_toArray,List.set_cons_zero,List.set_cons_succ]
    refine wpAnyH_ready (rs:=[7]) (by kernel_rfl) (by simp) ?_;refine AllReadyH.cons rfl (fun K hK=> ?_) AllReadyH.nil;go_simp;refine hK.out _ _ trivial (fun hHeld=> ?_);clear hK K
    try simp only[Act.put,List.setIfInBounds_toArray,List.set_cons_zero,List.set_cons_succ]
    refine wpAnyH_done (by kernel_rfl) ?_ _;go_wp2_with fail;go_ret;exact⟨rfl,HZ.o⟩
   ·go_simp;refine(HST.o _ _ HMd.o).mono ?_;rintro e v2 ⟨sa2,sc2,rfl,hrd2,hb2⟩;have hcv2:=hrd2.bMz (c:=sc2);have hcv3:=(HR1.o.keep hb2).bMz (c:=sc);have HZ:=hid (HBd.o.on hb2);clear hrd2 hb2;refine hK.out _ _ trivial (fun hHeld=> ?_);clear hK K
    try simp only[Act.put,List.setIfInBounds_toArray,List.set_cons_zero,List.set_cons_succ]
    refine wpAnyH_ready (rs:=[2,5]) (by kernel_rfl) (by simp) ?_;refine AllReadyH.cons rfl (fun K hK=> ?_) (AllReadyH.cons rfl (fun K hK=> ?_) AllReadyH.nil)
    ·go_simp;refine hK.out _ _ trivial (fun hHeld=> ?_);clear hK K
     try simp only[Act.put,List.setIfInBounds_toArray,List.set_cons_zero,List.set_cons_succ]
     refine wpAnyH_ready (rs:=[5]) (by kernel_rfl) (by simp) ?_;refine AllReadyH.cons rfl (fun K hK=> ?_) AllReadyH.nil;go_simp;go_simp;refine hK.out _ _ trivial (fun hHeld=> ?_);clear hK K
     try simp only[Act.put,List.setIfInBounds_toArray,List.set_cons_zero,List.set_cons_succ]
     clear hcv1 hcv2;refine wpAnyH_take (i:=6) (v:=(.bool true)) rfl (by kernel_rfl) (by kernel_rfl) (by kernel_rfl) (fun _ _ _ h=>h) (Or.inl ⟨by rfl,?_⟩) (by assumption) ?_
     ·(intro w hSw;(try dsimp only at hSw);go_simp)
     try simp only[Act.put,List.getElem_toArray,List.getElem_cons_succ,List.getElem_cons_zero,List.setIfInBounds_toArray,List.set_cons_zero,List.set_cons_succ]
     refine wpAnyH_ready (rs:=[7]) (by kernel_rfl) (by simp) ?_;refine AllReadyH.cons rfl (fun K hK=> ?_) AllReadyH.nil;go_simp;refine hK.out _ _ trivial (fun hHeld=> ?_);clear hK K
     try simp only[Act.put,List.setIfInBounds_toArray,List.set_cons_zero,List.set_cons_succ]
     refine wpAnyH_done (by kernel_rfl) ?_ _;go_wp2_with fail;go_ret;exact⟨rfl,HZ.o⟩
    ·go_simp;refine hK.out _ _ trivial (fun hHeld=> ?_);clear hK K
     try simp only[Act.put,List.setIfInBounds_toArray,List.set_cons_zero,List.set_cons_succ]
     refine wpAnyH_ready (rs:=[2]) (by kernel_rfl) (by simp) ?_;refine AllReadyH.cons rfl (fun K hK=> ?_) AllReadyH.nil;go_simp;go_simp;refine hK.out _ _ trivial (fun hHeld=> ?_);clear hK K
     try simp only[Act.put,List.setIfInBounds_toArray,List.set_cons_zero,List.set_cons_succ]
     clear hcv1 hcv2;refine wpAnyH_take (i:=6) (v:=(.bool true)) rfl (by kernel_rfl) (by kernel_rfl) (by kernel_rfl) (fun _ _ _ h=>h) (Or.inl ⟨by rfl,?_⟩) (by assumption) ?_
     ·(intro w hSw;(try dsimp only at hSw);go_simp)
     try simp only[Act.put,List.getElem_toArray,List.getElem_cons_succ,List.getElem_cons_zero,List.setIfInBounds_toArray,List.set_cons_zero,List.set_cons_succ]
     refine wpAnyH_ready (rs:=[7]) (by kernel_rfl) (by simp) ?_;refine AllReadyH.cons rfl (fun K hK=> ?_) AllReadyH.nil;go_simp;refine hK.out _ _ trivial (fun hHeld=> ?_);clear hK K
     try simp only[Act.put,List.setIfInBounds_toArray,List.set_cons_zero,List.set_cons_succ]
     refine wpAnyH_done (by kernel_rfl) ?_ _;go_wp2_with fail;go_ret;exact⟨rfl,HZ.o⟩
end Go.Proofs.YtpjlignclchgiaaGreat
