/-
  tegularef38: Single; the walk of MapperExclusive.
  Conditions: as the theorems say.
-/
import Derived.Test.YtpjlignclchgiaaGreatMqQ
import Derived.Lib.MinMax
namespace Go.Proofs.YtpjlignclchgiaaGreat
open Go.Lib (hid)
set_option linter.unusedSimpArgs false
set_option linter.unusedVariables false
set_option maxRecDepth 100000
set_option maxHeartbeats 16000000
open Go.RowKit Go.Maps
theorem ex_find {C:List Int} {l:List E} {b:Int} {N:Nat} (hp:permB N l=true) (h:exB C l b=true):∃ s:Nat,findB l b=true∧findS l b=s∧C.getD s 0=1∧s<C.length:=by
 unfold exB at h;rw[slot_find]at h;cases hf:findB l b
 ·rw[hf,if_neg (by decide)]at h;cases h
 ·rw[hf,if_pos rfl]at h;obtain⟨s,hs⟩:=Int.eq_ofNat_of_zero_le (find_fit b hp hf).1;have h:oneB C (findS l b).toNat=true:=h;rw[hs,Int.toNat_natCast]at h;obtain⟨h1,h2⟩:=one_lt h;exact⟨s,rfl,hs,h2,h1⟩
theorem rlookup38b (F:Fam) (i0:Int) (b0:Bool) (e0:Int) (fv:Value) (nm:List UInt8) (p:Int) (w:World) (hF:F.ok) (h:FamR w fv F) (hn:nm.length≤maxLen) (he:lookupF F nm p=(i0,b0,e0)):
  Calls Tryz.prog 69 #[fv,nmV nm,.int .i64 p] w fun e w'=>e= .returned (.tuple #[.int .i64 i0,.bool b0,.int .i64 e0])∧Below w.heap.size w w':=by
 have:=rlookup_is F fv nm p w hF h hn
 rwa [he]at this
theorem rsingle38_is (F:Fam) (v:Vol) (p n:Nat) (hF:F.ok) (hv:getV F.vs v.nm=some v) (hb:((p+n:Nat):Int)≤v.n) (hex:∀ b:Nat,p≤b→b<p+n→exB F.C v.l b=true) (gv:Value) (ca:Option Addr) (cc:Nat) (w:World) (hg:FamR w gv F) (hc:RdI w ca F.C):
  Calls Tryz.prog 27 #[gv,.slice ca F.C.length cc,nmV v.nm,.int .i64 p,.int .i64 n] w fun e w'=>e= .returned (.bool true)∧Below w.heap.size w w':=by
 have hok:=hF.vol v (getV_mem hv).1;have hn2:=hok.n2;have hnm:v.nm.length≤maxLen:=nameB_max hok.name;have HLK:=hid (fun(k:Nat) (h1:p≤k) (h2:k<p+n)=>ex_find hok.perm (hex k h1 h2));have HLU:=hid (fun(k:Nat) (h1:p≤k) (h2:k<p+n) W fv hfv=>rlookup38b F (findS v.l k) (findB v.l k) 0 fv v.nm k W hF hfv hnm (lookup_in hv (by omega) (by omega)));obtain⟨nm,hnme⟩:∃ nm,v.nm=nm:=⟨_,rfl⟩;rw[hnme]at HLU hnm ⊢;have HC:=hid hc;obtain⟨ra,rn,rc,rfl⟩:=hg.form;have HH:=hid (QM.init w _ _ F hg);have hpn:p+n≤65536:=by omega
 clear hok hg hc hex hnme hv hn2 hb;go_enter Tryz.func27,Tryz.ntmps27;go_wp2_with fail;go_loopw [11] (fun i wr=>∃ k:Nat,p≤k∧k≤p+n∧i= .int .i64 k∧QM w wr (.int .i64 F.N) (.slice ra rn rc) F) (fun i _=>p+n-(intOf i).toNat)
 case atStart=>exact⟨p,Nat.le_refl _,by omega,rfl,HH.o⟩
 case round=>
  clear HH;obtain⟨k,hk1,hk2,rfl,hq⟩:=hrel;have HM:=hid hq;clear hq;by_cases hlt:k<p+n
  ·obtain⟨s,h1,h2,h3,h4⟩:=HLK.o k hk1 hlt;have HLJ:=hid (HLU.o k hk1 hlt);rw[h1,h2]at HLJ;obtain⟨cb,co,rfl,hatc⟩:=(HC.o.keep HM.o.B).at (by omega);have hcs:=hatc s _ (getD_some F.C s h4);rw[h3]at hcs;have hs0:(0:Int)≤s:=by omega
   have hs1:(s:Int)<F.C.length:=by omega
   have hk0:(k:Int)<p+n:=by omega
   have b0:=HM.o.b0;have b1:=HM.o.b1;clear hatc h1 h2 h3 h4;go_wp2_with fail;refine(HLJ.o _ _ HM.o.fam).mono ?_;rintro e w3 ⟨rfl,hb⟩;have hcs3:=hb.keep hcs;replace HM:=hid (HM.o.later hb);clear hb hcs b0 b1;go_wp2_with fail;go_roundw
   case rel=>exact⟨k+1,by omega,by omega,by go_num,HM.o⟩
   case measure=>simp[intOf];omega
  ·have hkn:k=p+n:=by omega
   have hB:=HM.o.B;clear HM;go_wp2_with fail;go_ret;exact⟨rfl,hB⟩
theorem plan_two {F:Fam} {v:Vol} {p n:Nat} (hF:F.ok) (hv:getV F.vs v.nm=some v) (hb:((p+n:Nat):Int)≤v.n) (hn:1≤n∧n≤16):planE F v.nm p n=0∨planE F v.nm p n=11:=by
 rw[plan_can _ _ hv (by omega)];unfold canWriteF;rw[need_range hF hv p n hb];rw[if_pos rfl];unfold enoughN
 split
 ·exact .inr rfl
 ·exact .inl rfl
theorem WrJ.excl {F:Fam} {v:Vol} {p n:Nat} {S:List Int} {G:Fam} {L:List E} (hw:WrJ F v p n S n G L):∀ b:Nat,p≤b→b<p+n→exB G.C (v.set L).l b=true:=by
 obtain ⟨l,g1,g2,_⟩:=hw.wi.get;obtain rfl:l=L:=by
  have:=g1.symm.trans hw.get;exact congrArg Vol.l (Option.some.inj this)
 exact g2
structure LX (w0 W:World) (M T:Nat) (F:Fam) (u v:Value) (p q:Int):Prop where
 lm:LM w0 W M T F F u v
 pb:Bx W w0.heap.size 57 (.int .u8 p) (.int .u8 q)
theorem LX.later {w0 W W':World} {M T:Nat} {F:Fam} {u v:Value} {p q:Int} (h:LX w0 W M T F u v p q) (hb:Below W.heap.size W W'):LX w0 W' M T F u v p q:=⟨h.lm.later hb,h.pb.later hb⟩
theorem law_exclusive38 (i:Int) (S:List Step36) (p q:Int) (a:Option Addr) (c:Nat) (w:World) (hi:0≤i∧i≤255) (hr:RdS36 w a S) (hp:0≤p∧p≤255) (hq:0≤q∧q≤255):
  Calls Tryz.prog 6 #[.int .u8 i,.slice a S.length c,.agg #[.int .u8 p,.int .u8 q]] w fun e w'=>e= .returned (.bool true)∧Below w.heap.size w w':=by
 have hk0:=(Below.refl w.heap.size w).onAlloc (.cells #[.int .u8 p,.int .u8 q] 57);have HK0:=hid hk0;replace hr:=hr.keep hk0;have HPB:=hid (Bx.new w _ rfl (.int .u8 p) (.int .u8 q) 57);clear hk0;obtain⟨p1,p2⟩:=hp;obtain⟨q1,q2⟩:=hq;obtain⟨n,rfl⟩:=Int.eq_ofNat_of_zero_le hi.1;have hn:n≤255:=by omega
 have hlen:=hr.1;by_cases h25:20<S.length
 ·go_enter Tryz.func6,Tryz.ntmps6;go_wp2_with fail;refine(awake38_is _).mono ?_;rintro e w1 ⟨rfl,hb1⟩;go_wp2_with fail;go_ret;exact⟨rfl,by first|exact hb1|exact HK0.o.on hb1⟩
 have hS20:S.length≤1000:=by omega
 go_enter Tryz.func6,Tryz.ntmps6;go_wp2_with fail;refine(awake38_is _).mono ?_;rintro e w1 ⟨rfl,hb1⟩;go_wp2_with fail;refine(build38_is n S a c _ hn hS20 (hr.keep hb1)).mono ?_;rintro e w2 ⟨M,F,gv,ns,na,nc,rfl,hsd,hon,hsm,hFN,hmb,hfr,hnr,hns,hfw,hch,hMw,hb2⟩;obtain⟨ra,rn,rc,rfl⟩:=hfr.form;have HL:Hid (LX w _ M w2.heap.size F (.int .i64 F.N) (.slice ra rn rc) p q):=hid ⟨LM.new hmb hfr (HK0.o.on (hb1.on hb2)) (by have h1:=HK0.o.size;have h2:=hb1.size;omega),(HPB.o.later (hb1.on hb2)).later ((Below.refl _ _).onAlloc (.cells #[.int .i64 F.N,.slice ra rn rc] 30))⟩;have HSD:=hid hsd;have HON:=hid hon;clear hsd hon hsm hFN hmb hfr hnr hns hfw hch hMw hb1 hb2 HPB;go_wp2_with fail;generalize w2.alloc (.cells #[.int .i64 F.N,.slice ra rn rc] 30)=W0 at *;generalize w2.heap.size=T at *;obtain⟨a2,c2,ts,he,hr2,hl2,hts,_⟩:=HL.o.lm.fam;obtain⟨rfl,rfl,rfl⟩:ra=a2∧rn=ts.length∧rc=c2:=by
  injection he with he;have h1:=congrArg Array.toList he;simp at h1;exact h1
 have HR:=hid hr2;have HTS:=hid hts;have h32:=(fit_len HSD.o.ok hts).2;clear he hr2 hl2 hts;go_loopw [11] (fun i wr=>∃ k:Nat,k≤ts.length∧i= .int .i64 k∧Below W0.heap.size W0 wr) (fun i _=>ts.length-(intOf i).toNat)
 case atStart=>exact⟨0,by omega,rfl,Below.refl _ _⟩
 case round=>
  obtain⟨k,hk,rfl,hB⟩:=hrel;have HM:=hid (HL.o.later hB);have HB0:=hid hB;have c1:=HM.o.lm.fb.c1;by_cases hlt:k<ts.length
  ·obtain ⟨b,o,rfl,hat⟩:=(HR.o.keep hB).at (by omega);obtain⟨e0,e1,e2,e3⟩:=hat k _ (List.getElem?_eq_getElem hlt);have hmem:ts[k].vol∈F.vs:=by rw[←HTS.o];exact List.mem_map_of_mem (List.getElem_mem hlt)
   generalize ts[k]=y at *;obtain⟨ynm,yn,yr,ya,yc,yl⟩:=y;have hok:=HSD.o.ok.vol _ hmem;have n1:1≤yn:=hok.n1;have n2:yn≤65536:=hok.n2;have hnl:ynm.length≤1000000:=by
    have h1:nameB ynm=true:=hok.name;have:=(nameB_len h1).2;omega
   have hg:getV F.vs (⟨ynm,yn,yr,yl⟩:Vol).nm=some ⟨ynm,yn,yr,yl⟩:=getV_of HSD.o.ok.sorted hmem;obtain⟨x0,hx0⟩:∃ x0:Nat,p%yn=x0:=⟨(p%yn).toNat,by have:=Int.emod_nonneg p (show yn≠0 by omega);omega⟩;have hx1:(x0:Int)<yn:=by rw[←hx0];exact Int.emod_lt_of_pos _ (by omega)
   obtain⟨mn,hmn⟩:∃ mn:Int,min 16 (yn-x0)=mn:=⟨_,rfl⟩;have hmn1:1≤mn∧mn≤16∧mn≤yn-x0:=by omega
   obtain⟨r0,hr0⟩:∃ r0:Nat,q%mn=r0:=⟨(q%mn).toNat,by have:=Int.emod_nonneg q (show mn≠0 by omega);omega⟩;have hr1:(r0:Int)<mn:=by rw[←hr0];exact Int.emod_lt_of_pos _ (by omega)
   obtain⟨n0,hn0⟩:∃ n0:Nat,1+r0=n0:=⟨_,rfl⟩;have hrange:((x0+n0:Nat):Int)≤(⟨ynm,yn,yr,yl⟩:Vol).n:=by show _≤yn;omega
   have hn16:1≤n0∧n0≤16:=by omega
   have hpl:=plan_two HSD.o.ok hg hrange hn16;have HGV:=hid hg;have HRG:=hid hrange;have HVX:=hid (VX.new wr _ rfl ⟨ynm,yn,yr,ya,yc,yl⟩ 42);have hva:=(Below.refl wr.heap.size wr).onAlloc (.cells #[nmV ynm,.int .i64 yn,.int .i64 yr,.slice ya yl.length yc] 42);have HM2:=hid (HM.o.later hva);have HB2:=hid (HB0.o.on hva);simp only at e0 e1 e2 e3;clear hat hmem hok hg hrange hB hva;go_upto_region 12 with fail;clear e0 e1 e2 e3 c1 HM HB0;generalize wr.alloc (.cells #[nmV ynm,.int .i64 yn,.int .i64 yr,.slice ya yl.length yc] 42)=W2 at *;generalize wr.heap.size=X at *;have y0:=HM2.o.pb.c0;have y1:=HM2.o.pb.c1;have z1:=HVX.o.x1;have hn0':(1:Int)+(r0:Int)=(n0:Int):=by omega
   go_wp2_with fail;refine(mcopy_is M F _ HM2.o.lm.map).mono ?_;rintro e w5 ⟨M2,rfl,hM2,hm2,hb⟩;have HBc:=hid hb;have HMc:=hid hm2;clear hb hm2 y0 y1 z1 hx0 hmn hr0 hn0 hn0' hmn1 hr1;go_upto_region 15 with fail;obtain⟨i0,hi0,hz0,hz1,hz2⟩:=info_parts infoB;obtain⟨w6,hmk,ho6,hg6⟩:=run_make_full (P:=Tryz.prog) w5.drew w5.heap.size 38 84 i0 Bk.zero.v 8 Tryz.underlying38 hi0 hz0 hz1 .i64 .i64 n0 (by rw[hz2];omega) (by unfold maxLen;omega) (Nat.le_refl _);have hb6:Below w5.heap.size w5 w6:=(Below.refl w5.heap.size w5).drew.on (grown_below hg6);have HO6:OwnB w6 w5.heap.size (.slice (some ⟨w5.heap.size,0,none⟩) n0 n0) (List.replicate n0 Bk.zero):=by
    unfold OwnB;rw[List.length_replicate,←made_blocks];exact ho6
   have HRD:=hid (OwnB.rd' HO6 (by simp;omega));have HM6:=hid (HMc.o.later hb6);have HB6:=hid (HBc.o.on hb6);have HVd:=hid ((HVX.o.later HBc.o).later (Below.refl _ _).drew);have HV6:=hid (HVX.o.later HB6.o);clear hi0 hz0 hz1 hz2 ho6 hg6 hb6 HO6 HMc;rcases hpl with hp0|hp11
   ·obtain ⟨v',p1',n1',k',hv',hvn',hp1',hn1',_,_,hk',hf',hpw⟩:=pw_of HSD.o HON.o hp0;obtain rfl:p1'=x0:=by omega
    obtain rfl:n1'=n0:=by omega
    have hve:v'=⟨ynm,yn,yr,yl⟩:=by
     rw[hvn']at hv';exact Option.some.inj (hv'.symm.trans HGV.o)
    subst hve;obtain⟨Sx,hS⟩:∃ S,planS F (⟨ynm,yn,yr,yl⟩:Vol).nm ((p1':Nat):Int) k'=S:=⟨_,rfl⟩;rw[hS]at hpw;obtain⟨G,L,hwj⟩:=hpw.at n1' (Nat.le_refl _);have HPW:=hid hpw;have HWJ:=hid hwj;have hnle:=hpw.note_le hn16.2;have hap:=hpw.apply hwj (by omega);have HGs:=hid (hwj.wi.sound HSD.o hv');have HMP:=hid (fun W (ad:Option Addr) cd h hrd=>mplan_yes M2 F ⟨ynm,yn,yr,yl⟩ p1' n1' cd k' (List.replicate n1' Bk.zero) Sx ad W HSD.o.ok HSD.o.short h hv' (by simp) hpw.le hrd hp0 hk' hf' hS);have HWR:=hid (fun W gv a c hg hr=>rwrite38_is F ⟨ynm,yn,yr,yl⟩ p1' n1' Sx (List.replicate n1' Bk.zero) HPW.o gv a c W hg hr);have HSI:=hid (fun W gv ca cc hg hc=>rsingle38_is G ((⟨ynm,yn,yr,yl⟩:Vol).set L) p1' n1' HWJ.o.wi.ok HWJ.o.get HRG.o HWJ.o.excl gv ca cc W hg hc);have hwl:(wrL F.C yl p1' Sx (List.replicate n1' Bk.zero) n1').length=n1':=wrL_len _;simp only at HMP HWR hap hnle;have hNM:(((⟨ynm,yn,yr,yl⟩:Vol).set L).nm)=ynm:=rfl;rw[hNM]at HSI;obtain⟨WL,hWL⟩:∃ WL,wrL F.C yl p1' Sx (List.replicate n1' Bk.zero) n1'=WL:=⟨_,rfl⟩;obtain⟨N,hN⟩:∃ N,noteAs ynm (joinL (chL F.C yl p1' Sx n1'))=N:=⟨_,rfl⟩;rw[hWL]at HMP HWR hwl;rw[hN]at HMP hap;have HWL:=hid hwl;have HAP:=hid hap;clear hp0 hv' hvn' hp1' hn1' hk' hf' hpw hS hwj hnle hap hwl hNM hWL hN
    go_region_held3 (fun w'=>w'.cell? ⟨X,0,none⟩=some (nmV ynm))
     (first
      |with_reducible exact HVd.o.x0
      |with_reducible exact HV6.o.x0
      |with_reducible exact HV7.o.x0)
     ((go_at_call 21;(with_reducible refine(HMP.o _ _ _ HM6.o HRD.o).mono ?_);rintro e w7 ⟨wa,wc,na,nc,rfl,hw7,hn7,hb7⟩;have HB7:=hid (HB6.o.on hb7);have HV7:=hid (HV6.o.later hb7);have HM7:=hid (HM6.o.later hb7);have HRW:=hid hw7;have HRN:=hid hn7;clear hb7 hw7 hn7))
    all_goals
     rw[HWL.o];clear hmk HVd HV6 HV7 HB6 HRD HM6;go_wp2_with fail;refine(mapply_is M2 F G 0 N na nc _ HSD.o.ok HSD.o.short8 HM7.o HRN.o HAP.o).mono ?_;rintro e w8 ⟨rfl,hm8,hg8⟩;have HB8:=hid (HB7.o.onGrow hg8 fun j e=>by injection e with e;omega);have HW8:=hid (HRW.o.grown HM7.o.odd hg8);have HM8:=hid hm8;have HL8:=hid (HM2.o.later HB8.o);have HV8:=hid (HVX.o.later HB8.o);clear hm8 hg8 HRW HRN HM7 HB7;have b0:=HL8.o.lm.fb.c0;have b1:=HL8.o.lm.fb.c1;have z0:=HV8.o.x0;go_wp2_with fail;refine(HWR.o _ _ _ _ HL8.o.lm.fam HW8.o).mono ?_;rintro e w9 ⟨gv,G2,L2,rfl,hw9,hg9,hb9⟩;obtain rfl:G2=G:=WrJ.uniq HPW.o hw9 HWJ.o;obtain⟨ga,gn,gc,rfl⟩:=hg9.form;have hka:=hb9.onAlloc (.cells #[.int .i64 G2.N,.slice ga gn gc] 30);have HX9:=hid (Bx.new w9 _ rfl (.int .i64 G2.N) (.slice ga gn gc) 30);have HG9:=hid (hg9.keep ((Below.refl w9.heap.size w9).onAlloc (.cells #[.int .i64 G2.N,.slice ga gn gc] 30)));have HM9:=hid (HM8.o.later hka);have HV9:=hid (HV8.o.later hka);have HB9:=hid (HB8.o.on hka);clear hka hw9 hg9 hb9 b0 b1 z0 HM8 HV8 HB8 HL8 HW8;go_upto_region 20 with fail;generalize w9.alloc (.cells #[.int .i64 G2.N,.slice ga gn gc] 30)=W9 at *;generalize w9.heap.size=TG at *;have HXd:=hid (HX9.o.later (Below.refl _ _).drew);have HGd:=hid (HG9.o.keep (Below.refl _ _).drew);have HMd:=hid (HM9.o.later (Below.refl _ _).drew);have HVe:=hid (HV9.o.later (Below.refl _ _).drew);have hCl:G2.C.length≤65536:=by rw[G2.C_length];exact HGs.o.ok.hN
     go_region_held3 (fun w'=>w'.cell? ⟨TG,0,none⟩=some (.int .i64 G2.N)∧w'.cell? ⟨TG,1,none⟩=some (.slice ga gn gc)∧w'.cell? ⟨X,0,none⟩=some (nmV ynm)∧Below W9.drew.heap.size W9.drew w')
      (first
       |with_reducible exact⟨HXd.o.c0,HXd.o.c1,HVe.o.x0,Below.refl _ _⟩
       |with_reducible exact⟨HQ3.o.c0,HQ3.o.c1,HU3.o.x0,hW3⟩
       |with_reducible exact⟨HQ2.o.c0,HQ2.o.c1,HU2.o.x0,hW2⟩
       |with_reducible exact⟨HQ1.o.c0,HQ1.o.c1,HU1.o.x0,hW1⟩)
      (first
       |(go_at_call 24;have hW:=(‹_∧_∧_∧Below W9.drew.heap.size W9.drew _›).2.2.2;refine(same38_is M2 G2 _ _ HGs.o.ok HGs.o.short (HMd.o.later hW) (HGd.o.keep hW)).mono ?_;rintro e v1 ⟨rfl,hb1⟩;have hW1:=hW.on hb1;have HQ1:=hid (HXd.o.later hW1);have HU1:=hid (HVe.o.later hW1))
       |(go_at_call 28;have hW:=(‹_∧_∧_∧Below W9.drew.heap.size W9.drew _›).2.2.2;refine(counts_q HGs.o.ok (HGd.o.keep hW)).mono ?_;rintro e v2 ⟨cv,rfl,ho2,hb2⟩;obtain⟨ca,cc,rfl,hrc⟩:=ho2.rd hCl;have HRC:=hid hrc;have hW2:=hW.on hb2;have HQ2:=hid (HXd.o.later hW2);have HU2:=hid (HVe.o.later hW2))
       |(go_at_call 27;have hW:=(‹_∧_∧_∧Below W9.drew.heap.size W9.drew _›).2.2.2;refine(HSI.o _ _ _ _ (HGd.o.keep hW) HRC.o).mono ?_;rintro e v3 ⟨rfl,hb3⟩;have hW3:=hW.on hb3;have HQ3:=hid (HXd.o.later hW3);have HU3:=hid (HVe.o.later hW3)))
     all_goals
      have HZ:=hid (HB2.o.on (HB9.o.on ((Below.refl _ _).drew.on hW3)));clear hW hW1 hW2 hW3 hb1 hb2 hb3 ho2 hrc HQ1 HQ2 HQ3 HU1 HU2 HU3 HRC HXd HGd HMd HVe;go_wp2_with fail;go_roundw
      case rel=>exact⟨k+1,by omega,by go_num,HZ.o⟩
      case measure=>simp[intOf];omega
   ·have HMN:=hid (fun W (ad:Option Addr) cd h=>mplan_no M2 F 11 ynm x0 n0 cd ad W HSD.o.ok HSD.o.short h hnl (by omega) (by omega) hp11 (by decide));clear hp11
    go_region_held3 (fun w'=>w'.cell? ⟨X,0,none⟩=some (nmV ynm))
     (first
      |with_reducible exact HVd.o.x0
      |with_reducible exact HV6.o.x0
      |with_reducible exact HV7.o.x0)
     ((go_at_call 21;(with_reducible refine(HMN.o _ _ _ HM6.o).mono ?_);rintro e w7 ⟨rfl,hb7⟩;have HB7:=hid (HB6.o.on hb7);have HV7:=hid (HV6.o.later hb7);clear hb7))
    all_goals
     have HZ:=hid (HB2.o.on HB7.o);clear hmk HVd HV6 HV7 HB6 HRD;go_wp2_with fail;go_roundw
     case rel=>exact⟨k+1,by omega,by go_num,HZ.o⟩
     case measure=>simp[intOf];omega
  ·have hkn:k=ts.length:=by omega
   have hZ:=HL.o.lm.B.on hB;clear HM HB0;go_wp2_with fail;go_ret;exact⟨rfl,hZ⟩
end Go.Proofs.YtpjlignclchgiaaGreat
