/-
  The walk of MapperPlans.
  Conditions: as the theorem says.
-/
import Derived.Test.YtpjlignclchgiaaGreatMqQ
namespace Go.Proofs.YtpjlignclchgiaaGreat
open Go.Lib (hid)
set_option linter.unusedSimpArgs false
set_option linter.unusedVariables false
set_option maxRecDepth 100000
set_option maxHeartbeats 16000000
open Go.RowKit Go.Maps
theorem noteT_any {F:Fam} (hF:F.sound) (ho:F.once) {s:Step36} (hs:s.ok) (he:errK F s=0):∃ G,applyP F (noteT s)=(G,0):=by
  by_cases h3:s.k%8≤3
  · have h:=stp_chg hF ho hs h3;unfold noteK at h;rw[if_pos he]at h;rcases h.note with ⟨e,_⟩|⟨_,e⟩
    · have:=(noteT_len hs).1;rw[e]at this;simp at this
    · exact⟨_,e⟩
  ·
    have hs':Step36.ok ⟨3,s.v,s.o,s.a,s.n,s.s⟩:=⟨by simp,hs.v,hs.o,hs.a,hs.n,hs.s⟩;have h1:errK F ⟨3,s.v,s.o,s.a,s.n,s.s⟩=errK F s:=by
      unfold errK;rw[if_neg (show ¬((3:Int)%8=0) by decide),if_neg (show ¬((3:Int)%8=1) by decide),if_neg (show ¬((3:Int)%8=2) by decide),if_neg (by omega),if_neg (by omega),if_neg (by omega)]
    have h2:noteT ⟨3,s.v,s.o,s.a,s.n,s.s⟩=noteT s:=by
      unfold noteT;rw[if_neg (show ¬((3:Int)%8=0) by decide),if_neg (show ¬((3:Int)%8=1) by decide),if_neg (show ¬((3:Int)%8=2) by decide),if_neg (by omega),if_neg (by omega),if_neg (by omega)]
    have h:=stp_chg hF ho hs' (by show(3:Int)%8≤3;decide);unfold noteK at h;rw[h1,if_pos he,h2]at h;rcases h.note with ⟨e,_⟩|⟨_,e⟩
    · have:=(noteT_len hs).1;rw[e]at this;simp at this
    · exact⟨_,e⟩
theorem law_plans38 (i:Int) (S:List Step36) (s:Step36) (a:Option Addr) (c:Nat) (w:World) (hi:0≤i∧i≤255) (hr:RdS36 w a S) (hs:s.ok):
  Calls Tryz.prog 7 #[.int .u8 i,.slice a S.length c,s.val] w fun e w'=>e= .returned (.bool true)∧Below w.heap.size w w':=by
 have HSO:=hid hs;have bk:=hs.k;have bv:=hs.v;have ba:=hs.a;have bn:=hs.n;clear hs;have hk0:=(Below.refl w.heap.size w).onAlloc (.cells #[.int .u8 s.k,.int .u8 s.v,.int .u8 s.o,.int .u8 s.a,.int .u8 s.n,.int .u8 s.s] 37);have HK0:=hid hk0;replace hr:=hr.keep hk0;have HX:=hid (SX.new w _ rfl s 37);clear hk0;obtain⟨n,rfl⟩:=Int.eq_ofNat_of_zero_le hi.1;have hn:n≤255:=by omega
 have hlen:=hr.1;by_cases h25:20<S.length
 ·go_enter Tryz.func7,Tryz.ntmps7;go_wp2_with fail;refine(awake38_is _).mono ?_;rintro e w1 ⟨rfl,hb1⟩;go_wp2_with fail;go_ret;exact⟨rfl,by first|exact hb1|exact HK0.o.on hb1⟩
 have hS20:S.length≤1000:=by omega
 go_enter Tryz.func7,Tryz.ntmps7;go_wp2_with fail;refine(awake38_is _).mono ?_;rintro e w1 ⟨rfl,hb1⟩;go_wp2_with fail;refine(build38_is n S a c _ hn hS20 (hr.keep hb1)).mono ?_;rintro e w2 ⟨M,F,gv,ns,na,nc,rfl,hsd,hon,hsm,hFN,hmb,hfr,hnr,hns,hfw,hch,hMw,hb2⟩;obtain⟨ra,rn,rc,rfl⟩:=hfr.form;have HL:=hid (LM.new hmb hfr (HK0.o.on (hb1.on hb2)) (by have h1:=HK0.o.size;have h2:=hb1.size;omega));replace HX:=hid ((HX.o.later (hb1.on hb2)).later ((Below.refl _ _).onAlloc (.cells #[.int .i64 F.N,.slice ra rn rc] 30)));have HSD:=hid hsd;have HON:=hid hon;obtain⟨P,hP⟩:∃ P,stateP F=P:=⟨_,rfl⟩;have HST:=hid (fun M W (h:MapB W M F)=>mstate_is M F W hsd.ok hsd.short h);rw[hP]at HST;obtain⟨x,hx⟩:∃ x,errK F s=x:=⟨_,rfl⟩;have HNT:=hid (fun W (h:MapB W M F)=>note38_is M F s W hsd.ok hsd.short h HSO.o);obtain⟨N,hN⟩:∃ N,noteK F s=N:=⟨_,rfl⟩;have HAN:Hid (x=0→ ∃G,applyP F N=(G,0)):=hid fun h=>by
  obtain⟨G,hG⟩:=noteT_any hsd hon HSO.o (hx.trans h);refine⟨G,?_⟩;rw[←hN];unfold noteK;rw[hx,if_pos h];exact hG
 rw[hx,hN]at HNT;obtain⟨nm,hnm,hnl⟩:∃ nm,nameN s.v=nm∧nm.length≤1000000:=⟨_,rfl,Nat.le_trans (nameN_len _) (by omega)⟩;have HNM:=hid hnm;obtain⟨D,hD⟩:∃ D,dataL s=D:=⟨_,rfl⟩;obtain⟨m,hm⟩:∃ m,D.length=m:=⟨_,rfl⟩;have hm20:m<20:=by rw[←hm,←hD,dataL_len];omega
 have HDM:=hid hm;have HDA:=hid (fun W=>data38_is s W HSO.o);rw[hD,hm]at HDA;have HPL:=hid (fun W (ad:Option Addr) cd (h:MapB W M F) hrd=>plan_any M F nm s.a m cd D ad W HSD.o HON.o h hnl (by omega) HDM.o (by omega) hrd);clear hsd hon hsm hFN hmb hfr hnr hns hfw hch hMw hb1 hb2 hP hx hN hnm hD hm;go_wp2_with fail;generalize w2.alloc (.cells #[.int .i64 F.N,.slice ra rn rc] 30)=W0 at *;generalize w2.heap.size=T at *;refine(HST.o M _ HL.o.map).mono ?_;rintro e w3 ⟨sa,sc,rfl,hrd,hb⟩;have hcv:=hrd.conv_any (c:=sc);replace HL:=hid (HL.o.later hb);replace HX:=hid (HX.o.later hb);clear hb hrd;go_upto_region 9 with fail;have HLd:=hid (HL.o.later (Below.refl _ _).drew);have HXd:=hid (HX.o.later (Below.refl _ _).drew);have hwa:IntKind.i64.wrap s.a=s.a:=IntWalk.i64_in _ (by omega);clear HL HX
 go_region_held3 (fun w'=>w'.cell? ⟨w.heap.size,0,none⟩=some (.int .u8 s.k)∧w'.cell? ⟨w.heap.size,1,none⟩=some (.int .u8 s.v)∧w'.cell? ⟨w.heap.size,2,none⟩=some (.int .u8 s.o)∧w'.cell? ⟨w.heap.size,3,none⟩=some (.int .u8 s.a)∧w'.cell? ⟨w.heap.size,4,none⟩=some (.int .u8 s.n)∧w'.cell? ⟨w.heap.size,5,none⟩=some (.int .u8 s.s)∧Below w3.drew.heap.size w3.drew w')
  (first
   |with_reducible exact⟨HXd.o.s0,HXd.o.s1,HXd.o.s2,HXd.o.s3,HXd.o.s4,HXd.o.s5,Below.refl _ _⟩
   |with_reducible exact⟨HQ3.o.s0,HQ3.o.s1,HQ3.o.s2,HQ3.o.s3,HQ3.o.s4,HQ3.o.s5,hW3⟩
   |with_reducible exact⟨HQ2.o.s0,HQ2.o.s1,HQ2.o.s2,HQ2.o.s3,HQ2.o.s4,HQ2.o.s5,hW2⟩
   |with_reducible exact⟨HQ1.o.s0,HQ1.o.s1,HQ1.o.s2,HQ1.o.s3,HQ1.o.s4,HQ1.o.s5,hW1⟩)
  (first
   |(go_at_call 29;have hW:=(‹_∧_∧_∧_∧_∧_∧Below w3.drew.heap.size w3.drew _›).2.2.2.2.2.2;refine(rnames_r s.v nm _ HSO.o.v HNM.o).mono ?_;rintro e v1 ⟨rfl,hb1⟩;have hW1:=hW.on hb1;have HQ1:=hid (HXd.o.later hW1);(try have HRD:=hid (HRD.o.keep hb1)))
   |(go_at_call 16;have hW:=(‹_∧_∧_∧_∧_∧_∧Below w3.drew.heap.size w3.drew _›).2.2.2.2.2.2;refine(HDA.o _).mono ?_;rintro e v2 ⟨da,dc,rfl,hrd2,hb2⟩;have HRD:=hid hrd2;have hW2:=hW.on hb2;have HQ2:=hid (HXd.o.later hW2))
   |(go_at_call 21;have hW:=(‹_∧_∧_∧_∧_∧_∧Below w3.drew.heap.size w3.drew _›).2.2.2.2.2.2;refine(HPL.o _ _ _ (HLd.o.later hW).map HRD.o).mono ?_;rintro e v3 ⟨pv,rfl,hb3⟩;have hW3:=hW.on hb3;have HQ3:=hid (HXd.o.later hW3)))
 all_goals
  have HL:=hid (HLd.o.later hW3);have HX:=hid (HXd.o.later hW3);clear hwa hW hW1 hW2 hW3 hb1 hb2 hb3 hrd2 HQ1 HQ2 HQ3 HRD HLd HXd HPL HDA;have s0:=HX.o.s0;have s1:=HX.o.s1;have s2:=HX.o.s2;have s3:=HX.o.s3;have s4:=HX.o.s4;have s5:=HX.o.s5;go_wp2_with fail;refine(HNT.o _ HL.o.map).mono ?_;rintro e w5 ⟨na,nc,rfl,hrn,hb⟩;replace HL:=hid (HL.o.later hb);replace HX:=hid (HX.o.later hb);have HRN:=hid hrn;clear hb hrn s0 s1 s2 s3 s4 s5;go_wp2_with fail;refine(mcopy_is M F _ HL.o.map).mono ?_;rintro e w6 ⟨M2,rfl,hM2,hm2,hb⟩;have HB6:=hid hb;have HM2:=hid hm2;clear hb hm2;go_wp2_with fail;refine(HST.o M2 _ HM2.o).mono ?_;rintro e w7 ⟨sa2,sc2,rfl,hrd,hb⟩;have hcv2:=hrd.conv_any (c:=sc2);have HB7:=hid (HB6.o.on hb);replace HM2:=hid (HM2.o.later hb);clear hb hrd HB6;by_cases hx0:x=0
  ·subst hx0;obtain⟨G,hG⟩:=HAN.o rfl;have HG:=hid hG;have HR7:=hid (HRN.o.keep HB7.o);clear hG;go_wp2_with fail;refine(mapply_is M2 F G 0 N na nc _ HSD.o.ok HSD.o.short8 HM2.o HR7.o HG.o).mono ?_;rintro e w8 ⟨rfl,_,hg8⟩;have hb8:=HB7.o.onGrow hg8 fun j e=>by injection e with e;omega
   replace HL:=hid (HL.o.later hb8);clear hb8 hg8 hcv2 HM2 HR7;go_wp2_with fail;refine(HST.o M _ HL.o.map).mono ?_;rintro e w9 ⟨sa3,sc3,rfl,hrd,hb⟩;have hcv3:=hrd.conv_any (c:=sc3);replace HL:=hid (HL.o.later hb);clear hb hrd;have b0:=HL.o.fb.c0;have b1:=HL.o.fb.c1;go_wp2_with fail;refine(same38_is M F _ _ HSD.o.ok HSD.o.short HL.o.map HL.o.fam).mono ?_;rintro e w10 ⟨rfl,hb⟩;have HZ:=HL.o.B.on hb;clear hb b0 b1 hcv3;go_wp2_with fail;go_ret;exact⟨rfl,HZ⟩
  ·have hxb:(x==0)=false:=by simpa using hx0
   replace HL:=hid (HL.o.later HB7.o);clear hx0;go_wp2_with fail;refine(HST.o M _ HL.o.map).mono ?_;rintro e w9 ⟨sa3,sc3,rfl,hrd,hb⟩;have hcv3:=hrd.conv_any (c:=sc3);replace HL:=hid (HL.o.later hb);clear hb hrd;have b0:=HL.o.fb.c0;have b1:=HL.o.fb.c1;go_wp2_with fail;refine(same38_is M F _ _ HSD.o.ok HSD.o.short HL.o.map HL.o.fam).mono ?_;rintro e w10 ⟨rfl,hb⟩;have HZ:=HL.o.B.on hb;clear hb b0 b1 hcv3;go_wp2_with fail;go_ret;exact⟨rfl,HZ⟩
end Go.Proofs.YtpjlignclchgiaaGreat
