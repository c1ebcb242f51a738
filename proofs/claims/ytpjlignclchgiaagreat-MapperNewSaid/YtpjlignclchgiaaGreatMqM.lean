/-
  tegulalaw38: awake.
  Conditions: as the theorem says.
-/
import Derived.Test.YtpjlignclchgiaaGreatMqL
import Derived.Test.YtpjlignclchgiaaGreatHQ
namespace Go.Proofs.YtpjlignclchgiaaGreat
open Go.Lib (hid)
set_option linter.unusedSimpArgs false
set_option linter.unusedVariables false
set_option maxRecDepth 100000
set_option maxHeartbeats 16000000
open Go.RowKit Go.Maps
def aw381:Fam:=⟨10,[]⟩
def aw382:Fam:=⟨10,[⟨na,8,0,[]⟩]⟩
theorem aw38_cr:createF aw381 na 8 0=(aw382,0):=rfl
theorem aw38_crE:crE aw381 na 8 0=0:=rfl
theorem aw38_room:roomF aw382=10:=rfl
theorem aw38_s1:aw381.sound:=new_sound 10 (by omega)
theorem aw38_s2:aw382.sound:=by
 have:=create_sound aw38_s1 (nm:=na) (n:=8) (r:=0) (by omega) rfl rfl
 rwa [aw38_cr]at this
theorem aw38_once:aw382.once:=fun v hv=>by
 simp[aw382]at hv;subst hv;exact injS_nil
theorem aw38_plan:planE aw382 na 2 3=0:=rfl
theorem aw38_n1:(noteCr na 8 0).length≤256:=by
 unfold noteCr;rw[List.length_append,hdr_le 3 _ (by omega) (by decide)];have:=nums2_le (p:=8) (n:=0) (by omega) (by omega);have:na.length=1:=rfl;omega
theorem aw38_ap:applyP aw381 (noteCr na 8 0)=(aw382,0):=by
 rw[apply_cr _ _ _ _ aw38_n1 (by decide) (by omega) (by omega),aw38_cr];exact endP_yes rfl (by rw[aw38_room];omega)
theorem plan_again {F:Fam} {v:Vol} {p n:Nat} {S:List Int} (h:PW F v p n S) {G:Fam} {L:List E} (hw:WrJ F v p n S n G L) {q m:Nat} (h1:p≤q) (h2:q+m≤p+n) (h3:1≤m∧m≤16):
  planE G v.nm q m=0∧ ∀(R:List Int) (j:Nat),j<m→pickS G.C L q R j=pickS F.C v.l p S (q+j-p):=by
 obtain ⟨l,g1,g2,_⟩:=hw.wi.get;obtain rfl:l=L:=by
  have:=g1.symm.trans hw.get;exact congrArg Vol.l (Option.some.inj this)
 have hle:=h.le;refine⟨?_,fun R j hj=> ?_⟩
 ·rw[plan_can _ _ hw.get (by omega)];have hn:=need_range hw.wi.ok (v:=v.set l) hw.get q m (by show _≤v.n;omega);have hr:restN G.C l q m=0:=restN_all q m fun b q1 q2=>g2 b (by omega) (by omega);rw[show(v.set l).nm=v.nm from rfl,show(v.set l).l=l from rfl,hr]at hn;refine write_claim (by rw[hn]) ?_;rw[hn];unfold claimF;rw[hw.get];exact claimV_nonneg _ _
 ·have hx:exJ G.C l q j=true:=g2 (q+j) (by omega) (by omega);rw[pick_yes hx];have hs:=hw.at' ((q+j:Nat):Int);rw[show q+j=p+(q+j-p) by omega,newAt_in (by omega),slot_find]at hs;rw[show q+j=p+(q+j-p) by omega];cases hf:findB l ((p+(q+j-p):Nat):Int)
  ·rw[hf,if_neg (by decide)]at hs;cases hs
  ·rw[hf,if_pos rfl]at hs;rw[Option.some.inj hs];congr 1;omega
theorem OwnB.rd' {w:World} {B n c:Nat} {a:Option Addr} {l:List Bk} (h:OwnB w B (.slice a n c) l) (hl:l.length≤1000000):RdB w a l:=by
 obtain⟨a',c',he,hr⟩:=h.rd hl;injection he with he;rw[he];exact hr
theorem awake38_is (w:World):Calls Tryz.prog 12 #[] w fun e w'=>e= .returned (.bool true)∧Below w.heap.size w w':=by
 obtain⟨v,p0,n0,k,hv,hvn,hp0,hn0,g1,g2,hk,hf,hpw⟩:=pw_of aw38_s2 aw38_once aw38_plan;obtain rfl:p0=2:=by omega
 obtain rfl:n0=3:=by omega
 obtain⟨S,hS⟩:∃ S,planS aw382 v.nm ((2:Nat):Int) k=S:=⟨_,rfl⟩;rw[hS]at hpw;obtain⟨G,L,hwj⟩:=hpw.at 3 (Nat.le_refl _);have hl1:=hpw.note_le (by omega);have hap:=hpw.apply hwj (by omega);obtain⟨hp2,hpk⟩:=plan_again hpw hwj (q:=3) (m:=2) (by omega) (by omega) (by omega);have hGs:=hwj.wi.sound aw38_s2 hv;have hGo:=hwj.once hpw;obtain⟨v',p1,n1,k',hv',hvn',hp1,hn1,_,_,hk',hf',hpw'⟩:=pw_of hGs hGo hp2;obtain rfl:p1=3:=by omega
 obtain rfl:n1=2:=by omega
 obtain rfl:v'=v.set L:=by
  rw[hvn',hwj.get]at hv';exact(Option.some.inj hv').symm
 obtain⟨S',hS'⟩:∃ S,planS G (v.set L).nm ((3:Nat):Int) k'=S:=⟨_,rfl⟩;rw[hS']at hpw';have HMP1:=hid (fun M W (ad:Option Addr) cd h hrd=>mplan_yes M aw382 v 2 3 cd k (List.replicate 3 Bk.zero) S ad W aw38_s2.ok aw38_s2.short h hv (by simp) hpw.le hrd (by rw[hvn];exact aw38_plan) hk hf hS);have HMP2:=hid (fun M W (ad:Option Addr) cd h hrd=>mplan_yes M G (v.set L) 3 2 cd k' (List.replicate 2 Bk.zero) S' ad W hGs.ok hGs.short h hwj.get (by simp) hpw'.le hrd hp2 hk' hf' hS');rw[show(v.set L).nm=v.nm from rfl,show(v.set L).l=L from rfl]at HMP2;obtain⟨WL1,hW1⟩:∃ WL,wrL aw382.C v.l 2 S (List.replicate 3 Bk.zero) 3=WL:=⟨_,rfl⟩;obtain⟨WL2,hW2⟩:∃ WL,wrL G.C L 3 S' (List.replicate 2 Bk.zero) 2=WL:=⟨_,rfl⟩;obtain⟨u1,hu1⟩:∃ u,pickS aw382.C v.l 2 S 1=u:=⟨_,rfl⟩;obtain⟨u2,hu2⟩:∃ u,pickS aw382.C v.l 2 S 2=u:=⟨_,rfl⟩;have HA1:Hid (∃d,WL1[1]? =some ⟨u1,d⟩):=hid ⟨_,by rw[←hW1,wrL_get (by omega),hu1]⟩;have HA2:Hid (∃d,WL1[2]? =some ⟨u2,d⟩):=hid ⟨_,by rw[←hW1,wrL_get (by omega),hu2]⟩;have HC0:Hid (∃d,WL2[0]? =some ⟨u1,d⟩):=hid ⟨_,by rw[←hW2,wrL_get (by omega),hpk S' 0 (by omega),hu1]⟩;have HC1:Hid (∃d,WL2[1]? =some ⟨u2,d⟩):=hid ⟨_,by rw[←hW2,wrL_get (by omega),hpk S' 1 (by omega),hu2]⟩;have HL1:Hid (WL1.length=3):=hid (by rw[←hW1,wrL_len]);have HL2:Hid (WL2.length=2):=hid (by rw[←hW2,wrL_len]);rw[hW1]at HMP1;rw[hW2]at HMP2;rw[hvn]at HMP1 HMP2 hap hl1;obtain⟨N2,hN2⟩:∃ N,noteAs na (joinL (chL aw382.C v.l 2 S 3))=N:=⟨_,rfl⟩;obtain⟨N3,hN3⟩:∃ N,noteAs na (joinL (chL G.C L 3 S' 2))=N:=⟨_,rfl⟩;rw[hN2]at HMP1 hap hl1;rw[hN3]at HMP2;have HAP2:=hid hap;have HGS:=hid hGs;have hl2:(N2.length:Int)≤256:=by omega
 have HST:Hid (1≤(stateP G).length):=hid (by
  unfold stateP;rw[List.length_append];have:=(encI_len (G.vs.length:Int)).1
  omega)
 obtain⟨N1,hN1⟩:∃ N,noteCr na 8 0=N:=⟨_,rfl⟩;have HN1:Hid ((if (0:Int)=0 then noteCr na 8 0 else [])=N1):=hid (by rw[if_pos rfl,hN1]);have hap1:=aw38_ap;rw[hN1]at hap1;have HAP1:=hid hap1;clear hv hvn hp0 hn0 g1 g2 hk hf hpw hS hwj hl1 hap hp2 hpk hGs hGo hv' hvn' hp1 hn1 hk' hf' hpw' hS' hW1 hW2 hu1 hu2 hN2 hN3 hN1 hap1;go_enter Tryz.func12,Tryz.ntmps12;go_wp2_with fail;refine(mnew_yes 10 _ (by omega)).mono ?_;rintro e w1 ⟨M,rfl,hM,hm,hb⟩;have HM:Hid (MapB w1 M aw381):=hid hm;have HB:=hid hb;clear hm hb;go_wp2_with fail;refine(mcreate_is M aw381 0 na N1 8 0 _ aw38_s1.ok aw38_s1.short HM.o (by decide) aw38_crE HN1.o).mono ?_;rintro e w2 ⟨a1,c1,rfl,hr,hb⟩;have HR:=hid hr;replace HM:=hid (HM.o.later hb);replace HB:=hid (HB.o.on hb);clear hr hb;go_wp2_with fail;refine(mapply_is M aw381 aw382 0 N1 a1 c1 _ aw38_s1.ok aw38_s1.short8 HM.o HR.o HAP1.o).mono ?_;rintro e w3 ⟨rfl,hm,hg⟩;replace HB:=hid (HB.o.onGrow hg fun j e=>by injection e with e;omega);replace HM:=hid hm;clear hm hg HR;have hsz:=HB.o.size
 go_wp2_with (at_make;(refine wpList_make_B _ rfl _ _ 38 rfl Tryz.underlying38 _ _ 3 rfl rfl (by omega) w.heap.size w3.heap.size rfl hsz ?_);intro w4 ho4 hb4 hz4)
 have HD:=hid (OwnB.rd' ho4 (by simp));replace HM:=hid (HM.o.later hb4);replace HB:=hid (HB.o.on hb4);clear ho4 hb4 hz4 hsz;refine(HMP1.o M _ _ _ HM.o HD.o).mono ?_;rintro e w5 ⟨wa,wc,na2,nc2,rfl,hw,hn,hb⟩;have HW1:=hid hw;have HR:=hid hn;replace HM:=hid (HM.o.later hb);replace HB:=hid (HB.o.on hb);rw[HL1.o];clear hw hn hb HD;go_wp2_with fail;refine(mapply_is M aw382 G 0 N2 na2 nc2 _ aw38_s2.ok aw38_s2.short8 HM.o HR.o HAP2.o).mono ?_;rintro e w6 ⟨rfl,hm,hg⟩;replace HW1:=hid (HW1.o.grown HM.o.odd hg);replace HB:=hid (HB.o.onGrow hg fun j e=>by injection e with e;omega);replace HM:=hid hm;clear hm hg HR;have hsz:=HB.o.size
 go_wp2_with (at_make;(refine wpList_make_B _ rfl _ _ 38 rfl Tryz.underlying38 _ _ 2 rfl rfl (by omega) w.heap.size w6.heap.size rfl hsz ?_);intro w7 ho7 hb7 hz7)
 have HD:=hid (OwnB.rd' ho7 (by simp));replace HM:=hid (HM.o.later hb7);replace HB:=hid (HB.o.on hb7);replace HW1:=hid (HW1.o.keep hb7);clear ho7 hb7 hz7 hsz;refine(HMP2.o M _ _ _ HM.o HD.o).mono ?_;rintro e w8 ⟨xa,xc,na3,nc3,rfl,hw,hn,hb⟩;have HW2:=hid hw;replace HM:=hid (HM.o.later hb);replace HB:=hid (HB.o.on hb);replace HW1:=hid (HW1.o.keep hb);rw[HL2.o];clear hw hn hb HD;obtain⟨b1,o1,rfl,hat1⟩:=HW1.o.at (by rw[HL1.o];omega);obtain⟨b2,o2,rfl,hat2⟩:=HW2.o.at (by rw[HL2.o];omega);obtain⟨d1,hd1⟩:=HA1.o;obtain⟨d2,hd2⟩:=HA2.o;obtain⟨d3,hd3⟩:=HC0.o;obtain⟨d4,hd4⟩:=HC1.o;have x1:=(hat1 _ _ hd1).s;have x2:=(hat1 _ _ hd2).s;have x3:=(hat2 _ _ hd3).s;have x4:=(hat2 _ _ hd4).s;simp only[Nat.zero_mul,Nat.one_mul,Nat.add_zero,Nat.reduceMul]at x1 x2 x3 x4;clear hat1 hat2 hd1 hd2 hd3 hd4 HW1 HW2;go_upto_region 9 with fail;have y1:=(Below.refl w8.heap.size w8).drew.keep x1;have y2:=(Below.refl w8.heap.size w8).drew.keep x2;have y3:=(Below.refl w8.heap.size w8).drew.keep x3;have y4:=(Below.refl w8.heap.size w8).drew.keep x4;have HY:Hid (w8.drew.cell? ⟨b1,o1+9,none⟩=some (.int .i64 u1)∧w8.drew.cell? ⟨b1,o1+18,none⟩=some (.int .i64 u2)∧w8.drew.cell? ⟨b2,o2,none⟩=some (.int .i64 u1)∧w8.drew.cell? ⟨b2,o2+9,none⟩=some (.int .i64 u2)):=hid ⟨y1,y2,y3,y4⟩;have HMd:=hid (HM.o.later (Below.refl _ _).drew);have HBd:=hid (HB.o.on (Below.refl _ _).drew);have hs1:=HST.o;have hs2:0<(stateP G).length:=by omega
 clear x1 x2 x3 x4 y1 y2 y3 y4
 go_region_held3 (fun w'=>w'.cell? ⟨b1,o1+9,none⟩=some (.int .i64 u1)∧w'.cell? ⟨b1,o1+18,none⟩=some (.int .i64 u2)∧w'.cell? ⟨b2,o2,none⟩=some (.int .i64 u1)∧w'.cell? ⟨b2,o2+9,none⟩=some (.int .i64 u2))
  (first
   |with_reducible exact HY.o
   |with_reducible exact HY9.o)
  ((go_at_call 17;(with_reducible refine(mstate_is M G _ HGS.o.ok HGS.o.short HMd.o).mono ?_);rintro e w9 ⟨sa,sc,rfl,_,hb9⟩;have HY9:Hid (w9.cell? ⟨b1,o1+9,none⟩=some (.int .i64 u1)∧w9.cell? ⟨b1,o1+18,none⟩=some (.int .i64 u2)∧w9.cell? ⟨b2,o2,none⟩=some (.int .i64 u1)∧w9.cell? ⟨b2,o2+9,none⟩=some (.int .i64 u2)):=hid ⟨hb9.keep HY.o.1,hb9.keep HY.o.2.1,hb9.keep HY.o.2.2.1,hb9.keep HY.o.2.2.2⟩;have HB9:=hid (HBd.o.on hb9);clear hb9))
 all_goals
  go_wp2_with fail;go_ret;exact⟨rfl,HB9.o⟩
end Go.Proofs.YtpjlignclchgiaaGreat
