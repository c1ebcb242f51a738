/-
  tegulalaw38: awake.
  Conditions: as the theorem says.
-/
import Derived.Test.YtaiklhbakldfhaaGreatMqL
import Derived.Test.YtaiklhbakldfhaaGreatHQ
namespace Go.Proofs.YtaiklhbakldfhaaGreat
open Go.Lib (hid)
set_option linter.unusedSimpArgs false
set_option linter.unusedVariables false
set_option maxRecDepth 100000
set_option maxHeartbeats 16000000
open Go.RowKit Go.Maps
def aIe:Fam:=⟨10,[]⟩
def rA:Fam:=⟨10,[⟨na,8,0,[]⟩]⟩
theorem aYe:aU aIe na 8 0=(rA,0):=rfl
theorem bHb:crE aIe na 8 0=0:=rfl
theorem bCj:cB rA=10:=rfl
theorem aBf:aIe.sound:=xJ 10 (by omega)
theorem xY:rA.sound:=by
 have:=uI aBf (nm:=na) (n:=8) (r:=0) (by omega) rfl rfl
 rwa [aYe]at this
theorem bCk:rA.once:=fun v hv=>by
 simp[rA]at hv;subst hv;exact aGw
theorem aLs:jR rA na 2 3=0:=rfl
theorem bJt:(kE na 8 0).length<=256:=by
 unfold kE;rw[List.length_append,sF 3 _ (by omega) (by decide)];have:=vU (p:=8) (n:=0) (by omega) (by omega);have:na.length=1:=rfl;omega
theorem bJu:fO aIe (kE na 8 0)=(rA,0):=by
 rw[aIj _ _ _ _ bJt (by decide) (by omega) (by omega),aYe];exact oP rfl (by rw[bCj];omega)
theorem aUq {F:Fam} {v:Vol} {p n:Nat} {S:List Int} (h:PW F v p n S) {G:Fam} {L:List E} (hw:WrJ F v p n S n G L) {q m:Nat} (h1:p<=q) (h2:q+m<=p+n) (h3:1<=m/\m<=16):
  jR G v.nm q m=0/\ ∀(R:List Int) (j:Nat),j<m->dI G.C L q R j=dI F.C v.l p S (q+j-p):=by
 obtain ⟨l,g1,g2,_⟩:=hw.wi.get;obtain rfl:l=L:=by
  have:=g1.symm.trans hw.get;exact congrArg Vol.l (Option.some.inj this)
 have hle:=h.le;refine⟨?_,fun R j hj=> ?_⟩
 ·rw[aGa _ _ hw.get (by omega)];have hn:=tX hw.wi.ok (v:=v.set l) hw.get q m (by show _<=v.n;omega);have hr:lZ G.C l q m=0:=aZw q m fun b q1 q2=>g2 b (by omega) (by omega);rw[show(v.set l).nm=v.nm from rfl,show(v.set l).l=l from rfl,hr]at hn;refine aOb (by rw[hn]) ?_;rw[hn];unfold iC;rw[hw.get];exact nZ _ _
 ·have hx:exJ G.C l q j=true:=g2 (q+j) (by omega) (by omega);rw[aAd hx];have hs:=hw.at' ((q+j:Nat):Int);rw[show q+j=p+(q+j-p) by omega,aAi (by omega),aBl]at hs;rw[show q+j=p+(q+j-p) by omega];cases hf:fH l ((p+(q+j-p):Nat):Int)
  ·rw[hf,if_neg (by decide)]at hs;cases hs
  ·rw[hf,if_pos rfl]at hs;rw[Option.some.inj hs];congr 1;omega
theorem lK.rd' {w:World} {B n c:Nat} {a:Option Addr} {l:List Bk} (h:lK w B (.slice a n c) l) (hl:l.length<=1000000):RdB w a l:=by
 obtain⟨a',c',he,hr⟩:=h.rd hl;injection he with he;rw[he];exact hr
theorem eU (w:World):Calls Tryz.prog 4 #[] w fun e w'=>e= .returned (.bool true)/\Below w.heap.size w w':=by
 obtain⟨v,p0,n0,k,hv,hvn,hp0,hn0,g1,g2,hk,hf,hpw⟩:=aJv xY bCk aLs;obtain rfl:p0=2:=by omega
 obtain rfl:n0=3:=by omega
 obtain⟨S,hS⟩:∃ S,sO rA v.nm ((2:Nat):Int) k=S:=⟨_,rfl⟩;rw[hS]at hpw;obtain⟨G,L,hwj⟩:=hpw.at 3 (Nat.le_refl _);have hl1:=hpw.note_le (by omega);have hap:=hpw.apply hwj (by omega);obtain⟨hp2,hpk⟩:=aUq hpw hwj (q:=3) (m:=2) (by omega) (by omega) (by omega);have hGs:=hwj.wi.sound xY hv;have hGo:=hwj.once hpw;obtain⟨v',p1,n1,k',hv',hvn',hp1,hn1,_,_,hk',hf',hpw'⟩:=aJv hGs hGo hp2;obtain rfl:p1=3:=by omega
 obtain rfl:n1=2:=by omega
 obtain rfl:v'=v.set L:=by
  rw[hvn',hwj.get]at hv';exact(Option.some.inj hv').symm
 obtain⟨S',hS'⟩:∃ S,sO G (v.set L).nm ((3:Nat):Int) k'=S:=⟨_,rfl⟩;rw[hS']at hpw';have HMP1:=hid (fun M W (ad:Option Addr) cd h hrd=>qG M rA v 2 3 cd k (List.replicate 3 Bk.zero) S ad W xY.ok xY.short h hv (by simp) hpw.le hrd (by rw[hvn];exact aLs) hk hf hS);have HMP2:=hid (fun M W (ad:Option Addr) cd h hrd=>qG M G (v.set L) 3 2 cd k' (List.replicate 2 Bk.zero) S' ad W hGs.ok hGs.short h hwj.get (by simp) hpw'.le hrd hp2 hk' hf' hS');rw[show(v.set L).nm=v.nm from rfl,show(v.set L).l=L from rfl]at HMP2;obtain⟨WL1,hW1⟩:∃ WL,wrL rA.C v.l 2 S (List.replicate 3 Bk.zero) 3=WL:=⟨_,rfl⟩;obtain⟨WL2,hW2⟩:∃ WL,wrL G.C L 3 S' (List.replicate 2 Bk.zero) 2=WL:=⟨_,rfl⟩;obtain⟨u1,hu1⟩:∃ u,dI rA.C v.l 2 S 1=u:=⟨_,rfl⟩;obtain⟨u2,hu2⟩:∃ u,dI rA.C v.l 2 S 2=u:=⟨_,rfl⟩;have HA1:Hid (∃d,WL1[1]? =some ⟨u1,d⟩):=hid ⟨_,by rw[<-hW1,pQ (by omega),hu1]⟩;have HA2:Hid (∃d,WL1[2]? =some ⟨u2,d⟩):=hid ⟨_,by rw[<-hW1,pQ (by omega),hu2]⟩;have HC0:Hid (∃d,WL2[0]? =some ⟨u1,d⟩):=hid ⟨_,by rw[<-hW2,pQ (by omega),hpk S' 0 (by omega),hu1]⟩;have HC1:Hid (∃d,WL2[1]? =some ⟨u2,d⟩):=hid ⟨_,by rw[<-hW2,pQ (by omega),hpk S' 1 (by omega),hu2]⟩;have HL1:Hid (WL1.length=3):=hid (by rw[<-hW1,jY]);have HL2:Hid (WL2.length=2):=hid (by rw[<-hW2,jY]);rw[hW1]at HMP1;rw[hW2]at HMP2;rw[hvn]at HMP1 HMP2 hap hl1;obtain⟨N2,hN2⟩:∃ N,iU na (joinL (chL rA.C v.l 2 S 3))=N:=⟨_,rfl⟩;obtain⟨N3,hN3⟩:∃ N,iU na (joinL (chL G.C L 3 S' 2))=N:=⟨_,rfl⟩;rw[hN2]at HMP1 hap hl1;rw[hN3]at HMP2;have HAP2:=hid hap;have HGS:=hid hGs;have hl2:(N2.length:Int)<=256:=by omega
 have HST:Hid (1<=(jG G).length):=hid (by
  unfold jG;rw[List.length_append];have:=(wM (G.vs.length:Int)).1
  omega)
 obtain⟨N1,hN1⟩:∃ N,kE na 8 0=N:=⟨_,rfl⟩;have HN1:Hid ((if (0:Int)=0 then kE na 8 0 else [])=N1):=hid (by rw[if_pos rfl,hN1]);have hap1:=bJu;rw[hN1]at hap1;have HAP1:=hid hap1;clear hv hvn hp0 hn0 g1 g2 hk hf hpw hS hwj hl1 hap hp2 hpk hGs hGo hv' hvn' hp1 hn1 hk' hf' hpw' hS' hW1 hW2 hu1 hu2 hN2 hN3 hN1 hap1;go_enter Tryz.func4,Tryz.ntmps4;go_wp2_with fail;refine(aAl 10 _ (by omega)).mono ?_;rintro e w1 ⟨M,rfl,hM,hm,hb⟩;have HM:Hid (dU w1 M aIe):=hid hm;have HB:=hid hb;clear hm hb;go_wp2_with fail;refine(yY M aIe 0 na N1 8 0 _ aBf.ok aBf.short HM.o (by decide) bHb HN1.o).mono ?_;rintro e w2 ⟨a1,c1,rfl,hr,hb⟩;have HR:=hid hr;replace HM:=hid (HM.o.later hb);replace HB:=hid (HB.o.on hb);clear hr hb;go_wp2_with fail;refine(gX M aIe rA 0 N1 a1 c1 _ aBf.ok aBf.short8 HM.o HR.o HAP1.o).mono ?_;rintro e w3 ⟨rfl,hm,hg⟩;replace HB:=hid (HB.o.bMu hg fun j e=>by injection e with e;omega);replace HM:=hid hm;clear hm hg HR;have hsz:=HB.o.size
 go_wp2_with (at_make;(refine nW _ rfl _ _ 56 rfl Tryz.underlying56 _ _ 3 rfl rfl (by omega) w.heap.size w3.heap.size rfl hsz ?_);intro w4 ho4 hb4 hz4)
 have HD:=hid (lK.rd' ho4 (by simp));replace HM:=hid (HM.o.later hb4);replace HB:=hid (HB.o.on hb4);clear ho4 hb4 hz4 hsz;refine(HMP1.o M _ _ _ HM.o HD.o).mono ?_;rintro e w5 ⟨wa,wc,na2,nc2,rfl,hw,hn,hb⟩;have HW1:=hid hw;have HR:=hid hn;replace HM:=hid (HM.o.later hb);replace HB:=hid (HB.o.on hb);rw[HL1.o];clear hw hn hb HD;go_wp2_with fail;refine(gX M rA G 0 N2 na2 nc2 _ xY.ok xY.short8 HM.o HR.o HAP2.o).mono ?_;rintro e w6 ⟨rfl,hm,hg⟩;replace HW1:=hid (HW1.o.grown HM.o.odd hg);replace HB:=hid (HB.o.bMu hg fun j e=>by injection e with e;omega);replace HM:=hid hm;clear hm hg HR;have hsz:=HB.o.size
 go_wp2_with (at_make;(refine nW _ rfl _ _ 56 rfl Tryz.underlying56 _ _ 2 rfl rfl (by omega) w.heap.size w6.heap.size rfl hsz ?_);intro w7 ho7 hb7 hz7)
 have HD:=hid (lK.rd' ho7 (by simp));replace HM:=hid (HM.o.later hb7);replace HB:=hid (HB.o.on hb7);replace HW1:=hid (HW1.o.keep hb7);clear ho7 hb7 hz7 hsz;refine(HMP2.o M _ _ _ HM.o HD.o).mono ?_;rintro e w8 ⟨xa,xc,na3,nc3,rfl,hw,hn,hb⟩;have HW2:=hid hw;replace HM:=hid (HM.o.later hb);replace HB:=hid (HB.o.on hb);replace HW1:=hid (HW1.o.keep hb);rw[HL2.o];clear hw hn hb HD;obtain⟨b1,o1,rfl,hat1⟩:=HW1.o.at (by rw[HL1.o];omega);obtain⟨b2,o2,rfl,hat2⟩:=HW2.o.at (by rw[HL2.o];omega);obtain⟨d1,hd1⟩:=HA1.o;obtain⟨d2,hd2⟩:=HA2.o;obtain⟨d3,hd3⟩:=HC0.o;obtain⟨d4,hd4⟩:=HC1.o;have x1:=(hat1 _ _ hd1).s;have x2:=(hat1 _ _ hd2).s;have x3:=(hat2 _ _ hd3).s;have x4:=(hat2 _ _ hd4).s;simp only[Nat.zero_mul,Nat.one_mul,Nat.add_zero,Nat.reduceMul]at x1 x2 x3 x4;clear hat1 hat2 hd1 hd2 hd3 hd4 HW1 HW2;go_upto_region 9 with fail;have y1:=(Below.refl w8.heap.size w8).drew.keep x1;have y2:=(Below.refl w8.heap.size w8).drew.keep x2;have y3:=(Below.refl w8.heap.size w8).drew.keep x3;have y4:=(Below.refl w8.heap.size w8).drew.keep x4;have HY:Hid (w8.drew.cell? ⟨b1,o1+9,none⟩=some (.int .i64 u1)/\w8.drew.cell? ⟨b1,o1+18,none⟩=some (.int .i64 u2)/\w8.drew.cell? ⟨b2,o2,none⟩=some (.int .i64 u1)/\w8.drew.cell? ⟨b2,o2+9,none⟩=some (.int .i64 u2)):=hid ⟨y1,y2,y3,y4⟩;have HMd:=hid (HM.o.later (Below.refl _ _).drew);have HBd:=hid (HB.o.on (Below.refl _ _).drew);have hs1:=HST.o;have hs2:0<(jG G).length:=by omega
 clear x1 x2 x3 x4 y1 y2 y3 y4
 go_region_held3 (fun w'=>w'.cell? ⟨b1,o1+9,none⟩=some (.int .i64 u1)/\w'.cell? ⟨b1,o1+18,none⟩=some (.int .i64 u2)/\w'.cell? ⟨b2,o2,none⟩=some (.int .i64 u1)/\w'.cell? ⟨b2,o2+9,none⟩=some (.int .i64 u2))
  (first
   |with_reducible exact HY.o
   |with_reducible exact HY9.o)
  ((go_at_call 6;(with_reducible refine(qF M G _ HGS.o.ok HGS.o.short HMd.o).mono ?_);rintro e w9 ⟨sa,sc,rfl,_,hb9⟩;have HY9:Hid (w9.cell? ⟨b1,o1+9,none⟩=some (.int .i64 u1)/\w9.cell? ⟨b1,o1+18,none⟩=some (.int .i64 u2)/\w9.cell? ⟨b2,o2,none⟩=some (.int .i64 u1)/\w9.cell? ⟨b2,o2+9,none⟩=some (.int .i64 u2)):=hid ⟨hb9.keep HY.o.1,hb9.keep HY.o.2.1,hb9.keep HY.o.2.2.1,hb9.keep HY.o.2.2.2⟩;have HB9:=hid (HBd.o.on hb9);clear hb9))
 all_goals
  go_wp2_with fail;go_ret;exact⟨rfl,HB9.o⟩
end Go.Proofs.YtaiklhbakldfhaaGreat
