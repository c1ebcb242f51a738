/-
  tegulalaw38: equal.
  Conditions: as the theorem says.
-/
import Derived.Test.YtaiklhbakldfhaaGreatFcR
namespace Go.Proofs.YtaiklhbakldfhaaGreat
open Go.Lib (hid)
set_option linter.unusedSimpArgs false
set_option linter.unusedVariables false
set_option maxRecDepth 100000
set_option maxHeartbeats 16000000
open Go.RowKit Go.Maps
theorem aWc (F:Fam) (fv gv:Value) (w:World) (hF:F.ok) (h9:∀ v∈F.vs,v.l.length<=9000) (h1:bA w fv F) (h2:bI w gv F):
  Calls Tryz.prog 25 #[fv,gv] w fun e w'=>e= .returned (.bool true)/\Below w.heap.size w w':=by
 obtain⟨fa,fc,fm,rfl⟩:=h1.form;have hfr:=h2;obtain⟨a,c,ts,rfl,hr,hl,hts,_⟩:=h2;have HH:=hid (SB.init w _ _ _ _ F h1 hfr _ rfl);have HR:=hid hr;have HL:=hid hl;have HTS:=hid hts;have HF:=hid hF;have H9:=hid h9;have h32:=(jN hF hts).2;have HLEN:=hid (jN hF hts).1;clear h1 hfr hr hl hts hF h9;go_enter Tryz.func25,Tryz.ntmps25;go_wp2_with fail;have b0:=HH.o.fb.c0;have b1:=HH.o.fb.c1;refine(aCj F _ _ HF.o HH.o.fam).mono ?_;rintro e w1 ⟨nv,rfl,hns,hb⟩;obtain⟨na,nc,rfl,hnr⟩:=hns.rd;rw[List.length_map,<-HLEN.o];have HNR:=hid hnr;have HH:=hid (HH.o.later hb);clear hnr hns hb b0 b1;go_upto_region 2 with fail;have HV:=hid (HH.o.later (Below.refl _ _).drew)
 go_region_held3 (fun w'=>w'.cell? ⟨w.heap.size,0,none⟩=some (.slice fa F.N fc)/\w'.cell? ⟨w.heap.size,1,none⟩=some (.map fm)/\w'.cell? ⟨w.heap.size+1,0,none⟩=some (.int .i64 F.N)/\w'.cell? ⟨w.heap.size+1,1,none⟩=some (.slice a ts.length c)/\Below w1.drew.heap.size w1.drew w')
  (first
   |with_reducible exact⟨HV.o.fb.c0,HV.o.fb.c1,HV.o.gb.c0,HV.o.gb.c1,Below.refl _ _⟩
   |with_reducible exact⟨HQ1.o.fb.c0,HQ1.o.fb.c1,HQ1.o.gb.c0,HQ1.o.gb.c1,hW1⟩)
  (first
   |(go_at_call 69;have hW:=(‹_/\_/\_/\_/\Below w1.drew.heap.size w1.drew _›).2.2.2.2;refine(aMf F F.N _ _ HF.o (HV.o.later hW).fam rfl).mono ?_;rintro e v1 ⟨rfl,hb1⟩;have hW1:=hW.on hb1;have HQ1:=hid (HV.o.later hW1)))
 have HH:=hid (HV.o.later hW1);have HNR:Hid (yF v1 na (F.vs.map (·.nm))):=hid (yF.keep (show yF w1 na (F.vs.map (·.nm)) from HNR.o) ((Below.refl w1.heap.size w1).drew.on hW1));clear hW1 hb1 HQ1 HV;generalize v1=W5 at *;go_wp2_with fail;go_loopw [6] (fun i wr=>∃ k:Nat,k<=ts.length/\i= .int .i64 k/\Below W5.heap.size W5 wr) (fun i _=>ts.length-(intOf i).toNat)
 case atStart=>exact⟨0,Nat.zero_le _,rfl,Below.refl _ _⟩
 case round=>
  obtain⟨k,hk,rfl,hB⟩:=hrel;have HM:=hid (HH.o.later hB);have HNK:=hid (HNR.o.keep hB);have HBL:=hid hB;clear hB;by_cases hlt:k<ts.length
  ·obtain ⟨b,o,hab,hat⟩:=(HR.o.keep HM.o.B).at (by omega);have hat2:=hat k _ (List.getElem?_eq_getElem hlt);have hmem:ts[k].vol∈F.vs:=by rw[<-HTS.o];exact List.mem_map_of_mem (List.getElem_mem hlt)
   have hrl:=HL.o _ (List.getElem_mem hlt);have hnk:yF wr na (F.vs.map (·.nm)):=HNK.o;have hge:(F.vs.map (·.nm))[k]? =some ts[k].nm:=by
    rw[<-HTS.o,List.map_map,List.getElem?_map,List.getElem?_eq_getElem hlt];rfl
   obtain⟨g,hna,hnm⟩:=hnk.resolve_left (fun e=>by rw[e]at hge;simp at hge);have hnc:=hnm k _ hge;generalize ts[k]=z at *;obtain⟨nm,n,r,za,zc,l⟩:=z;obtain⟨e0,e1,e2,e3⟩:=hat2;have hok:=HF.o.vol _ hmem;have HIF:Hid (eP F nm=(⟨nm,n,r,aT l,bF F.C l⟩,0)):=hid (bIs HF.o hmem);have HRG:Hid (fU F nm 0 n=(l,0)):=hid (aDg HF.o (iO HF.o.sorted hmem));have HRL:=hid hrl;have HMEM:=hid hmem;have HNL:Hid (nm.length<=maxLen):=hid (nI hok.name);have HNN:Hid (1<=n/\n<=65536):=hid ⟨hok.n1,hok.n2⟩;clear hok hmem hat hnm hge hnk hrl;subst hab hna;have c0:=HM.o.gb.c0;have c1:=HM.o.gb.c1;have hk0:(0:Int)<=k:=by omega
   have hk1:(k:Int)<ts.length:=by omega
   have HX:=hid (VX.new wr _ rfl ⟨nm,n,r,za,zc,l⟩ 153);have x0:=HX.o.x0;have x1:=HX.o.x1;have x2:=HX.o.x2;have x3:=HX.o.x3;go_upto_region 8 with fail;have hkv:=(Below.refl wr.heap.size wr).bMq (.cells #[nmV nm,.int .i64 n,.int .i64 r,.slice za l.length zc] 153);have HM7:=hid (HM.o.later hkv);have n7:=hkv.keep hnc;have HX7:=HX;have HBK:=hid (HBL.o.on hkv);clear e0 e1 e2 e3 c0 c1 x0 x1 x2 x3 hnc hkv HM HX HBL HNK;generalize wr.alloc (.cells #[nmV nm,.int .i64 n,.int .i64 r,.slice za l.length zc] 153)=W7 at *;generalize wr.heap.size=X at *;generalize bF F.C l=sg at*
   go_cut [8,9] from 40 to 49 (fun p q wx=>bLt W7 ⟨nm,n,r,aT l,sg⟩ p q wx)
   case first=>
    have HV:=hid (HM7.o.later (Below.refl _ _).drew);have HN7:=hid ((Below.refl W7.heap.size W7).drew.keep n7);have HT0:Hid (RI w (W7.alloc (.cells #[.string ⟨#[]⟩,.int .i64 0,.int .i64 0,.int .i64 0,.int .i64 0] 73)).drew W7.heap.size):=hid (RI.later (RI.new w W7 73 HM7.o.B) (Below.refl _ _).drew);have hAL:Below W7.drew.heap.size W7.drew (W7.alloc (.cells #[.string ⟨#[]⟩,.int .i64 0,.int .i64 0,.int .i64 0,.int .i64 0] 73)).drew:=(Below.refl W7.drew.heap.size W7.drew).bMq (.cells #[.string ⟨#[]⟩,.int .i64 0,.int .i64 0,.int .i64 0,.int .i64 0] 73);have HAV:=hid (HV.o.later hAL);have HAN:=hid (hAL.keep HN7.o);have HAL:=hid hAL;clear hAL;have h9d:W7.drew.heap.size=W7.heap.size:=rfl
    go_region_held3 (fun w'=>w'.cell? ⟨w.heap.size,0,none⟩=some (.slice fa F.N fc)/\w'.cell? ⟨w.heap.size,1,none⟩=some (.map fm)/\w'.cell? ⟨g,k,none⟩=some (nmV nm)/\Below W7.drew.heap.size W7.drew w')
     (first
      |with_reducible exact⟨HV.o.fb.c0,HV.o.fb.c1,HN7.o,Below.refl _ _⟩
      |with_reducible exact⟨HAV.o.fb.c0,HAV.o.fb.c1,HAN.o,HAL.o⟩
      |with_reducible exact⟨HP1.o.fb.c0,HP1.o.fb.c1,HP2.o,hW1⟩
      |with_reducible exact⟨HP3.o.fb.c0,HP3.o.fb.c1,HP4.o,hW2⟩
      |with_reducible exact⟨HP5.o.fb.c0,HP5.o.fb.c1,HP6.o,hW3⟩
      |with_reducible exact⟨HP7.o.fb.c0,HP7.o.fb.c1,HP8.o,hW4⟩)
     (first
      |(go_at_call 19;have hW:=(‹_/\_/\_/\Below W7.drew.heap.size W7.drew _›).2.2.2;refine(sD F nm n r (aT l) sg 0 _ nm _ HF.o H9.o (HV.o.later hW).fam HNL.o HIF.o).mono ?_;rintro e v8 ⟨rfl,hb8⟩;have hW1:=hW.on hb8;have HP1:=hid (HV.o.later hW1);have HP2:=hid (hW1.keep HN7.o);have hW2:=hW1.bMq (.cells #[nmV nm,.int .i64 n,.int .i64 r,.int .i64 (aT l),.int .i64 sg] 73);have HP3:=hid (HV.o.later hW2);have HP4:=hid (hW2.keep HN7.o);have hW3:=uP hW1 (T:=W7.heap.size) (Nat.le_refl _) ⟨nm,n,r,aT l,sg⟩;have HP5:=hid (HV.o.later hW3);have HP6:=hid (hW3.keep HN7.o);have hW4:=hW1.bMq (.cells #[.string ⟨#[]⟩,.int .i64 0,.int .i64 0,.int .i64 0,.int .i64 0] 73);have HP7:=hid (HV.o.later hW4);have HP8:=hid (hW4.keep HN7.o);(try(have HT3:=hid (HT0.o.later hb8);have t0:=HT3.o.r0;have t1:=HT3.o.r1;have t2:=HT3.o.r2;have t3:=HT3.o.r3;have t4:=HT3.o.r4;have s0:=HT3.o.f0;have s1:=HT3.o.f1;have s2:=HT3.o.f2;have s3:=HT3.o.f3;have s4:=HT3.o.f4))))
    ·have h23:=(Below.refl W7.heap.size W7).drew.on hW1;have HQ:Hid (bLt W7 ⟨nm,n,r,aT l,sg⟩ (.pointer (some ⟨v8.heap.size,0,none⟩)) (.int .i64 0) (v8.alloc (.cells #[nmV nm,.int .i64 n,.int .i64 r,.int .i64 (aT l),.int .i64 sg] 73))):=
      hid ⟨_,rfl,rfl,IT.new v8 _ rfl ⟨nm,n,r,aT l,sg⟩ _,h23.bMq _⟩
     clear h23 hW1 hW2 hW3 hW4 hb8 hW;go_wp2_with fail;go_meet;exact HQ.o
    ·have h23:=(Below.refl W7.heap.size W7).drew.on hW1;have HQ:Hid (bLt W7 ⟨nm,n,r,aT l,sg⟩ (.pointer (some ⟨W7.heap.size,0,none⟩)) (.int .i64 0) (qU v8 W7.heap.size ⟨nm,n,r,aT l,sg⟩)):=
      hid ⟨_,rfl,rfl,IT.of_ri HT3.o _,uP h23 (Nat.le_refl _) _⟩
     clear h23 hW1 hW2 hW3 hW4 hb8 hW t0 t1 t2 t3 t4 s0 s1 s2 s3 s4;go_wp2_with fail;go_meet;exact HQ.o
   case rest=>
    obtain⟨T,rfl,rfl,hit,hb8⟩:=hcut;obtain⟨W8,rfl⟩:∃ W2:World,W2=wc:=⟨_,rfl⟩;have HM8:=hid (HM7.o.later hb8);have HIT:=hid hit;have HX8:=hid (HX7.o.later hb8);have n8:=hb8.keep n7;have HB8:=hid (HBK.o.on hb8);clear hit hb8 n7 HX7 HM7 HBK;have c0:=HM8.o.gb.c0;have c1:=HM8.o.gb.c1;have x0:=HX8.o.x0;go_wp2_with fail;refine(aAa F nm n r (aT l) sg 0 _ nm _ HF.o HM8.o.famr HNL.o HIF.o).mono ?_;rintro e w9 ⟨rfl,hb⟩;have hk:=hb.bMq (.cells #[nmV nm,.int .i64 n,.int .i64 r,.int .i64 (aT l),.int .i64 sg] 73);have HM9:=hid (HM8.o.later hk);have HI9:=hid (HIT.o.later hk);have HJ9:=hid (IT.new w9 _ rfl ⟨nm,n,r,aT l,sg⟩ 73);have HX9:=hid (HX8.o.later hk);have HB9:=hid (HB8.o.on hk);replace n8:=hk.keep n8;clear hb hk c0 c1 x0 HM8 HIT HX8 HB8;go_upto_region 10 with fail;generalize w9.alloc (.cells #[nmV nm,.int .i64 n,.int .i64 r,.int .i64 (aT l),.int .i64 sg] 73)=W9 at *;generalize w9.heap.size=T9 at *;have HV:=hid (HM9.o.later (Below.refl _ _).drew);have HN9:=hid ((Below.refl W9.heap.size W9).drew.keep n8);have HXV:=hid (HX9.o.later (Below.refl _ _).drew);clear n8
    go_region_held3 (fun w'=>w'.cell? ⟨w.heap.size,0,none⟩=some (.slice fa F.N fc)/\w'.cell? ⟨w.heap.size,1,none⟩=some (.map fm)/\w'.cell? ⟨g,k,none⟩=some (nmV nm)/\w'.cell? ⟨X,1,none⟩=some (.int .i64 n)/\Below W9.drew.heap.size W9.drew w')
     (first
      |with_reducible exact⟨HV.o.fb.c0,HV.o.fb.c1,HN9.o,HXV.o.x1,Below.refl _ _⟩
      |with_reducible exact⟨HP1.o.fb.c0,HP1.o.fb.c1,HP2.o,HP3.o.x1,hW1⟩)
     (first
      |(go_at_call 20;have hW:=(‹_/\_/\_/\_/\Below W9.drew.heap.size W9.drew _›).2.2.2.2;refine(aMl F l 0 _ nm 0 n _ HF.o (HV.o.later hW).fam HNL.o (by omega) (by have:=HNN.o;omega) HRG.o).mono ?_;rintro e v10 ⟨sv,rfl,ho10,hb10⟩;have hW1:=hW.on hb10;have HP1:=hid (HV.o.later hW1);have HP2:=hid (hW1.keep HN9.o);have HP3:=hid (HXV.o.later hW1)))
    all_goals
     obtain⟨qa,qc,rfl,hq⟩:=ho10.rd (by have:=(H9.o _ HMEM.o);have h:l.length<=9000:=this;omega);have h9:=(Below.refl W9.heap.size W9).drew.on hW1;have HI:=hid (HI9.o.later h9);have HJ:=hid (HJ9.o.later h9);have HX:=hid (HX9.o.later h9);have HQ:=hid hq;have HBF:=hid (HB9.o.on h9);clear hq ho10 hb10 hW1 hW h9 HP1 HP2 HP3 HV HN9 HXV;have i0:=HI.o.t0;have i1:=HI.o.t1;have i2:=HI.o.t2;have i3:=HI.o.t3;have i4:=HI.o.t4;have j0:=HJ.o.t0;have j1:=HJ.o.t1;have j2:=HJ.o.t2;have j3:=HJ.o.t3;have j4:=HJ.o.t4;have x3:=HX.o.x3;go_wp2_with fail;refine(bIc l l qa za qc zc true _ (aFq _) HQ.o (Rd.keep (HH.o.B.on HBF.o) HRL.o)).mono ?_;rintro e v11 ⟨rfl,hb11⟩;have HBE:=hid (HBF.o.on hb11);clear hb11 i0 i1 i2 i3 i4 j0 j1 j2 j3 j4 x3;go_wp2_with fail;go_roundw
     case rel=>exact⟨k+1,by omega,by go_num,HBE.o⟩
     case measure=>simp[intOf];omega
  ·obtain rfl:k=ts.length:=by omega
   have HBE:=hid (HH.o.B.on HBL.o);clear HM HNK HBL HH;go_wp2_with fail;go_ret;exact⟨rfl,HBE.o⟩
end Go.Proofs.YtaiklhbakldfhaaGreat
