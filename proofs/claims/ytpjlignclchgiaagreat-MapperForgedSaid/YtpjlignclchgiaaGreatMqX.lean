/-
  The walk of MapperForged.
  Conditions: as the theorem says.
-/
import Derived.Test.YtpjlignclchgiaaGreatMqU
import Derived.Test.YtpjlignclchgiaaGreatHS
import Derived.Test.YtpjlignclchgiaaGreatMqQ
namespace Go.Proofs.YtpjlignclchgiaaGreat
open Go.Lib (hid)
set_option linter.unusedSimpArgs false
set_option linter.unusedVariables false
set_option maxRecDepth 100000
set_option maxHeartbeats 16000000
open Go.RowKit Go.Maps
theorem aHf {w W W':World} {row row':Option Nat} (h:w.grownBy W row) (hg:W.grownBy W' row') (hr:∀ j,row'=some j->row=some j∨w.heap.size<=j):w.grownBy W' row:=
 ⟨hg.os.trans h.os,hg.tape.trans h.tape,hg.output.trans h.output,Nat.le_trans h.size hg.size,fun k hk hne=>(hg.block k (Nat.lt_of_lt_of_le hk h.size) (fun e=>by
  rcases hr k e.symm with q|q
  ·exact hne q.symm
  ·omega)).trans (h.block k hk hne)⟩
theorem RdY.grownO {W W':World} {B:Nat} {lv:Value} {xs:List Value} {a:Option Addr} {l:List UInt8} (h:RdY W a l) (ho:mR W B lv xs) (hg:W.grownBy W' lv.ownBlock):RdY W' a l:=by
 cases hv:lv.ownBlock with
 | none=>
  rw[hv]at hg;exact h.keep (lT hg)
 | some X=>
  rw[hv]at hg;exact h.bNb (ho.odd hv).1 hg
structure FI (Wb W:World) (lv:Value) (xs:List NS):Prop where
 own:mR W Wb.heap.size lv (xs.map NS.v)
 notes:uR W xs
 B:Below Wb.heap.size Wb W
section
variable {Wb W W':World} {lv lv':Value} {xs ys:List NS}
theorem FI.later (h:FI Wb W lv xs) (hb:Below W.heap.size W W'):FI Wb W' lv xs:=⟨h.own.keep hb,h.notes.keep hb,h.B.on hb⟩
theorem FI.old (h:FI Wb W lv xs):∀ j,lv.ownBlock=some j->Wb.heap.size<=j/\j<W.heap.size:=fun j e=>by
 obtain⟨⟨cur,hr,_⟩,h2⟩:=h.own.odd e;exact⟨h2,(Array.getElem?_eq_some_iff.1 hr).1⟩
theorem FI.more (h:FI Wb W lv xs) (hg:W.grownBy W' lv.ownBlock) (hown:mR W' Wb.heap.size lv' ((xs++ys).map NS.v)) (hy:uR W' ys):FI Wb W' lv' (xs++ys):=
 ⟨hown,fun z hz=>(List.mem_append.1 hz).elim (fun q=>(h.notes z q).grownO h.own hg) (fun q=>hy z q),h.B.bMu hg fun j e=>(h.old j e).1⟩
theorem FI.start (Wb:World) (b:Nat) (hb:Wb.heap.size=b) (a:Option Addr) (c:Nat) (N:List UInt8) (hr:RdY Wb a N):FI Wb (Wb.alloc (.cells #[.slice a N.length c] 33)) (.slice (some ⟨b,0,none⟩) 1 1) [⟨a,c,N⟩]:=by
 subst hb;have hk:=(Below.refl Wb.heap.size Wb).bMq (.cells #[.slice a N.length c] 33);refine⟨.inr ⟨Wb.heap.size,1,_,rfl,Nat.le_refl _,World.alloc_heap_new Wb _,Nat.le_refl _,by decide,rfl,rfl,fun u hu=> ?_⟩,fun z hz=> ?_,hk⟩
 ·simp at hu;subst hu;exact⟨_,_,_,rfl⟩
 ·simp at hz;subst hz;exact hr.keep hk
end
theorem mR.away {w w':World} {B:Nat} {v:Value} {xs:List Value} {row:Option Nat} (h:mR w B v xs) (hg:w.grownBy w' row) (hne:∀ k,v.ownBlock=some k->row≠some k):mR w' B v xs:=by
 rcases h with h|⟨g,cap,cur,rfl,h2,h3,h4⟩
 ·exact .inl h
 ·exact .inr ⟨g,cap,cur,rfl,h2,(hg.block g (Array.getElem?_eq_some_iff.1 h3).1 (fun e=>hne g rfl e.symm)).trans h3,h4⟩
theorem yN.all {F G:Fam} {Ns:List (List UInt8)} (h:yN F Ns G):∀ N∈Ns,N≠ []/\N.length<=256:=by
 induction h with
 |nil=>intro N hN;simp at hN
 | snoc _ _ _ _ h1 h2 _ ih=>
  intro N hN;rcases List.mem_append.1 hN with q|q
  ·exact ih N q
  ·simp at q;subst q;exact⟨h1,h2⟩
theorem aNb (i:Int) (S:List aW) (fl:List UInt8) (fx fy:Int) (a fa:Option Addr) (c fc:Nat) (w:World) (hi:0<=i/\i<=255) (hr:mQ w a S) (hfl:fl.length<=9223372036854775807) (hfr:fl.length<=1000000000->RdY w fa fl) (hfx:0<=fx/\fx<=65535) (hfy:0<=fy/\fy<=255):
  Calls Tryz.prog 8 #[.int .u8 i,.slice a S.length c,.agg #[.slice fa fl.length fc,.int .u16 fx,.int .u8 fy]] w fun e w'=>e= .returned (.bool true)/\Below w.heap.size w w':=by
 have hk0:=(Below.refl w.heap.size w).bMq (.cells #[.slice fa fl.length fc,.int .u16 fx,.int .u8 fy] 70);have HK0:=hid hk0;replace hr:=hr.keep hk0;have HX:=hid (Fg.new w (.slice fa fl.length fc) (.int .u16 fx) (.int .u8 fy) 70);clear hk0;obtain⟨n,rfl⟩:=Int.eq_ofNat_of_zero_le hi.1;have hn:n<=255:=by omega
 have hlen:=hr.1;by_cases h25:20<S.length
 ·go_enter Tryz.func8,Tryz.ntmps8;go_wp2_with fail;refine(eU _).mono ?_;rintro e w1 ⟨rfl,hb1⟩;go_wp2_with fail;go_ret;exact⟨rfl,HK0.o.on hb1⟩
 by_cases h300:300<fl.length
 ·go_enter Tryz.func8,Tryz.ntmps8;go_wp2_with fail;refine(eU _).mono ?_;rintro e w1 ⟨rfl,hb1⟩;have x0:=(HX.o.later hb1).c0;go_wp2_with fail;go_ret;exact⟨rfl,HK0.o.on hb1⟩
 have hS20:S.length<=1000:=by omega
 have HFR:=hid ((hfr (by omega)).keep HK0.o);clear hfr;go_enter Tryz.func8,Tryz.ntmps8;go_wp2_with fail;refine(eU _).mono ?_;rintro e w1 ⟨rfl,hb1⟩;have x0:=(HX.o.later hb1).c0;go_wp2_with fail;clear x0;refine(qZ n S a c _ hn hS20 (hr.keep hb1)).mono ?_;rintro e w2 ⟨M,F,gv,ns,na,nc,rfl,hsd,hon,hsm,hFN,hmb,hfr,hnr,hns,hfw,hch,hMw,hb2⟩;obtain⟨ra,rn,rc,rfl⟩:=hfr.form;have hk2:=(Below.refl w2.heap.size w2).bMq (.cells #[.int .i64 F.N,.slice ra rn rc] 30);have HSD:=hid hsd;replace HFR:=hid (((HFR.o.keep hb1).keep hb2).keep hk2);replace HX:=hid (((HX.o.later hb1).later hb2).later hk2);have HMB:=hid (hmb.later hk2);have HNR:=hid (hnr.keep hk2);have HNS:=hid (hns.keep hk2);have HBW:=hid (((HK0.o.on hb1).on hb2).on hk2);have HCH:=hid hch.all;have x0:=HX.o.c0;clear hk2 hsd hon hsm hFN hmb hfr hnr hns hch hMw hb1 hb2 HK0 hr;go_wp2_with fail;have HWB:Hid ((w2.alloc (.cells #[.int .i64 F.N,.slice ra rn rc] 30)).heap.size=w2.heap.size+1):=hid (World.size_alloc _ _);generalize w2.alloc (.cells #[.int .i64 F.N,.slice ra rn rc] 30)=Wb at *;have HI:=hid (FI.start Wb (w2.heap.size+1) HWB.o fa fc fl HFR.o);generalize Wb.alloc (.cells #[.slice fa fl.length fc] 33)=Wa at *;go_loopw [11,12] (fun lv i wr=>∃ (k:Nat) (xs:List NS),k<=ns.length/\i= .int .i64 k/\FI Wb wr lv xs/\xs.length<=1+2*k) (fun _ i _=>ns.length-(intOf i).toNat)
 case atStart=>exact⟨0,_,Nat.zero_le _,rfl,HI.o,by simp⟩
 case round=>
  clear HI x0;obtain⟨k,xs,hk,rfl,hi,hxl⟩:=hrel;have HI:=hid hi;clear hi;by_cases hlt:k<ns.length
  ·have hB0:=HI.o.B;obtain⟨x,hx⟩:∃ x,ns[k]=x:=⟨_,rfl⟩;have hxm:x∈ns:=by rw[<-hx];exact List.getElem_mem _
   obtain ⟨nb,no,rfl,hat⟩:∃ b o,na=some ⟨b,o,none⟩/\ ∀k u,(ns.map NS.v)[k]? =some u->Wb.cell? ⟨b,o+k,none⟩=some u:=
    HNR.o.resolve_left (fun e=>by have:=congrArg List.length e;simp at this;rw[this]at hlt;simp at hlt)
   have hcx:=hat k (NS.v x) (by rw[List.getElem?_map,List.getElem?_eq_getElem hlt,hx];rfl);obtain⟨xa,xc,N⟩:=x;obtain⟨hN0,hN256⟩:=HCH.o N (List.mem_map.2 ⟨_,hxm,rfl⟩);have hRX:RdY Wb xa N:=HNS.o _ hxm;simp only[NS.v]at hcx;have hN1:0<N.length:=List.length_pos_iff.2 hN0;have hN2:(0:Int)<N.length:=by omega
   have hk0:(0:Int)<=k:=by omega
   have hk1:(k:Int)<ns.length:=by omega
   have HRX:=hid hRX;have HCX:=hid hcx;have hka:=(Below.refl wr.heap.size wr).bMq (.cells #[] 5);have HKA:=hid hka;have HO:=hid (jC.empty wr wr.heap.size (Nat.le_refl _));have HS:=hid ((HRX.o.keep (HI.o.B.on hka))).source;have z1:=(HI.o.B.on hka).keep hcx;obtain⟨i0,hi0,hz0,hz1,hz2⟩:=info_parts aQz;clear hat hx hxm hRX hB0 hcx hka
   go_upto_region 13 with (at_builtin;refine dB _ rfl _ _ 33 rfl wr.heap.size 5 i0 (.int .u8 0) 1 1 Tryz.underlying33 hi0 hz0 hz1 hz2 rfl (by decide) _ _ _ rfl HO.o _ _ _ _ rfl HS.o (by simp;omega) (by simp[maxLen];omega) (by simp) ?_;intro v1 w1 hown1 hgrow1 hwhere1)
   have hb1:=HKA.o.bMu hgrow1 fun j hj=>(HO.o.lt j hj).1;have ho1:jC w1 wr.heap.size v1 N:=jC.append (l:=[]) hown1 (by simp);obtain⟨g,gc,rfl,hg1,hg2,hgc,hgm,hgat,hgf⟩:∃ g c,v1= .slice (some ⟨g,0,none⟩) N.length c/\wr.heap.size<=g/\g<w1.heap.size/\N.length<=c/\c<=maxLen/\(∀k x,N[k]? =some x->w1.cell? ⟨g,k,none⟩=some (byV x))/\ ∀i,w1.frozen? ⟨g,i,none⟩=false:=
    ho1.form.resolve_left fun q=>by rw[q.2]at hN1;simp at hN1
   have HI1:=hid (HI.o.later hb1);have HB1:=hid hb1;have HGT:=hid hgat;have HGF:=hid hgf;have HCL:=hid hgm;have z2:=HI1.o.B.keep HCX.o;have hka:=(Below.refl w1.heap.size w1).bMq (.cells #[.slice xa N.length xc] 33);have HI2:=hid (HI1.o.later hka);have HB2:=hid (HB1.o.on hka);have HKA2:=hid hka;have hsz:=HI2.o.B.size;have hxs:(xs.map NS.v).length<=1000000:=by rw[List.length_map];omega
   clear hka hgat hgf hgm hb1 ho1 hown1 hgrow1 hwhere1 HKA z1 HO HS
   go_upto_region 14 with (at_builtin;(refine oZ rfl _ _ 45 rfl Tryz.underlying45 Wb.heap.size _ (xs.map NS.v) rfl HI2.o.own ⟨w1.heap.size,0,none⟩ 1 (.slice xa N.length xc) rfl ⟨_,_,_,rfl⟩ (by simp) hxs hsz ?_);intro v2 w3 hown2 hgrow2 hwhere2)
   obtain⟨j,hj⟩:∃ j:Nat,fx%(N.length:Int)=j:=⟨(fx%(N.length:Int)).toNat,by have:=Int.emod_nonneg fx (show(N.length:Int)≠0 by omega);omega⟩;have hjl:j<N.length:=by have:=Int.emod_lt_of_pos fx hN2;omega
   obtain⟨u,hu⟩:∃ u:Nat,(N[j]).toNat=u:=⟨_,rfl⟩;have hu2:u<=255:=by have:=(N[j]).toNat_lt;omega
   have hG3:=aHf (bD HB2.o _) hgrow2 (fun j e=> .inl e);have hgne:=fun e=>Nat.not_lt.2 hg1 (HI.o.old g e).2;have HGA:=hid (fun k x hk=>hgrow2.cell (HKA2.o.keep (HGT.o k x hk)) (fun e=>hgne e.symm));have hga:=HGA.o j _ (List.getElem?_eq_getElem hjl);have hgf:w3.frozen? ⟨g,j,none⟩=false:=(aHd hgrow2 ⟨g,j,none⟩ (by have:=HKA2.o.size;simp only;omega) (fun e=>hgne e.symm)).2.trans (HKA2.o.bMw (HGT.o j _ (List.getElem?_eq_getElem hjl)) (HGF.o j));simp only[byV]at hga;rw[hu]at hga;have hB3:=HI2.o.B.bMu hgrow2 fun j e=>(HI2.o.old j e).1;have HB3:=hid hB3;have x1:=(HX.o.later hB3).c1;have x2:=(HX.o.later hB3).c2;have HG3:=hid hG3;have HO3:=hid hown2;have HW3:=hid hwhere2;have hw1:IntKind.i64.wrap fx=fx:=IntWalk.i64_in _ (by omega);obtain⟨d,hd⟩:∃ d:Int,1+fy%255=d:=⟨_,rfl⟩;have hd0:0<=d/\d<=255:=by omega
   have hd2:d%256=d:=by omega
   obtain⟨z,hz⟩:∃ z:Int,((u:Int)+d)%256=z:=⟨_,rfl⟩;have hz0:0<=z/\z<=255:=by omega
   have HU:=hid hu;have hmod:fx.tmod (N.length:Int)=j:=by rw[Int.tmod_eq_emod_of_nonneg hfx.1];exact hj
   have hjj:(0:Int)<=j/\(j:Int)<N.length:=by omega
   clear hG3 hB3 hwhere2 hown2 hgrow2 hgne z2 hsz hu;go_upto_region 15 with fail
   go_region_law (fail)
   all_goals
    clear x1 x2 hw1 hmod hga hgf hN0;obtain⟨z,hz⟩:∃ z,IntKind.u8.wrap ((u:Int)+IntKind.u8.wrap (1+fy.tmod 255))=z:=⟨_,rfl⟩;have hz0:0<=z/\z<=255:=by rw[<-hz];exact bHz _
    rw [hz];have hdr:=(Below.refl (w3.setCell ⟨g,j,none⟩ (.int .u8 z)).heap.size (w3.setCell ⟨g,j,none⟩ (.int .u8 z))).drew;have HR5:=hid ((aPf (by omega) HGA.o hjl hz0).keep hdr);have HO5:=hid ((HO3.o.away (bV w3 ⟨g,j,none⟩ (.int .u8 z)) (fun q e1 e2=>by
     injection e2 with e2;simp only at e2;subst e2;rcases HW3.o with h|h
     ·exact hg1 |> fun h1=>Nat.not_lt.2 h1 (HI.o.old g (h.symm.trans e1)).2
     ·rw[h,World.size_alloc]at e1;injection e1 with e1
      omega)).keep hdr)
    have HG5:=hid ((aCh HG3.o hg1 (.int .u8 z)).behind hdr);generalize (w3.setCell ⟨g,j,none⟩ (.int .u8 z)).drew=w5 at *;have hka:=(Below.refl w5.heap.size w5).bMq (.cells #[.slice (some ⟨g,0,none⟩) N.length gc] 33);have HO6:=hid (HO5.o.keep hka);have HG6:=hid (HG5.o.behind hka);have HR6:=hid (HR5.o.keep hka);have hsz:Wb.heap.size<=(w5.alloc (.cells #[.slice (some ⟨g,0,none⟩) N.length gc] 33)).heap.size:=Nat.le_trans HI.o.B.size HG6.o.size;have hxs2:(xs.map NS.v++[Value.slice xa N.length xc]).length<=1000000:=by rw[List.length_append,List.length_map];simp;omega
    clear hz hka hdr HGA HO3 HG3 HR5 HO5 HG5 HGT HGF
    go_upto_region 11 with (at_builtin;(refine oZ rfl _ _ 45 rfl Tryz.underlying45 Wb.heap.size _ (xs.map NS.v++[Value.slice xa N.length xc]) rfl HO6.o ⟨w5.heap.size,0,none⟩ 1 (.slice (some ⟨g,0,none⟩) N.length gc) rfl ⟨_,_,_,rfl⟩ (by simp) hxs2 hsz ?_);intro v4 w7 hown4 hgrow4 hwhere4)
    have hG7:=aHf HG6.o hgrow4 (fun q e=>by
     rcases HW3.o with h|h
     ·exact .inl (h.symm.trans e)
     ·right
      have e1:=h.symm.trans e;rw[World.size_alloc]at e1;injection e1 with e1;have:=HB1.o.size
      omega)
    have hB7:=HI.o.B.bMu hG7 fun q e=>(HI.o.old q e).1;have HQ:=hid (HI.o.more (ys:=[⟨xa,xc,N⟩,⟨some ⟨g,0,none⟩,gc,N.set j z.toNat.toUInt8⟩]) hG7 (lv':=v4) (by
     simp only[List.map_append,List.map_cons,List.map_nil,NS.v,List.length_set];rw[List.append_assoc]at hown4;exact hown4) (fun y hy=>by
     simp at hy;rcases hy with rfl|rfl
     ·exact HRX.o.keep hB7
     ·exact HR6.o.grownO HO6.o hgrow4))
    clear hG7 hB7 hown4 hgrow4 hwhere4 HG6 HR6 HO6 HW3;go_wp2_with fail;go_roundw
    case rel=>exact⟨k+1,_,by omega,by go_num,HQ.o,by simp;omega⟩
    case measure=>simp[intOf];omega
  ·clear HNR HNS HCH;have hxl2:xs.length<=100000:=by omega
   obtain rfl:k=ns.length:=by omega
   obtain⟨la,lc,rfl,hrp⟩:=HI.o.own.rd;rw[List.length_map];have HRP:=hid hrp;clear hrp hlt hk hfw;obtain⟨P,hP⟩:∃ P,jG F=P:=⟨_,rfl⟩;have HST:=hid (fun M W (h:dU W M F)=>qF M F W HSD.o.ok HSD.o.short h);rw[hP]at HST;clear hP;generalize wr=Wc at *;go_wp2_with fail;go_loopw [14] (fun i wq=>∃ q:Nat,q<=xs.length/\i= .int .i64 q/\Below Wc.heap.size Wc wq) (fun i _=>xs.length-(intOf i).toNat)
   case atStart=>exact⟨0,Nat.zero_le _,rfl,Below.refl _ _⟩
   case round=>
    obtain⟨q,hq,rfl,hbq⟩:=hrel;by_cases hlt:q<xs.length
    ·obtain ⟨x,hx⟩:∃ x,xs[q]=x:=⟨_,rfl⟩;have hxm:x∈xs:=by rw[<-hx];exact List.getElem_mem _
     obtain ⟨lb,lo,rfl,hat⟩:∃ b o,la=some ⟨b,o,none⟩/\ ∀k u,(xs.map NS.v)[k]? =some u->Wc.cell? ⟨b,o+k,none⟩=some u:=
      HRP.o.resolve_left (fun e=>by have:=congrArg List.length e;simp at this;rw[this]at hlt;simp at hlt)
     have hcx:=hat q (NS.v x) (by rw[List.getElem?_map,List.getElem?_eq_getElem hlt,hx];rfl);obtain⟨xa,xc,N⟩:=x;have HRX:=hid (HI.o.notes _ hxm);simp only[NS.v]at hcx;simp only at HRX;have HCX:=hid hcx;obtain⟨G,y,hap,hgk,hg8,hgr,hgy⟩:=bCs HSD.o N;have HAP:=hid hap;have HGK:=hid hgk;have HG8:=hid hg8;have HGY:=hid hgy;have hq0:(0:Int)<=q:=by omega
     have hq1:(q:Int)<xs.length:=by omega
     have HBQ:=hid hbq;obtain⟨rm,hrm⟩:∃ r,cB G=r:=⟨_,rfl⟩;rw[hrm]at hgr;have HRM:=hid hrm;clear hat hx hxm hcx hap hgk hg8 hgy hbq hrm;go_wp2_with fail;refine(aGm M F _ (HMB.o.later (HI.o.B.on HBQ.o))).mono ?_;rintro e w3 ⟨M2,rfl,hM2,hm2,hb3⟩;have hcx:=(HBQ.o.on hb3).keep HCX.o;have HM2:=hid hm2;have HB3:=hid hb3;clear hm2 hb3;go_wp2_with fail;refine(gX M2 F G y N xa xc _ HSD.o.ok HSD.o.short8 HM2.o (HRX.o.keep (HBQ.o.on HB3.o)) HAP.o).mono ?_;rintro e w5 ⟨rfl,hm5,hg5⟩;have hb5:=HB3.o.bMu hg5 fun j e=>by injection e with e;omega
     have HM5:=hid hm5;have HB5:=hid (HBQ.o.on hb5);have HMF:=hid (HMB.o.later (HI.o.B.on HB5.o));clear hm5 hg5 hb5 hcx HM2 HB3;go_upto_region 24 with fail;have HMd:=hid (HM5.o.later (Below.refl _ _).drew);have HFd:=hid (HMF.o.later (Below.refl _ _).drew);have HBd:=hid (HB5.o.drew);have HG9:Hid (∀v∈G.vs,v.l.length<=9000):=hid fun v hv=>Nat.le_trans (HG8.o v hv) (by omega);clear HM5 HMF HB5 HG8;by_cases hy:y=0
     ·subst hy;refine wp_region_held_drew (S:=(fun _=>True)) (by kernel_rfl) trivial (fun hHeld=> ?_);refine wpAnyH_take (i:=0) (v:= ?_) rfl (by kernel_rfl) (by kernel_rfl) (by kernel_rfl) (fun _ _ _ h=>h) (Or.inl ⟨by rfl,?_⟩) (by assumption) ?_
      rotate_left
      ·(intro w hSw;(try dsimp only at hSw);go_simp;try with_reducible rfl)
      try simp only[Act.put,List.setIfInBounds_toArray,List.set_cons_zero,List.set_cons_succ]
      refine wpAnyH_take (i:=1) (v:=(.bool false)) rfl (by kernel_rfl) (by kernel_rfl) (by kernel_rfl) (fun _ _ _ h=>h) (Or.inl ⟨by rfl,?_⟩) (by assumption) ?_
      ·(intro w hSw;(try dsimp only at hSw);go_simp)
      try simp only[Act.put,List.getElem_toArray,List.getElem_cons_succ,List.getElem_cons_zero,List.setIfInBounds_toArray,List.set_cons_zero,List.set_cons_succ]
      refine wpAnyH_take (i:=2) (v:= ?_) rfl (by kernel_rfl) (by kernel_rfl) (by kernel_rfl) (fun _ _ _ h=>h) (Or.inl ⟨by rfl,?_⟩) (by assumption) ?_
      rotate_left
      ·(intro w hSw;(try dsimp only at hSw);go_simp;try with_reducible rfl)
      try simp only[Act.put,List.setIfInBounds_toArray,List.set_cons_zero,List.set_cons_succ]
      refine wpAnyH_take (i:=3) (v:=undef) rfl (by kernel_rfl) (by kernel_rfl) (by kernel_rfl) (fun _ _ _ h=>h) (Or.inr ⟨by rfl,rfl⟩) (by assumption) ?_
      try simp only[Act.put,List.getElem_toArray,List.getElem_cons_succ,List.getElem_cons_zero,List.setIfInBounds_toArray,List.set_cons_zero,List.set_cons_succ]
      refine wpAnyH_take (i:=4) (v:=undef) rfl (by kernel_rfl) (by kernel_rfl) (by kernel_rfl) (fun _ _ _ h=>h) (Or.inr ⟨by rfl,rfl⟩) (by assumption) ?_
      try simp only[Act.put,List.getElem_toArray,List.getElem_cons_succ,List.getElem_cons_zero,List.setIfInBounds_toArray,List.set_cons_zero,List.set_cons_succ]
      refine wpAnyH_take (i:=5) (v:=undef) rfl (by kernel_rfl) (by kernel_rfl) (by kernel_rfl) (fun _ _ _ h=>h) (Or.inr ⟨by rfl,rfl⟩) (by assumption) ?_
      try simp only[Act.put,List.getElem_toArray,List.getElem_cons_succ,List.getElem_cons_zero,List.setIfInBounds_toArray,List.set_cons_zero,List.set_cons_succ]
      refine wpAnyH_take (i:=6) (v:=undef) rfl (by kernel_rfl) (by kernel_rfl) (by kernel_rfl) (fun _ _ _ h=>h) (Or.inr ⟨by rfl,rfl⟩) (by assumption) ?_
      try simp only[Act.put,List.getElem_toArray,List.getElem_cons_succ,List.getElem_cons_zero,List.setIfInBounds_toArray,List.set_cons_zero,List.set_cons_succ]
      refine wpAnyH_take (i:=7) (v:=undef) rfl (by kernel_rfl) (by kernel_rfl) (by kernel_rfl) (fun _ _ _ h=>h) (Or.inr ⟨by rfl,rfl⟩) (by assumption) ?_
      try simp only[Act.put,List.getElem_toArray,List.getElem_cons_succ,List.getElem_cons_zero,List.setIfInBounds_toArray,List.set_cons_zero,List.set_cons_succ]
      refine wpAnyH_take (i:=8) (v:=undef) rfl (by kernel_rfl) (by kernel_rfl) (by kernel_rfl) (fun _ _ _ h=>h) (Or.inr ⟨by rfl,rfl⟩) (by assumption) ?_
      try simp only[Act.put,List.getElem_toArray,List.getElem_cons_succ,List.getElem_cons_zero,List.setIfInBounds_toArray,List.set_cons_zero,List.set_cons_succ]
      refine wpAnyH_take (i:=9) (v:=undef) rfl (by kernel_rfl) (by kernel_rfl) (by kernel_rfl) (fun _ _ _ h=>h) (Or.inr ⟨by rfl,rfl⟩) (by assumption) ?_
      try simp only[Act.put,List.getElem_toArray,List.getElem_cons_succ,List.getElem_cons_zero,List.setIfInBounds_toArray,List.set_cons_zero,List.set_cons_succ]
      have HW2:=hid (Below.refl w5.drew.heap.size w5.drew);refine wpAnyH_take (i:=10) (v:=(.bool false)) rfl (by kernel_rfl) (by kernel_rfl) (by kernel_rfl) (fun _ _ _ h=>h) (Or.inl ⟨by rfl,?_⟩) (by assumption) ?_
      ·(intro w hSw;(try dsimp only at hSw);go_simp)
      try simp only[Act.put,List.getElem_toArray,List.getElem_cons_succ,List.getElem_cons_zero,List.setIfInBounds_toArray,List.set_cons_zero,List.set_cons_succ]
      refine wpAnyH_take (i:=11) (v:= ?_) rfl (by kernel_rfl) (by kernel_rfl) (by kernel_rfl) (fun _ _ _ h=>h) (Or.inl ⟨by rfl,?_⟩) (by assumption) ?_
      rotate_left
      ·(intro w hSw;(try dsimp only at hSw);go_simp;try with_reducible rfl)
      try simp only[Act.put,List.setIfInBounds_toArray,List.set_cons_zero,List.set_cons_succ]
      refine wpAnyH_take (i:=12) (v:= ?_) rfl (by kernel_rfl) (by kernel_rfl) (by kernel_rfl) (fun _ _ _ h=>h) (Or.inl ⟨by rfl,?_⟩) (by assumption) ?_
      rotate_left
      ·(intro w hSw;(try dsimp only at hSw);go_simp;try with_reducible rfl)
      try simp only[Act.put,List.setIfInBounds_toArray,List.set_cons_zero,List.set_cons_succ]
      refine wpAnyH_ready (rs:=[13]) (by kernel_rfl) (by simp) ?_;refine AllReadyH.cons rfl (fun K hK=> ?_) AllReadyH.nil;go_simp;refine(nJ M2 _ _ (HMd.o.later HW2.o)).mono ?_;rintro e v3 ⟨fv,rfl,hfv,hb3⟩;have HW3:=hid (HW2.o.on hb3);have HFV:=hid hfv;clear hfv hb3;refine hK.out _ _ trivial (fun hHeld=> ?_);clear hK K
      try simp only[Act.put,List.setIfInBounds_toArray,List.set_cons_zero,List.set_cons_succ]
      refine wpAnyH_ready (rs:=[14]) (by kernel_rfl) (by simp) ?_;refine AllReadyH.cons rfl (fun K hK=> ?_) AllReadyH.nil;go_simp;refine(lX _ rm _ _ HGK.o HG9.o HFV.o HRM.o).mono ?_;rintro e v4 ⟨rfl,hb4⟩;have HQ:=hid (HBd.o.on (HW3.o.on hb4));clear hb4 HFV HW3 HW2;refine hK.out _ _ trivial (fun hHeld=> ?_);clear hK K
      try simp only[Act.put,List.setIfInBounds_toArray,List.set_cons_zero,List.set_cons_succ]
      refine wpAnyH_take (i:=15) (v:= ?_) rfl (by kernel_rfl) (by kernel_rfl) (by kernel_rfl) (fun _ _ _ h=>h) (Or.inl ⟨by rfl,?_⟩) (by assumption) ?_
      rotate_left
      ·(intro w hSw;(try dsimp only at hSw);go_simp;try with_reducible rfl)
      try simp only[Act.put,List.setIfInBounds_toArray,List.set_cons_zero,List.set_cons_succ]
      refine wpAnyH_take (i:=16) (v:= ?_) rfl (by kernel_rfl) (by kernel_rfl) (by kernel_rfl) (fun _ _ _ h=>h) (Or.inl ⟨by rfl,?_⟩) (by assumption) ?_
      rotate_left
      ·(intro w hSw;(try dsimp only at hSw);go_simp;try with_reducible rfl)
      try simp only[Act.put,List.setIfInBounds_toArray,List.set_cons_zero,List.set_cons_succ]
      refine wpAnyH_done (by kernel_rfl) ?_ _;clear HMd HFd HBd;go_wp2_with fail;go_roundw
      case rel=>exact⟨q+1,by omega,by go_num,HQ.o⟩
      case measure=>simp[intOf];omega
     ·have hyb:(y != 0)=true:=by simpa using hy
      obtain rfl:F=G:=(HGY.o hy).symm;clear hy;refine wp_region_held_drew (S:=(fun _=>True)) (by kernel_rfl) trivial (fun hHeld=> ?_);refine wpAnyH_take (i:=0) (v:= ?_) rfl (by kernel_rfl) (by kernel_rfl) (by kernel_rfl) (fun _ _ _ h=>h) (Or.inl ⟨by rfl,?_⟩) (by assumption) ?_
      rotate_left
      ·(intro w hSw;(try dsimp only at hSw);go_simp;try with_reducible rfl)
      try simp only[Act.put,List.setIfInBounds_toArray,List.set_cons_zero,List.set_cons_succ]
      refine wpAnyH_take (i:=1) (v:=(.bool true)) rfl (by kernel_rfl) (by kernel_rfl) (by kernel_rfl) (fun _ _ _ h=>h) (Or.inl ⟨by rfl,?_⟩) (by assumption) ?_
      ·(intro w hSw;(try dsimp only at hSw);go_simp)
      try simp only[Act.put,List.getElem_toArray,List.getElem_cons_succ,List.getElem_cons_zero,List.setIfInBounds_toArray,List.set_cons_zero,List.set_cons_succ]
      refine wpAnyH_take (i:=2) (v:= ?_) rfl (by kernel_rfl) (by kernel_rfl) (by kernel_rfl) (fun _ _ _ h=>h) (Or.inl ⟨by rfl,?_⟩) (by assumption) ?_
      rotate_left
      ·(intro w hSw;(try dsimp only at hSw);go_simp;try with_reducible rfl)
      try simp only[Act.put,List.setIfInBounds_toArray,List.set_cons_zero,List.set_cons_succ]
      refine wpAnyH_take (i:=3) (v:= ?_) rfl (by kernel_rfl) (by kernel_rfl) (by kernel_rfl) (fun _ _ _ h=>h) (Or.inl ⟨by rfl,?_⟩) (by assumption) ?_
      rotate_left
      ·(intro w hSw;(try dsimp only at hSw);go_simp;try with_reducible rfl)
      try simp only[Act.put,List.setIfInBounds_toArray,List.set_cons_zero,List.set_cons_succ]
      refine wpAnyH_take (i:=6) (v:= ?_) rfl (by kernel_rfl) (by kernel_rfl) (by kernel_rfl) (fun _ _ _ h=>h) (Or.inl ⟨by rfl,?_⟩) (by assumption) ?_
      rotate_left
      ·(intro w hSw;(try dsimp only at hSw);go_simp;try with_reducible rfl)
      try simp only[Act.put,List.setIfInBounds_toArray,List.set_cons_zero,List.set_cons_succ]
      refine wpAnyH_ready (rs:=[4]) (by kernel_rfl) (by simp) ?_;refine AllReadyH.cons rfl (fun K hK=> ?_) AllReadyH.nil;go_simp;refine(HST.o M2 _ HMd.o).mono ?_;rintro e v1 ⟨sa,sc,rfl,hrd1,hb1⟩;have HW1:=hid ((Below.refl w5.drew.heap.size w5.drew).on hb1);have hcv1:=hrd1.bMz (c:=sc);have HR1:=hid hrd1;clear hrd1 hb1;refine hK.out _ _ trivial (fun hHeld=> ?_);clear hK K
      try simp only[Act.put,List.setIfInBounds_toArray,List.set_cons_zero,List.set_cons_succ]
      refine wpAnyH_ready (rs:=[5,7]) (by kernel_rfl) (by simp) ?_;refine AllReadyH.cons rfl (fun K hK=> ?_) (AllReadyH.cons rfl (fun K hK=> ?_) AllReadyH.nil)
      ·go_simp;refine hK.out _ _ trivial (fun hHeld=> ?_);clear hK K
       try simp only[Act.put,List.setIfInBounds_toArray,List.set_cons_zero,List.set_cons_succ]
       refine wpAnyH_ready (rs:=[7]) (by kernel_rfl) (by simp) ?_;refine AllReadyH.cons rfl (fun K hK=> ?_) AllReadyH.nil;go_simp;refine(HST.o M _ (HFd.o.later HW1.o)).mono ?_;rintro e v2 ⟨sa2,sc2,rfl,hrd2,hb2⟩;have HW2:=hid (HW1.o.on hb2);have hcv2:=hrd2.bMz (c:=sc2);have hcv3:=(HR1.o.keep hb2).bMz (c:=sc);clear hrd2 hb2 HR1;refine hK.out _ _ trivial (fun hHeld=> ?_);clear hK K
       try simp only[Act.put,List.setIfInBounds_toArray,List.set_cons_zero,List.set_cons_succ]
       refine wpAnyH_ready (rs:=[8]) (by kernel_rfl) (by simp) ?_;refine AllReadyH.cons rfl (fun K hK=> ?_) AllReadyH.nil;go_simp;go_simp;refine hK.out _ _ trivial (fun hHeld=> ?_);clear hK K
       try simp only[Act.put,List.setIfInBounds_toArray,List.set_cons_zero,List.set_cons_succ]
       clear hcv1 hcv2 hcv3 HW1;refine wpAnyH_take (i:=9) (v:=(.bool false)) rfl (by kernel_rfl) (by kernel_rfl) (by kernel_rfl) (fun _ _ _ h=>h) (Or.inl ⟨by rfl,?_⟩) (by assumption) ?_
       ·(intro w hSw;(try dsimp only at hSw);go_simp)
       try simp only[Act.put,List.getElem_toArray,List.getElem_cons_succ,List.getElem_cons_zero,List.setIfInBounds_toArray,List.set_cons_zero,List.set_cons_succ]
       refine wpAnyH_take (i:=10) (v:=(.bool false)) rfl (by kernel_rfl) (by kernel_rfl) (by kernel_rfl) (fun _ _ _ h=>h) (Or.inl ⟨by rfl,?_⟩) (by assumption) ?_
       ·(intro w hSw;(try dsimp only at hSw);go_simp)
       try simp only[Act.put,List.getElem_toArray,List.getElem_cons_succ,List.getElem_cons_zero,List.setIfInBounds_toArray,List.set_cons_zero,List.set_cons_succ]
       refine wpAnyH_take (i:=11) (v:= ?_) rfl (by kernel_rfl) (by kernel_rfl) (by kernel_rfl) (fun _ _ _ h=>h) (Or.inl ⟨by rfl,?_⟩) (by assumption) ?_
       rotate_left
       ·(intro w hSw;(try dsimp only at hSw);go_simp;try with_reducible rfl)
       try simp only[Act.put,List.setIfInBounds_toArray,List.set_cons_zero,List.set_cons_succ]
       refine wpAnyH_take (i:=12) (v:= ?_) rfl (by kernel_rfl) (by kernel_rfl) (by kernel_rfl) (fun _ _ _ h=>h) (Or.inl ⟨by rfl,?_⟩) (by assumption) ?_
       rotate_left
       ·(intro w hSw;(try dsimp only at hSw);go_simp;try with_reducible rfl)
       try simp only[Act.put,List.setIfInBounds_toArray,List.set_cons_zero,List.set_cons_succ]
       refine wpAnyH_ready (rs:=[13]) (by kernel_rfl) (by simp) ?_;refine AllReadyH.cons rfl (fun K hK=> ?_) AllReadyH.nil;go_simp;refine(nJ M2 _ _ (HMd.o.later HW2.o)).mono ?_;rintro e v3 ⟨fv,rfl,hfv,hb3⟩;have HW3:=hid (HW2.o.on hb3);have HFV:=hid hfv;clear hfv hb3;refine hK.out _ _ trivial (fun hHeld=> ?_);clear hK K
       try simp only[Act.put,List.setIfInBounds_toArray,List.set_cons_zero,List.set_cons_succ]
       refine wpAnyH_ready (rs:=[14]) (by kernel_rfl) (by simp) ?_;refine AllReadyH.cons rfl (fun K hK=> ?_) AllReadyH.nil;go_simp;refine(lX _ rm _ _ HGK.o HG9.o HFV.o HRM.o).mono ?_;rintro e v4 ⟨rfl,hb4⟩;have HQ:=hid (HBd.o.on (HW3.o.on hb4));clear hb4 HFV HW3 HW2;refine hK.out _ _ trivial (fun hHeld=> ?_);clear hK K
       try simp only[Act.put,List.setIfInBounds_toArray,List.set_cons_zero,List.set_cons_succ]
       refine wpAnyH_take (i:=15) (v:= ?_) rfl (by kernel_rfl) (by kernel_rfl) (by kernel_rfl) (fun _ _ _ h=>h) (Or.inl ⟨by rfl,?_⟩) (by assumption) ?_
       rotate_left
       ·(intro w hSw;(try dsimp only at hSw);go_simp;try with_reducible rfl)
       try simp only[Act.put,List.setIfInBounds_toArray,List.set_cons_zero,List.set_cons_succ]
       refine wpAnyH_take (i:=16) (v:= ?_) rfl (by kernel_rfl) (by kernel_rfl) (by kernel_rfl) (fun _ _ _ h=>h) (Or.inl ⟨by rfl,?_⟩) (by assumption) ?_
       rotate_left
       ·(intro w hSw;(try dsimp only at hSw);go_simp;try with_reducible rfl)
       try simp only[Act.put,List.setIfInBounds_toArray,List.set_cons_zero,List.set_cons_succ]
       refine wpAnyH_done (by kernel_rfl) ?_ _;clear HMd HFd HBd;go_wp2_with fail;go_roundw
       case rel=>exact⟨q+1,by omega,by go_num,HQ.o⟩
       case measure=>simp[intOf];omega
      ·go_simp;refine(HST.o M _ (HFd.o.later HW1.o)).mono ?_;rintro e v2 ⟨sa2,sc2,rfl,hrd2,hb2⟩;have HW2:=hid (HW1.o.on hb2);have hcv2:=hrd2.bMz (c:=sc2);have hcv3:=(HR1.o.keep hb2).bMz (c:=sc);clear hrd2 hb2 HR1;refine hK.out _ _ trivial (fun hHeld=> ?_);clear hK K
       try simp only[Act.put,List.setIfInBounds_toArray,List.set_cons_zero,List.set_cons_succ]
       refine wpAnyH_ready (rs:=[5,8]) (by kernel_rfl) (by simp) ?_;refine AllReadyH.cons rfl (fun K hK=> ?_) (AllReadyH.cons rfl (fun K hK=> ?_) AllReadyH.nil)
       ·go_simp;refine hK.out _ _ trivial (fun hHeld=> ?_);clear hK K
        try simp only[Act.put,List.setIfInBounds_toArray,List.set_cons_zero,List.set_cons_succ]
        refine wpAnyH_ready (rs:=[8]) (by kernel_rfl) (by simp) ?_;refine AllReadyH.cons rfl (fun K hK=> ?_) AllReadyH.nil;go_simp;go_simp;refine hK.out _ _ trivial (fun hHeld=> ?_);clear hK K
        try simp only[Act.put,List.setIfInBounds_toArray,List.set_cons_zero,List.set_cons_succ]
        clear hcv1 hcv2 hcv3 HW1;refine wpAnyH_take (i:=9) (v:=(.bool false)) rfl (by kernel_rfl) (by kernel_rfl) (by kernel_rfl) (fun _ _ _ h=>h) (Or.inl ⟨by rfl,?_⟩) (by assumption) ?_
        ·(intro w hSw;(try dsimp only at hSw);go_simp)
        try simp only[Act.put,List.getElem_toArray,List.getElem_cons_succ,List.getElem_cons_zero,List.setIfInBounds_toArray,List.set_cons_zero,List.set_cons_succ]
        refine wpAnyH_take (i:=10) (v:=(.bool false)) rfl (by kernel_rfl) (by kernel_rfl) (by kernel_rfl) (fun _ _ _ h=>h) (Or.inl ⟨by rfl,?_⟩) (by assumption) ?_
        ·(intro w hSw;(try dsimp only at hSw);go_simp)
        try simp only[Act.put,List.getElem_toArray,List.getElem_cons_succ,List.getElem_cons_zero,List.setIfInBounds_toArray,List.set_cons_zero,List.set_cons_succ]
        refine wpAnyH_take (i:=11) (v:= ?_) rfl (by kernel_rfl) (by kernel_rfl) (by kernel_rfl) (fun _ _ _ h=>h) (Or.inl ⟨by rfl,?_⟩) (by assumption) ?_
        rotate_left
        ·(intro w hSw;(try dsimp only at hSw);go_simp;try with_reducible rfl)
        try simp only[Act.put,List.setIfInBounds_toArray,List.set_cons_zero,List.set_cons_succ]
        refine wpAnyH_take (i:=12) (v:= ?_) rfl (by kernel_rfl) (by kernel_rfl) (by kernel_rfl) (fun _ _ _ h=>h) (Or.inl ⟨by rfl,?_⟩) (by assumption) ?_
        rotate_left
        ·(intro w hSw;(try dsimp only at hSw);go_simp;try with_reducible rfl)
        try simp only[Act.put,List.setIfInBounds_toArray,List.set_cons_zero,List.set_cons_succ]
        refine wpAnyH_ready (rs:=[13]) (by kernel_rfl) (by simp) ?_;refine AllReadyH.cons rfl (fun K hK=> ?_) AllReadyH.nil;go_simp;refine(nJ M2 _ _ (HMd.o.later HW2.o)).mono ?_;rintro e v3 ⟨fv,rfl,hfv,hb3⟩;have HW3:=hid (HW2.o.on hb3);have HFV:=hid hfv;clear hfv hb3;refine hK.out _ _ trivial (fun hHeld=> ?_);clear hK K
        try simp only[Act.put,List.setIfInBounds_toArray,List.set_cons_zero,List.set_cons_succ]
        refine wpAnyH_ready (rs:=[14]) (by kernel_rfl) (by simp) ?_;refine AllReadyH.cons rfl (fun K hK=> ?_) AllReadyH.nil;go_simp;refine(lX _ rm _ _ HGK.o HG9.o HFV.o HRM.o).mono ?_;rintro e v4 ⟨rfl,hb4⟩;have HQ:=hid (HBd.o.on (HW3.o.on hb4));clear hb4 HFV HW3 HW2;refine hK.out _ _ trivial (fun hHeld=> ?_);clear hK K
        try simp only[Act.put,List.setIfInBounds_toArray,List.set_cons_zero,List.set_cons_succ]
        refine wpAnyH_take (i:=15) (v:= ?_) rfl (by kernel_rfl) (by kernel_rfl) (by kernel_rfl) (fun _ _ _ h=>h) (Or.inl ⟨by rfl,?_⟩) (by assumption) ?_
        rotate_left
        ·(intro w hSw;(try dsimp only at hSw);go_simp;try with_reducible rfl)
        try simp only[Act.put,List.setIfInBounds_toArray,List.set_cons_zero,List.set_cons_succ]
        refine wpAnyH_take (i:=16) (v:= ?_) rfl (by kernel_rfl) (by kernel_rfl) (by kernel_rfl) (fun _ _ _ h=>h) (Or.inl ⟨by rfl,?_⟩) (by assumption) ?_
        rotate_left
        ·(intro w hSw;(try dsimp only at hSw);go_simp;try with_reducible rfl)
        try simp only[Act.put,List.setIfInBounds_toArray,List.set_cons_zero,List.set_cons_succ]
        refine wpAnyH_done (by kernel_rfl) ?_ _;clear HMd HFd HBd;go_wp2_with fail;go_roundw
        case rel=>exact⟨q+1,by omega,by go_num,HQ.o⟩
        case measure=>simp[intOf];omega
       ·go_simp;refine hK.out _ _ trivial (fun hHeld=> ?_);clear hK K
        try simp only[Act.put,List.setIfInBounds_toArray,List.set_cons_zero,List.set_cons_succ]
        refine wpAnyH_ready (rs:=[5]) (by kernel_rfl) (by simp) ?_;refine AllReadyH.cons rfl (fun K hK=> ?_) AllReadyH.nil;go_simp;go_simp;refine hK.out _ _ trivial (fun hHeld=> ?_);clear hK K
        try simp only[Act.put,List.setIfInBounds_toArray,List.set_cons_zero,List.set_cons_succ]
        clear hcv1 hcv2 hcv3 HW1;refine wpAnyH_take (i:=9) (v:=(.bool false)) rfl (by kernel_rfl) (by kernel_rfl) (by kernel_rfl) (fun _ _ _ h=>h) (Or.inl ⟨by rfl,?_⟩) (by assumption) ?_
        ·(intro w hSw;(try dsimp only at hSw);go_simp)
        try simp only[Act.put,List.getElem_toArray,List.getElem_cons_succ,List.getElem_cons_zero,List.setIfInBounds_toArray,List.set_cons_zero,List.set_cons_succ]
        refine wpAnyH_take (i:=10) (v:=(.bool false)) rfl (by kernel_rfl) (by kernel_rfl) (by kernel_rfl) (fun _ _ _ h=>h) (Or.inl ⟨by rfl,?_⟩) (by assumption) ?_
        ·(intro w hSw;(try dsimp only at hSw);go_simp)
        try simp only[Act.put,List.getElem_toArray,List.getElem_cons_succ,List.getElem_cons_zero,List.setIfInBounds_toArray,List.set_cons_zero,List.set_cons_succ]
        refine wpAnyH_take (i:=11) (v:= ?_) rfl (by kernel_rfl) (by kernel_rfl) (by kernel_rfl) (fun _ _ _ h=>h) (Or.inl ⟨by rfl,?_⟩) (by assumption) ?_
        rotate_left
        ·(intro w hSw;(try dsimp only at hSw);go_simp;try with_reducible rfl)
        try simp only[Act.put,List.setIfInBounds_toArray,List.set_cons_zero,List.set_cons_succ]
        refine wpAnyH_take (i:=12) (v:= ?_) rfl (by kernel_rfl) (by kernel_rfl) (by kernel_rfl) (fun _ _ _ h=>h) (Or.inl ⟨by rfl,?_⟩) (by assumption) ?_
        rotate_left
        ·(intro w hSw;(try dsimp only at hSw);go_simp;try with_reducible rfl)
        try simp only[Act.put,List.setIfInBounds_toArray,List.set_cons_zero,List.set_cons_succ]
        refine wpAnyH_ready (rs:=[13]) (by kernel_rfl) (by simp) ?_;refine AllReadyH.cons rfl (fun K hK=> ?_) AllReadyH.nil;go_simp;refine(nJ M2 _ _ (HMd.o.later HW2.o)).mono ?_;rintro e v3 ⟨fv,rfl,hfv,hb3⟩;have HW3:=hid (HW2.o.on hb3);have HFV:=hid hfv;clear hfv hb3;refine hK.out _ _ trivial (fun hHeld=> ?_);clear hK K
        try simp only[Act.put,List.setIfInBounds_toArray,List.set_cons_zero,List.set_cons_succ]
        refine wpAnyH_ready (rs:=[14]) (by kernel_rfl) (by simp) ?_;refine AllReadyH.cons rfl (fun K hK=> ?_) AllReadyH.nil;go_simp;refine(lX _ rm _ _ HGK.o HG9.o HFV.o HRM.o).mono ?_;rintro e v4 ⟨rfl,hb4⟩;have HQ:=hid (HBd.o.on (HW3.o.on hb4));clear hb4 HFV HW3 HW2;refine hK.out _ _ trivial (fun hHeld=> ?_);clear hK K
        try simp only[Act.put,List.setIfInBounds_toArray,List.set_cons_zero,List.set_cons_succ]
        refine wpAnyH_take (i:=15) (v:= ?_) rfl (by kernel_rfl) (by kernel_rfl) (by kernel_rfl) (fun _ _ _ h=>h) (Or.inl ⟨by rfl,?_⟩) (by assumption) ?_
        rotate_left
        ·(intro w hSw;(try dsimp only at hSw);go_simp;try with_reducible rfl)
        try simp only[Act.put,List.setIfInBounds_toArray,List.set_cons_zero,List.set_cons_succ]
        refine wpAnyH_take (i:=16) (v:= ?_) rfl (by kernel_rfl) (by kernel_rfl) (by kernel_rfl) (fun _ _ _ h=>h) (Or.inl ⟨by rfl,?_⟩) (by assumption) ?_
        rotate_left
        ·(intro w hSw;(try dsimp only at hSw);go_simp;try with_reducible rfl)
        try simp only[Act.put,List.setIfInBounds_toArray,List.set_cons_zero,List.set_cons_succ]
        refine wpAnyH_done (by kernel_rfl) ?_ _;clear HMd HFd HBd;go_wp2_with fail;go_roundw
        case rel=>exact⟨q+1,by omega,by go_num,HQ.o⟩
        case measure=>simp[intOf];omega
    ·have hqe:q=xs.length:=by omega
     subst hqe;have HZ:=HBW.o.on (HI.o.B.on hbq);clear hq hlt hbq;go_wp2_with fail;go_ret;exact⟨rfl,HZ⟩
end Go.Proofs.YtpjlignclchgiaaGreat
