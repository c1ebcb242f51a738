/-
  The walk of MapperNew.
  Conditions: as the theorem says.
-/
import Derived.Test.YtpjlignclchgiaaGreatMqQ
namespace Go.Proofs.YtpjlignclchgiaaGreat
open Go.Lib (hid)
set_option linter.unusedSimpArgs false
set_option linter.unusedVariables false
set_option maxRecDepth 100000
set_option maxHeartbeats 16000000
open Go.RowKit Go.Maps
theorem new_no38 (n:Int) (w:World) (h:n<0∨65536<n):
  Calls Tryz.prog 79 #[.int .i64 n] w fun e w'=>e= .returned (.tuple #[.agg #[.slice none 0 0],.int .i64 1])∧Below w.heap.size w w':=by
 rcases h with h|h
 all_goals
  go_enter Tryz.func79,Tryz.ntmps79;go_wp2;refine bodyPost_ret (v:= .tuple #[.agg #[.slice none 0 0],.int .i64 1]) ?_ rfl ⟨rfl,?_⟩
  ·simp[results,Tryz.results79,go_sem]
  ·(repeat(first|exact Below.refl _ _|assumption|refine Below.onNext ?_ _|refine Below.onAlloc ?_ _|refine Below.setCell ?_ (by simp) _|refine Below.drew ?_))
theorem new_room38 (N:Nat):roomF ⟨N,[]⟩=N:=by
 have h:area (zeroB (⟨N,[]⟩:Fam).C) N=area (fun i=>decide (0≤i)&&decide (i<N)) N:=area_congr _ _ _ fun i hi=>by
  have h1:(⟨N,[]⟩:Fam).C.getD i 0=cntV [] i:=cntsV_get N [] (by simp) i hi;unfold zeroB;rw[h1];simp[cntV,hi]
 unfold roomF claimsF freeN;simp only[List.map_nil,List.sum_nil];show(area (zeroB (⟨N,[]⟩:Fam).C) N:Int)-0=N;rw[h,area_span _ _ _ (by omega)];omega
theorem fnew_no38 (n:Int) (w:World) (hn:n<0∨65536<n):Calls Tryz.prog 36 #[.int .i64 n] w fun e w'=>e= .returned (.tuple #[.agg #[.slice none 0 0,.map none],.int .i64 1])∧Below w.heap.size w w':=by
 go_enter Tryz.func36,Tryz.ntmps36;go_wp2_with fail;refine(new_no38 n _ hn).mono ?_;rintro e w1 ⟨rfl,hb⟩;have hR:=((RF.new w w 76 (Below.refl _ _)).later hb).later ((Below.refl w1.heap.size w1).onAlloc (.cells #[.slice none 0 0] 73));have g0:=hR.r0;have g1:=hR.r1;have f0:=hR.f0;have f1:=hR.f1;have HR:=hid hR;clear hb hR;go_wp2_with fail;obtain⟨k0,k1⟩:=HR.o.cells (u:= .slice none 0 0) (v:= .map none)
 (try simp only[Exit.inBlock,Exit.then])
 refine bodyPost_ret (v:= .tuple #[.agg #[.slice none 0 0,.map none],.int .i64 1]) (by first|(rw[results_cell_tmp rfl];go_simp;done)|(rw[results_cell_tmp2 rfl];go_simp;done)|(rw[results_cell_one rfl];go_simp;done)) rfl ?_;exact⟨rfl,HR.o.below⟩
theorem mnew_no (n:Int) (w:World) (hn:n<0∨65536<n):Calls Tryz.prog 13 #[.int .i64 n] w fun e w'=>e= .returned (.tuple #[.pointer none,.int .i64 1])∧Below w.heap.size w w':=by
 go_enter Tryz.func13,Tryz.ntmps13;go_wp2_with fail;refine(fnew_no38 n _ hn).mono ?_;rintro e w1 ⟨rfl,hb⟩;have hB:=hb.onAlloc (.cells #[.slice none 0 0,.map none] 76);clear hb;go_wp2_with fail;go_ret2;exact⟨rfl,hB⟩
theorem mload_arg (n:Int) (v:Value) (w:World) (hn:n<0∨65536<n):Calls Tryz.prog 33 #[v,.int .i64 n] w fun e w'=>e= .returned (.tuple #[.pointer none,.int .i64 1])∧Below w.heap.size w w':=by
 go_enter Tryz.func33,Tryz.ntmps33;go_wp2_with fail;refine(fnew_no38 n _ hn).mono ?_;rintro e w1 ⟨rfl,hb⟩;have hB:=hb.onAlloc (.cells #[.slice none 0 0,.map none] 76);clear hb;go_wp2_with fail;go_ret2;exact⟨rfl,hB⟩
theorem mstate_nil (w:World):Calls Tryz.prog 17 #[.pointer none] w fun e w'=>e= .returned (.slice none 0 0)∧w=w':=by
 go_enter Tryz.func17,Tryz.ntmps17;go_wp2_with fail;go_ret;exact⟨rfl,rfl⟩
theorem famR_none {w:World} {x:Int} {a:Option Addr} {m c:Nat} (h:FamR w (.agg #[.int .i64 x,.slice a m c]) ⟨0,[]⟩) (w':World) (n:Nat):FamR w' (.agg #[.int .i64 n,.slice a m c]) ⟨n,[]⟩:=by
 obtain⟨a',c',ts,he,hr,_,hts,hc⟩:=h;injection he with he;have h1:=congrArg Array.toList he;simp at h1;have ht:ts=[]:=by simpa using hts
 subst ht;obtain⟨_,rfl,rfl,rfl⟩:=h1;exact⟨_,_,[],rfl,⟨by simp,.inl rfl⟩,fun z hz=>by simp at hz,rfl,hc⟩
theorem law_new38 (n:Int) (w:World) (hn: -9223372036854775808≤n∧n≤9223372036854775807):
  Calls Tryz.prog 11 #[.int .i64 n] w fun e w'=>e= .returned (.bool true)∧Below w.heap.size w w':=by
 by_cases ho:n<0∨65536<n
 ·have HO:=hid ho;rcases ho with ho|ho
  all_goals
   go_enter Tryz.func11,Tryz.ntmps11;go_wp2_with fail;refine(awake38_is _).mono ?_;rintro e w1 ⟨rfl,hb1⟩;have HB:=hid hb1;clear hb1;go_wp2_with fail;refine(mplan_nil na 0 0 0 none _).mono ?_;rintro e w2 ⟨rfl,hb⟩;replace HB:=hid (HB.o.on hb);clear hb;go_wp2_with fail;refine(mtrim_nil _ _ _ _).mono ?_;rintro e w3 ⟨rfl,rfl⟩;go_wp2_with fail;refine(mcreate_nil _ _ _ _).mono ?_;rintro e w3 ⟨rfl,rfl⟩;go_wp2_with fail;refine(mclone_nil _ _ _).mono ?_;rintro e w3 ⟨rfl,rfl⟩;go_wp2_with fail;refine(mdelete_nil _ _).mono ?_;rintro e w3 ⟨rfl,rfl⟩;go_wp2_with fail;refine(apply_nil _ _).mono ?_;rintro e w4 ⟨rfl,hb⟩;replace HB:=hid (HB.o.on hb);clear hb;go_wp2_with fail;refine(mstate_nil _).mono ?_;rintro e w5 ⟨rfl,rfl⟩;go_wp2_with fail;refine(mfamily_nil _).mono ?_;rintro e w6 ⟨rfl,hb⟩;replace HB:=hid (HB.o.on hb);clear hb;go_wp2_with fail;refine(slots_r zeroF 0 _ _ zeroF_ok (FamV.zero _) rfl).mono ?_;rintro e w7 ⟨rfl,hb⟩;replace HB:=hid (HB.o.on hb);clear hb;go_wp2_with fail;refine(mcopy_nil _).mono ?_;rintro e w8 ⟨rfl,rfl⟩;go_wp2_with fail;refine(mnew_no n _ HO.o).mono ?_;rintro e w9 ⟨rfl,hb⟩;replace HB:=hid (HB.o.on hb);clear hb;go_wp2_with fail;refine(mload_arg n _ _ HO.o).mono ?_;rintro e w10 ⟨rfl,hb⟩;replace HB:=hid (HB.o.on hb);clear hb;go_wp2_with fail;go_ret;exact⟨rfl,HB.o⟩
 ·obtain ⟨m,rfl⟩:=Int.eq_ofNat_of_zero_le (show 0≤n by omega);have hm:m≤65536:=by omega
  clear ho hn;go_enter Tryz.func11,Tryz.ntmps11;go_wp2_with fail;refine(awake38_is _).mono ?_;rintro e w1 ⟨rfl,hb1⟩;have HB:=hid hb1;clear hb1;go_wp2_with fail;refine(mplan_nil na 0 0 0 none _).mono ?_;rintro e w2 ⟨rfl,hb⟩;replace HB:=hid (HB.o.on hb);clear hb;go_wp2_with fail;refine(mtrim_nil _ _ _ _).mono ?_;rintro e w3 ⟨rfl,rfl⟩;go_wp2_with fail;refine(mcreate_nil _ _ _ _).mono ?_;rintro e w3 ⟨rfl,rfl⟩;go_wp2_with fail;refine(mclone_nil _ _ _).mono ?_;rintro e w3 ⟨rfl,rfl⟩;go_wp2_with fail;refine(mdelete_nil _ _).mono ?_;rintro e w3 ⟨rfl,rfl⟩;go_wp2_with fail;refine(apply_nil _ _).mono ?_;rintro e w4 ⟨rfl,hb⟩;replace HB:=hid (HB.o.on hb);clear hb;go_wp2_with fail;refine(mstate_nil _).mono ?_;rintro e w5 ⟨rfl,rfl⟩;go_wp2_with fail;refine(mfamily_nil _).mono ?_;rintro e w6 ⟨rfl,hb⟩;replace HB:=hid (HB.o.on hb);clear hb;go_wp2_with fail;refine(slots_r zeroF 0 _ _ zeroF_ok (FamV.zero _) rfl).mono ?_;rintro e w7 ⟨rfl,hb⟩;replace HB:=hid (HB.o.on hb);clear hb;go_wp2_with fail;refine(mcopy_nil _).mono ?_;rintro e w8 ⟨rfl,rfl⟩;go_wp2_with fail;refine(mnew_yes m _ hm).mono ?_;rintro e w9 ⟨M,rfl,_,hmb,hb⟩;replace HB:=hid (HB.o.on hb);have HM:=hid hmb;clear hb hmb;go_wp2_with fail;refine(rfnew_is 0 _ (by omega)).mono ?_;rintro e w10 ⟨gv,rfl,hg,hb⟩;obtain⟨ra,rn,rc,rfl⟩:=hg.form;have hka:=hb.onAlloc (.cells #[.int .i64 0,.slice ra rn rc] 30);have HT:=hid (Bx.new w10 _ rfl (.int .i64 0) (.slice ra rn rc) 30);have HF:=hid (fun W=>famR_none hg W m);have hMT:M<w10.heap.size:=by
   obtain⟨_,_,h,_⟩:=HM.o;have:=h.lt;have:=hb.size;omega
  have HM2:=hid (HM.o.later hka);have HB2:=hid (HB.o.on hka);have hsz:=HB.o.size;have hsz2:=hb.size;have hsz3:w.heap.size≤w10.heap.size:=by omega
  clear hka hb hg HM HB hsz hsz2;go_upto_region 16 with fail;have t0:(w10.alloc (.cells #[.int .i64 0,.slice ra rn rc] 30)).cell? ⟨w10.heap.size,0,none⟩=some (.int .i64 0):=HT.o.c0;have tf:=HT.o.f0;generalize w10.alloc (.cells #[.int .i64 0,.slice ra rn rc] 30)=W0 at *;generalize w10.heap.size=T at *;have hgr:=grown_setCell W0 ⟨T,0,none⟩ (.int .i64 (m:Int));have hod:=HT.o.odd refTy (fun c e=>by cases e) (fun c e=>by cases e);have HM3:Hid (MapB (W0.setCell ⟨T,0,none⟩ (.int .i64 (m:Int))) M ⟨m,[]⟩):=hid (by
   obtain⟨u,v,h1,h2⟩:=HM2.o
   exact⟨u,v,h1.grown hgr (fun e=>by injection e with e;simp only at e;omega),h2.grown hod hgr⟩)
  have HB3:=hid (HB2.o.setCell (p:=⟨T,0,none⟩) hsz3 (.int .i64 (m:Int)));have k0:(W0.setCell ⟨T,0,none⟩ (.int .i64 (m:Int))).cell? ⟨T,0,none⟩=some (.int .i64 (m:Int)):=World.cell?_setCell_same _ _ _ t0;have k1:(W0.setCell ⟨T,0,none⟩ (.int .i64 (m:Int))).cell? ⟨T,1,none⟩=some (.slice ra rn rc):=by
   rw[World.cell?_setCell_other _ _ _ _ (by simp)];exact HT.o.c1
  have HS:=hid (new_sound m hm);clear hgr hod HM2 HB2 HT;go_wp2_with fail;refine(same38_is M ⟨m,[]⟩ _ _ HS.o.ok HS.o.short HM3.o (HF.o _)).mono ?_;rintro e w11 ⟨rfl,hb⟩;have HM4:=hid (HM3.o.later hb);have HB4:=hid (HB3.o.on hb);clear hb HM3 HB3 k0 k1 t0 tf;go_wp2_with fail;refine(mfamily_is M ⟨m,[]⟩ _ HM4.o).mono ?_;rintro e w12 ⟨fv,rfl,hf,hb⟩;have HF5:=hid hf;have HB5:=hid (HB4.o.on hb);clear hb hf;go_wp2_with fail;refine(troom_is ⟨m,[]⟩ m _ _ HS.o.ok HS.o.short HF5.o (new_room38 m)).mono ?_;rintro e w13 ⟨rfl,hb⟩;have HB6:=hid (HB5.o.on hb);clear hb;go_wp2_with fail;go_ret;exact⟨rfl,HB6.o⟩
end Go.Proofs.YtpjlignclchgiaaGreat
