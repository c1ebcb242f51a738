/-
  package family: New, with, vacant, has, find, Name.
  package family: Slots, Count, Free, Lookup, Range.
  Conditions: as each theorem says.
-/
import Derived.Test.YtaiklhbakldfhaaGreatHA
import Derived.Test.YtaiklhbakldfhaaGreatGF
import Derived.Shelf.SlMaps.Clone
import Derived.Shelf.Lay
import Derived.Ground.SlmcProg
import Derived.Laws.ResultCell
import Derived.Test.YtaiklhbakldfhaaGreatHX
namespace Go.Proofs.YtaiklhbakldfhaaGreat
open Go.Lib (hid)
set_option linter.unusedSimpArgs false
set_option linter.unusedVariables false
set_option maxRecDepth 100000
set_option maxHeartbeats 16000000
open Go.RowKit Go.Maps Go.Shelf
shelf_lay_g SlLaysW.n5 Slmc 5 at Tryz 130 as Tryz.cloneM
theorem aWn (w:World):Calls Tryz.prog 130 #[.map none] w fun e w'=>e= .returned (.map none)/\w=w':=(AnyW.maps_Clone_nil Tryz.cloneM w).mono fun _ _ ⟨h1,h2⟩=>⟨h1,h2.symm⟩
theorem aHr (b:Nat) (ts:List VT) (w:World) (h:aAm w b ts):Calls Tryz.prog 130 #[.map (some b)] w fun e w'=>e= .returned (.map (some w.heap.size))/\aAm w' w.heap.size ts/\Below w.heap.size w w':=
 (AnyW.maps_Clone_owns Tryz.cloneM 9 pM b ts.length (jS ts) w h).mono fun _ _ ⟨h1,h2,_,h4⟩=>⟨h1,h2,h4⟩
theorem bGd (n:Nat) (w:World) (hn:n<=65536):Calls Tryz.prog 22 #[.int .i64 n] w fun e w'=>∃ fv,e= .returned (.tuple #[fv,.int .i64 0])/\bA w' fv ⟨n,[]⟩/\Below w.heap.size w w':=by
 go_enter Tryz.func22,Tryz.ntmps22;go_wp2_with fail;refine(bIl n _ hn).mono ?_;rintro e w1 ⟨v,rfl,ho,hb⟩;obtain⟨a,c,rfl,hr⟩:=ho.rd (by simp;omega);have hrl:(List.replicate n (0:Int)).length=n:=by simp
 rw[hrl]at *;have hR:=((RF.new w w 46 (Below.refl _ _)).later hb).later ((Below.refl w1.heap.size w1).bMq (.cells #[.slice a n c] 43));have hr1:=hr.keep ((Below.refl w1.heap.size w1).bMq (.cells #[.slice a n c] 43));have g0:=hR.r0;have g1:=hR.r1;have f0:=hR.f0;have f1:=hR.f1;have HR:=hid hR;have HI:=hid (hR.ints (u:= .slice a n c) (v:= .map none) hr1);clear ho hr hb hR hr1 hrl;go_wp2_with fail;obtain⟨k0,k1⟩:=HR.o.cells (u:= .slice a n c) (v:= .map none)
 (try simp only[Exit.inBlock,Exit.then])
 refine bodyPost_ret (v:= .tuple #[.agg #[.slice a n c,.map none],.int .i64 0]) (by first|(rw[results_cell_tmp rfl];go_simp;done)|(rw[aB rfl];go_simp;done)|(rw[aA rfl];go_simp;done)) rfl ?_;exact⟨_,rfl,⟨a,c,none,rfl,HI.o,[],rfl,by simp,.inl ⟨rfl,rfl⟩⟩,HR.o.below⟩
def bHo (w:World) (cv:Value) (ts:List VT) (p:VT) (e:Ending) (w':World):Prop:=
 ∃b,e= .returned (.agg #[cv,.map (some b)])/\RdT w' (some b) (aEe p (aAw ts p.nm))/\Below w.heap.size w w'
theorem aEm (a0:Option Addr) (n0 c0:Nat) (a:Option Addr) (n c:Nat) (mb:Option Nat) (ts:List VT) (p:VT) (w:World) (h:RdT w mb ts) (hp:aF w (.pointer p.a) p.t) (hn:p.nm.length<=maxLen) (hl:ts.length<=1000):
  Calls Tryz.prog 77 #[.agg #[.slice a0 n0 c0,.map mb],.agg #[.slice a n c],nmV p.nm,p.val] w (bHo w (.slice a n c) ts p):=by
 have hR0:RF w ((((w.alloc (.cells #[.slice a0 n0 c0,.map mb] 46)).alloc (.cells #[.slice a n c] 43)).alloc (.cells #[.int .i64 p.n,.int .i64 p.r,.pointer p.a] 139)).alloc (.cells #[.slice none 0 0,.map none] 46)) (((w.alloc (.cells #[.slice a0 n0 c0,.map mb] 46)).alloc (.cells #[.slice a n c] 43)).alloc (.cells #[.int .i64 p.n,.int .i64 p.r,.pointer p.a] 139)).heap.size:=RF.new w _ _ (by(repeat(first|exact Below.refl _ _|assumption|refine Below.bMt ?_ _|refine Below.bMq ?_ _|refine Below.setCell ?_ (by simp) _|refine Below.drew ?_)));have e0:(((w.alloc (.cells #[.slice a0 n0 c0,.map mb] 46)).alloc (.cells #[.slice a n c] 43)).alloc (.cells #[.int .i64 p.n,.int .i64 p.r,.pointer p.a] 139)).heap.size=w.heap.size+1+1+1:=by simp
 rw [e0]at hR0;have k0:∀ i,((((w.alloc (.cells #[.slice a0 n0 c0,.map mb] 46)).alloc (.cells #[.slice a n c] 43)).alloc (.cells #[.int .i64 p.n,.int .i64 p.r,.pointer p.a] 139)).alloc (.cells #[.slice none 0 0,.map none] 46)).cell? ⟨w.heap.size+1,i,none⟩=((w.alloc (.cells #[.slice a0 n0 c0,.map mb] 46)).alloc (.cells #[.slice a n c] 43)).cell? ⟨w.heap.size+1,i,none⟩:=fun i=>by
  rw[World.cell?_alloc_lt _ _ _ (by simp),World.cell?_alloc_lt _ _ _ (by simp)]
 have k1:∀ i,((((w.alloc (.cells #[.slice a0 n0 c0,.map mb] 46)).alloc (.cells #[.slice a n c] 43)).alloc (.cells #[.int .i64 p.n,.int .i64 p.r,.pointer p.a] 139)).alloc (.cells #[.slice none 0 0,.map none] 46)).cell? ⟨w.heap.size,i,none⟩=(w.alloc (.cells #[.slice a0 n0 c0,.map mb] 46)).cell? ⟨w.heap.size,i,none⟩:=fun i=>by
  rw[World.cell?_alloc_lt _ _ _ (by simp;omega),World.cell?_alloc_lt _ _ _ (by simp;omega),World.cell?_alloc_lt _ _ _ (by simp)]
 have k2:∀ i,((((w.alloc (.cells #[.slice a0 n0 c0,.map mb] 46)).alloc (.cells #[.slice a n c] 43)).alloc (.cells #[.int .i64 p.n,.int .i64 p.r,.pointer p.a] 139)).alloc (.cells #[.slice none 0 0,.map none] 46)).cell? ⟨w.heap.size+1+1,i,none⟩=(((w.alloc (.cells #[.slice a0 n0 c0,.map mb] 46)).alloc (.cells #[.slice a n c] 43)).alloc (.cells #[.int .i64 p.n,.int .i64 p.r,.pointer p.a] 139)).cell? ⟨w.heap.size+1+1,i,none⟩:=fun i=>by
  rw[World.cell?_alloc_lt _ _ _ (by simp)]
 have q0:=(k1 1).trans (show _=some (.map mb) by simp);have q1:=(k0 0).trans (show _=some (.slice a n c) by simp);have q2:=(k2 0).trans (by rw[World.cell?_alloc_at (hn:=by simp)];rfl:_=some (.int .i64 p.n));have q3:=(k2 1).trans (by rw[World.cell?_alloc_at (hn:=by simp)];rfl:_=some (.int .i64 p.r));have q4:=(k2 2).trans (by rw[World.cell?_alloc_at (hn:=by simp)];rfl:_=some (.pointer p.a));have HT:=hid (h.keep hR0.bel);have HP:=hid (aF.keep hR0.bel _ hp);have HR:=hid hR0;clear k0 k1 k2 e0 h hp hR0;go_enter Tryz.func77,Tryz.ntmps77;go_wp2_with fail;obtain⟨W,hW⟩:∃ W,((((w.alloc (.cells #[.slice a0 n0 c0,.map mb] 46)).alloc (.cells #[.slice a n c] 43)).alloc (.cells #[.int .i64 p.n,.int .i64 p.r,.pointer p.a] 139)).alloc (.cells #[.slice none 0 0,.map none] 46))=W:=⟨_,rfl⟩;rw[hW]at q0 q1 q2 q3 q4 HT HP HR ⊢;clear hW;have hq:=fun w p=>run_eql_map_nil_sl (P:=Tryz.prog) w 44 _ _ p Tryz.underlying44;have hmm:= @run_makeMap Tryz.prog;have fin:∀ (b:Nat) (w2:World),Below W.heap.size W w2->w2.ownsMap Tryz.prog 9 pM b (ts.length+1) ((jS ts).put (.string p.nm) (.held p.val))->RF w w2 (w.heap.size+1+1+1)/\RdT (dN w2 (w.heap.size+1+1+1) (.slice a n c) (.map (some b))) (some b) (aEe p (aAw ts p.nm)):=fun b w2 hb2 hm2=>by
  rw[bJc]at hm2;have hR:=HR.o.later hb2;refine⟨hR,⟨fun q hq=> ?_,.inr ⟨b,rfl,hR.map (aKo hm2)⟩⟩⟩;rcases bFc.1 hq with rfl|hq
  ·exact hR.tree _ (aF.keep hb2 _ HP.o)
  ·exact hR.tree _ (aF.keep hb2 _ (HT.o.1 q (aQk.1 hq).1))
 have FIN:=hid fin;clear fin;rcases HT.o.2 with ⟨rfl,rfl⟩|⟨b,rfl,hm⟩
 ·refine(aWn _).mono ?_;rintro e w1 ⟨rfl,rfl⟩;have hB0:=(Below.refl W.heap.size W).bMq (.map #[] 0)
  go_wp2_with (at_mapUpdate;refine wpList_mapUpdate_own _ rfl _ _ _ 44 rfl 9 139 vD Tryz.underlying44 pM W.heap.size 0 (jS []) rfl (World.ownsMap_made W _ _ _) (by decide) _ _ (.string p.nm) rfl rfl (aQf hn) (.held p.val) [] (sS _) ?_;intro w2 hown2 hgrow2;have hb2:Below W.heap.size W w2:=hB0.grown hgrow2 (by simp) (fun k hk=>by cases hk;exact Nat.le_refl _);have y1:=hb2.keep q1;obtain⟨hR,hT⟩:=FIN.o _ _ hb2 hown2;have r0:=hR.r0;have r1:=hR.r1;have f0:=hR.f0;have f1:=hR.f1;have HR2:=hid hR;have HT2:=hid hT;clear hR hT hown2 hgrow2 hb2)
  obtain⟨j0,j1⟩:=HR2.o.cells (u:= .slice a n c) (v:= .map (some W.heap.size))
  (try simp only[Exit.inBlock,Exit.then])
  refine bodyPost_ret (v:= .agg #[.slice a n c,.map (some W.heap.size)]) (by first|(rw[results_cell_tmp rfl];go_simp;done)|(rw[aB rfl];go_simp;done)|(rw[aA rfl];go_simp;done)) rfl ?_;exact⟨_,rfl,HT2.o,HR2.o.below⟩
 ·refine(aHr b ts _ hm).mono ?_;rintro e w1 ⟨rfl,hm1,hb1⟩;have HQ1:=hid q1;have q1:=hb1.keep q1;have q2:=hb1.keep q2;have q3:=hb1.keep q3;have q4:=hb1.keep q4;have HM1:=hid hm1;have HB1:=hid hb1;clear hm hm1 hb1
  go_wp2_with (at_mapUpdate;refine wpList_mapUpdate_own _ rfl _ _ _ 44 rfl 9 139 vD Tryz.underlying44 pM W.heap.size ts.length (jS ts) rfl HM1.o (by simp only[maxLen];omega) _ _ (.string p.nm) rfl rfl (aQf hn) (.held p.val) [] (sS _) ?_;intro w2 hown2 hgrow2;have hb2:Below W.heap.size W w2:=HB1.o.grown hgrow2 HB1.o.size (fun k hk=>by cases hk;exact Nat.le_refl _);have y1:=hb2.keep (HQ1.o);obtain⟨hR,hT⟩:=FIN.o _ _ hb2 hown2;have r0:=hR.r0;have r1:=hR.r1;have f0:=hR.f0;have f1:=hR.f1;have HR2:=hid hR;have HT2:=hid hT;clear hR hT hown2 hgrow2 hb2)
  obtain⟨j0,j1⟩:=HR2.o.cells (u:= .slice a n c) (v:= .map (some W.heap.size))
  (try simp only[Exit.inBlock,Exit.then])
  refine bodyPost_ret (v:= .agg #[.slice a n c,.map (some W.heap.size)]) (by first|(rw[results_cell_tmp rfl];go_simp;done)|(rw[aB rfl];go_simp;done)|(rw[aA rfl];go_simp;done)) rfl ?_;exact⟨_,rfl,HT2.o,HR2.o.below⟩
def aYq (vs:List Vol) (nm:List UInt8):Int:=if (aP vs nm).isSome then 10 else if 32<=vs.length then 7 else 0
theorem wX (a:Option Addr) (n c:Nat) (mb:Option Nat) (ts:List VT) (nm:List UInt8) (w:World) (h:RdT w mb ts) (hn:nm.length<=maxLen) (r:Int) (hr:aYq (ts.map VT.vol) nm=r):
  Calls Tryz.prog 76 #[.agg #[.slice a n c,.map mb],nmV nm] w fun e w'=>e= .returned (.int .i64 r)/\Below w.heap.size w w':=by
 have hl:=aAn (h.keep ((Below.refl w.heap.size w).bMq (.cells #[.slice a n c,.map mb] 46))) hn;unfold aYq at hr;rw[oL]at hr
 cases hg:nN ts nm with
 | some p=>
  rw[uA hg]at hl;rw[hg]at hr;obtain rfl:(10:Int)=r:=by simpa using hr
  have hl:=hl;clear h hg hr;go_enter Tryz.func76,Tryz.ntmps76;go_wp2_with fail;go_ret;exact⟨rfl,by(repeat(first|exact Below.refl _ _|assumption|refine Below.bMt ?_ _|refine Below.bMq ?_ _|refine Below.setCell ?_ (by simp) _|refine Below.drew ?_))⟩
 | none=>
  rw[uB hg]at hl;rw[hg]at hr;have hlen:=fun ty=>bIr (h.keep (((Below.refl w.heap.size w).bMq (.cells #[.slice a n c,.map mb] 46)).bMq (.cells #[.int .i64 0,.int .i64 0,.pointer none] 139))) ty;clear h hg;by_cases h32:32<=ts.length
  ·obtain rfl:(7:Int)=r:=by simpa [h32]using hr
   clear hr;go_enter Tryz.func76,Tryz.ntmps76;go_wp2_with fail;go_ret;exact⟨rfl,by(repeat(first|exact Below.refl _ _|assumption|refine Below.bMt ?_ _|refine Below.bMq ?_ _|refine Below.setCell ?_ (by simp) _|refine Below.drew ?_))⟩
  ·obtain rfl:(0:Int)=r:=by simpa [h32]using hr
   clear hr;go_enter Tryz.func76,Tryz.ntmps76;go_wp2_with fail;go_ret;exact⟨rfl,by(repeat(first|exact Below.refl _ _|assumption|refine Below.bMt ?_ _|refine Below.bMq ?_ _|refine Below.setCell ?_ (by simp) _|refine Below.drew ?_))⟩
theorem bIv (n r:Int) (a:Option Addr) (p q:Int) (w:World) (hn:0<=n/\n<=65536) (hp: -9223372036854775808<=p/\p<=9223372036854775807):
  Calls Tryz.prog 116 #[.agg #[.int .i64 n,.int .i64 r,.pointer a],.int .i64 p,.int .i64 q] w fun e w'=>e= .returned (.bool (inB p q n))/\Below w.heap.size w w':=by
 go_enter Tryz.func116,Tryz.ntmps116;go_wp2
 all_goals
  go_ret;exact⟨bW (by simp only[inB,decide_eq_true_eq,Bool.false_eq_true,false_iff];omega),by(repeat(first|exact Below.refl _ _|assumption|refine Below.bMt ?_ _|refine Below.bMq ?_ _|refine Below.setCell ?_ (by simp) _|refine Below.drew ?_))⟩
theorem bFt (n r:Int) (a:Option Addr) (p q:Int) (w:World) (hn:0<=n/\n<=65536) (hp: -9223372036854775808<=p/\p<=9223372036854775807) (b:Bool) (hb:inB p q n=b):
  Calls Tryz.prog 116 #[.agg #[.int .i64 n,.int .i64 r,.pointer a],.int .i64 p,.int .i64 q] w fun e w'=>e= .returned (.bool b)/\Below w.heap.size w w':=by
 subst hb;exact bIv n r a p q w hn hp
def mG (ts:List VT) (nm:List UInt8) (p q:Int):Value × Int:=match nN ts nm with
 |none=>(.agg #[.int .i64 0,.int .i64 0,.pointer none],9)
 |some v=>if inB p q v.n=false then (.agg #[.int .i64 0,.int .i64 0,.pointer none],2)else (v.val,0)
theorem wJ (a:Option Addr) (n c:Nat) (mb:Option Nat) (ts:List VT) (nm:List UInt8) (p q:Int) (w:World) (h:RdT w mb ts) (hn:nm.length<=maxLen) (hts:∀ v∈ts,0<=v.n/\v.n<=65536) (hp: -9223372036854775808<=p/\p<=9223372036854775807):
  Calls Tryz.prog 58 #[.agg #[.slice a n c,.map mb],nmV nm,.int .i64 p,.int .i64 q] w fun e w'=>e= .returned (.tuple #[(mG ts nm p q).1,.int .i64 (mG ts nm p q).2])/\Below w.heap.size w w':=by
 have hl:=aAn (h.keep (((Below.refl w.heap.size w).bMq (.cells #[.slice a n c,.map mb] 46)).bMq (.cells #[.int .i64 0,.int .i64 0,.pointer none] 139))) hn;unfold mG
 cases hg:nN ts nm with
 | none=>
  rw[uB hg]at hl;clear h hg;go_enter Tryz.func58,Tryz.ntmps58;go_wp2_with fail
  (try simp only[Exit.inBlock,Exit.then])
  refine bodyPost_ret (v:= .tuple #[.agg #[.int .i64 0,.int .i64 0,.pointer none],.int .i64 9]) (by first|(rw[results_cell_tmp rfl];go_simp;done)|(rw[aB rfl];go_simp;done)|(rw[aA rfl];go_simp;done)) rfl ?_;exact⟨rfl,by(repeat(first|exact Below.refl _ _|assumption|refine Below.bMt ?_ _|refine Below.bMq ?_ _|refine Below.setCell ?_ (by simp) _|refine Below.drew ?_))⟩
 | some v=>
  rw[uA hg]at hl;have hv:=hts v (mF hg).1;clear h hg hts;cases hb:inB p q v.n
  all_goals
   have hW:Below w.heap.size w (((w.alloc (.cells #[.slice a n c,.map mb] 46)).alloc (.cells #[.int .i64 0,.int .i64 0,.pointer none] 139)).alloc (.cells #[.int .i64 v.n,.int .i64 v.r,.pointer v.a] 139)):=by(repeat(first|exact Below.refl _ _|assumption|refine Below.bMt ?_ _|refine Below.bMq ?_ _|refine Below.setCell ?_ (by simp) _|refine Below.drew ?_))
   have k1:∀ i,(((w.alloc (.cells #[.slice a n c,.map mb] 46)).alloc (.cells #[.int .i64 0,.int .i64 0,.pointer none] 139)).alloc (.cells #[.int .i64 v.n,.int .i64 v.r,.pointer v.a] 139)).cell? ⟨w.heap.size+1,i,none⟩=((w.alloc (.cells #[.slice a n c,.map mb] 46)).alloc (.cells #[.int .i64 0,.int .i64 0,.pointer none] 139)).cell? ⟨w.heap.size+1,i,none⟩:=fun i=>by
    rw[World.cell?_alloc_lt _ _ _ (by simp)]
   have k2:∀ i,(((w.alloc (.cells #[.slice a n c,.map mb] 46)).alloc (.cells #[.int .i64 0,.int .i64 0,.pointer none] 139)).alloc (.cells #[.int .i64 v.n,.int .i64 v.r,.pointer v.a] 139)).frozen? ⟨w.heap.size+1,i,none⟩=((w.alloc (.cells #[.slice a n c,.map mb] 46)).alloc (.cells #[.int .i64 0,.int .i64 0,.pointer none] 139)).frozen? ⟨w.heap.size+1,i,none⟩:=fun i=>by
    rw[World.frozen?_alloc_old _ _ _ (by simp)]
   have r0:=(k1 0).trans (show _=some (.int .i64 0) by simp);have r1:=(k1 1).trans (show _=some (.int .i64 0) by simp);have r2:=(k1 2).trans (show _=some (.pointer none) by simp);have f0:=(k2 0).trans (show _=false by simp);have f1:=(k2 1).trans (show _=false by simp);have f2:=(k2 2).trans (show _=false by simp);have HW:=hid hW;clear k1 k2 hW
  ·go_enter Tryz.func58,Tryz.ntmps58;go_wp2_with fail;refine(bFt v.n v.r v.a p q _ hv hp false hb).mono ?_;rintro e w1 ⟨rfl,hb1⟩;have f0:=hb1.bMw r0 f0;have f1:=hb1.bMw r1 f1;have f2:=hb1.bMw r2 f2;have r0:=hb1.keep r0;have r1:=hb1.keep r1;have r2:=hb1.keep r2;have hB:=HW.o.on hb1;have HBB:=hid (((hB.setCell (p:=⟨w.heap.size+1,0,none⟩) (by simp) (.int .i64 0)).setCell (p:=⟨w.heap.size+1,1,none⟩) (by simp) (.int .i64 0)).setCell (p:=⟨w.heap.size+1,2,none⟩) (by simp) (.pointer none));clear hb1 hB;go_wp2_with fail;obtain⟨j0,j1,j2⟩:=vQ (u0:= .int .i64 0) (u1:= .int .i64 0) (u2:= .pointer none) r0 r1 r2
   (try simp only[Exit.inBlock,Exit.then])
   refine bodyPost_ret (v:= .tuple #[.agg #[.int .i64 0,.int .i64 0,.pointer none],.int .i64 2]) (by first|(rw[results_cell_tmp rfl];go_simp;done)|(rw[aB rfl];go_simp;done)|(rw[aA rfl];go_simp;done)) rfl ?_;exact⟨rfl,HBB.o⟩
  ·go_enter Tryz.func58,Tryz.ntmps58;go_wp2_with fail;refine(bFt v.n v.r v.a p q _ hv hp true hb).mono ?_;rintro e w1 ⟨rfl,hb1⟩;have f0:=hb1.bMw r0 f0;have f1:=hb1.bMw r1 f1;have f2:=hb1.bMw r2 f2;have r0:=hb1.keep r0;have r1:=hb1.keep r1;have r2:=hb1.keep r2;have y0:w1.cell? ⟨w.heap.size+1+1,0,none⟩=some (.int .i64 v.n):=hb1.keep (by rw[World.cell?_alloc_at (hn:=by simp)];rfl);have y1:w1.cell? ⟨w.heap.size+1+1,1,none⟩=some (.int .i64 v.r):=hb1.keep (by rw[World.cell?_alloc_at (hn:=by simp)];rfl);have y2:w1.cell? ⟨w.heap.size+1+1,2,none⟩=some (.pointer v.a):=hb1.keep (by rw[World.cell?_alloc_at (hn:=by simp)];rfl);have hB:=HW.o.on hb1;have HBB:=hid (((hB.setCell (p:=⟨w.heap.size+1,0,none⟩) (by simp) (.int .i64 v.n)).setCell (p:=⟨w.heap.size+1,1,none⟩) (by simp) (.int .i64 v.r)).setCell (p:=⟨w.heap.size+1,2,none⟩) (by simp) (.pointer v.a));clear hb1 hB;go_wp2_with fail
   all_goals
    obtain⟨j0,j1,j2⟩:=vQ (u0:= .int .i64 v.n) (u1:= .int .i64 v.r) (u2:= .pointer v.a) r0 r1 r2
    (try simp only[Exit.inBlock,Exit.then])
    refine bodyPost_ret (v:= .tuple #[.agg #[.int .i64 v.n,.int .i64 v.r,.pointer v.a],.int .i64 0]) (by first|(rw[results_cell_tmp rfl];go_simp;done)|(rw[aB rfl];go_simp;done)|(rw[aA rfl];go_simp;done)) rfl ?_;exact⟨rfl,HBB.o⟩
open Go.RowKit Go.Maps
theorem RdV.fit {F:Fam} (hF:F.ok) {ts:List VT} (h:ts.map VT.vol=F.vs):∀ v∈ts,v.vol.ok F.N:=fun v hv=>hF.vol _ (by rw[<-h];exact List.mem_map.2 ⟨v,hv,rfl⟩)
theorem sI {F:Fam} (hF:F.ok) {ts:List VT} (h:ts.map VT.vol=F.vs):∀ v∈ts,0<=v.n/\v.n<=65536:=fun v hv=>by
 have:=RdV.fit hF h v hv;have h1:=this.n1;have h2:=this.n2;exact⟨by have:(1:Int)<=v.n:=h1;omega,h2⟩
theorem aFj {F:Fam} (hF:F.ok) {ts:List VT} (h:ts.map VT.vol=F.vs):ts.length<=32:=by
 have:=hF.few;rw[<-h,List.length_map]at this;exact this
theorem aKy (F:Fam) (fv:Value) (w:World) (hF:F.ok) (h:bA w fv F):Calls Tryz.prog 69 #[fv] w fun e w'=>e= .returned (.int .i64 F.N)/\Below w.heap.size w w':=by
 obtain⟨a,c,mb,rfl,hr,_⟩:=h;have hN:=hF.hN;clear hr;go_enter Tryz.func69,Tryz.ntmps69;go_wp2_with fail;refine(aZe a F.N c _ hN).mono ?_;rintro e w1 ⟨rfl,hb⟩;have HB:=hid hb;clear hb;go_wp2_with fail;go_ret;exact⟨rfl,((Below.refl _ _).bMq _).on HB.o⟩
theorem bBs (F:Fam) (fv:Value) (s:Int) (w:World) (h:bA w fv F):Calls Tryz.prog 46 #[fv,.int .i64 s] w fun e w'=>e= .returned (.int .i64 (ofC F.C s))/\Below w.heap.size w w':=by
 obtain⟨a,c,mb,rfl,hr,_⟩:=h;have HI:=hid (bLc F.C a c s _ (hr.keep ((Below.refl w.heap.size w).bMq (.cells #[.slice a F.N c,.map mb] 46))));rw[F.bMs]at HI;clear hr;go_enter Tryz.func46,Tryz.ntmps46;go_wp2_with fail;refine HI.o.mono ?_;rintro e w1 ⟨rfl,hb⟩;have HB:=hid hb;clear hb;go_wp2_with fail;go_ret;exact⟨rfl,((Below.refl _ _).bMq _).on HB.o⟩
theorem oM (C:List Int):(jQ C).length<=65536:=bE (dV _).1
theorem aRp (F:Fam) (fv:Value) (w:World) (h:bA w fv F):Calls Tryz.prog 27 #[fv] w fun e w'=>∃ sv,e= .returned sv/\aG w' w.heap.size sv (jQ F.C)/\Below w.heap.size w w':=by
 obtain⟨a,c,mb,rfl,hr,_⟩:=h;have HI:=hid (bCw F.C a c _ (hr.keep ((Below.refl w.heap.size w).bMq (.cells #[.slice a F.N c,.map mb] 46))));rw[F.bMs]at HI;have hfs:=oM F.C;clear hr;go_enter Tryz.func27,Tryz.ntmps27;go_wp2_with fail;refine HI.o.mono ?_;rintro e w1 ⟨sv,rfl,ho,hb⟩;obtain⟨sa,sc,rfl,_⟩:=ho.rd (by omega);have HB:=hid hb;have HO:=hid ho;clear hb ho;go_wp2_with fail;go_ret;exact⟨_,rfl,aG.mono HO.o (by simp),((Below.refl _ _).bMq _).on HB.o⟩
theorem bFz {N:Nat} {v:VT} (h:v.vol.ok N):aI v.t.toL=true/\eX v.t.toL=true/\inside v.t.toL v.n:=⟨h.valid,h.norm,h.ins⟩
theorem aHk (F:Fam) (fv:Value) (nm:List UInt8) (p:Int) (w:World) (hF:F.ok) (h:bA w fv F) (hn:nm.length<=maxLen) (hp: -9223372036854775808<=p/\p<=9223372036854775807):
  Calls Tryz.prog 45 #[fv,nmV nm,.int .i64 p] w fun e w'=>e= .returned (.tuple #[.int .i64 (fQ F nm p).1,.bool (fQ F nm p).2.1,.int .i64 (fQ F nm p).2.2])/\Below w.heap.size w w':=by
 obtain⟨a,c,mb,rfl,hr,ts,hts,hT⟩:=h;have hb0:=(Below.refl w.heap.size w).bMq (.cells #[.slice a F.N c,.map mb] 46);have HFI:=hid (wJ a F.N c mb ts nm p 1 _ (hT.keep hb0) hn (sI hF hts) hp);have HT:=hid hT;have HK:=hid (RdV.fit hF hts);have HB0:=hid hb0;unfold fQ;rw[<-hts,oL];clear hr hT hb0 hts
 cases hg:nN ts nm with
 | none=>
  have h0:mG ts nm p 1=(.agg #[.int .i64 0,.int .i64 0,.pointer none],9):=by simp[mG,hg]
  rw[h0]at HFI;clear h0 hg;go_enter Tryz.func45,Tryz.ntmps45;go_wp2_with fail;refine HFI.o.mono ?_;rintro e w1 ⟨rfl,hb⟩;have HB:=hid hb;clear hb;go_wp2_with fail;go_ret3;exact⟨rfl,(HB0.o.on HB.o).bMq _⟩
 | some v=>
  have hm:=(mF hg).1;cases hib:inB p 1 v.n
  ·have h0:mG ts nm p 1=(.agg #[.int .i64 0,.int .i64 0,.pointer none],2):=by simp[mG,hg,hib]
   have h1:inB p 1 v.vol.n=false:=hib;rw[h0]at HFI;simp only[Option.map_some,h1,if_true];clear h0 hg hm hib h1;go_enter Tryz.func45,Tryz.ntmps45;go_wp2_with fail;refine HFI.o.mono ?_;rintro e w1 ⟨rfl,hb⟩;have HB:=hid hb;clear hb;go_wp2_with fail;go_ret3;exact⟨rfl,(HB0.o.on HB.o).bMq _⟩
  ·have h0:mG ts nm p 1=(v.val,0):=by simp[mG,hg,hib]
   have h1:inB p 1 v.vol.n=true:=hib;rw[h0]at HFI;simp only[Option.map_some,h1,Bool.true_eq_false,if_false];have HV:=hid (HT.o.1 v hm);have HO:=hid (bFz (HK.o v hm));clear h0 hg hm hib h1;go_enter Tryz.func45,Tryz.ntmps45;go_wp2_with fail;refine HFI.o.mono ?_;rintro e w1 ⟨rfl,hb⟩;have HB:=hid ((HB0.o.on hb).bMq (.cells #[.int .i64 v.n,.int .i64 v.r,.pointer v.a] 139));clear hb;go_wp2_with fail;refine(aTg v.t p (.pointer v.a) _ (aF.keep HB.o v.t HV.o) HO.o.1 hp).mono ?_;rintro e w2 ⟨rfl,hb2⟩;have HB2:=hid (HB.o.on hb2);clear hb2;go_wp2_with fail;go_ret3;exact⟨rfl,HB2.o⟩
theorem aHa {p q n:Int} (h:inB p q n=true) (hn:n<=65536):dW p q 65536=true:=by
 obtain⟨h1,h2,h3,h4⟩:=(iN _ _ _).1 h;exact decide_eq_true (by omega)
theorem aJu (p q:Int) (w:World) (hp: -9223372036854775808<=p/\p<=9223372036854775807) (hq: -9223372036854775808<=q/\q<=9223372036854775807):
  Calls Tryz.prog 62 #[.agg #[.pointer none],.int .i64 p,.int .i64 q] w (aEz w []):=by
 cases hw:dW p q 65536
 ·exact aTf p q (.pointer none) w ⟨none,rfl⟩ hw hp hq
 ·have:=aCz .nil p q (.pointer none) w rfl rfl rfl hw;have h0:inL Tr.nil.toL p q=[]:=rfl;rw[h0]at this;exact this
theorem aLb (F:Fam) (fv:Value) (nm:List UInt8) (p q:Int) (w:World) (hF:F.ok) (h:bA w fv F) (hn:nm.length<=maxLen) (hp: -9223372036854775808<=p/\p<=9223372036854775807) (hq: -9223372036854775808<=q/\q<=9223372036854775807):
  Calls Tryz.prog 20 #[fv,nmV nm,.int .i64 p,.int .i64 q] w fun e w'=>∃ sv,e= .returned (.tuple #[sv,.int .i64 (fU F nm p q).2])/\aG w' w.heap.size sv (fU F nm p q).1/\Below w.heap.size w w':=by
 obtain ⟨a,c,mb,rfl,hr,ts,hts,hT⟩:=h;have hb0:=(Below.refl w.heap.size w).bMq (.cells #[.slice a F.N c,.map mb] 46);have HFI:=hid (wJ a F.N c mb ts nm p q _ (hT.keep hb0) hn (sI hF hts) hp);obtain⟨v1,e1,L,hfc,hrf,hcall⟩:∃ (v1:VT) (e1:Int) (L:List E),mG ts nm p q=(v1.val,e1)/\fU F nm p q=(L,e1)/\L.length<=65536/\ ∀w',Below w.heap.size w w'->Calls Tryz.prog 62 #[.agg #[.pointer v1.a],.int .i64 p,.int .i64 q] w' (aEz w' L):=by
  unfold fU mG;rw[<-hts,oL]
  cases hg:nN ts nm with
  |none=>exact⟨⟨[],0,0,none,.nil⟩,9,[],rfl,rfl,by simp,fun w' _=>aJu p q w' hp hq⟩
  | some v=>
   have hm:=(mF hg).1;have hk:=RdV.fit hF hts v hm;cases hib:inB p q v.n
   ·have h1:inB p q v.vol.n=false:=hib;simp only[Option.map_some,h1,if_true];exact⟨⟨[],0,0,none,.nil⟩,2,[],by simp[hib],rfl,by simp,fun w' _=>aJu p q w' hp hq⟩
   ·have h1:inB p q v.vol.n=true:=hib;simp only[Option.map_some,h1,Bool.true_eq_false,if_false];exact⟨v,0,_,by simp[hib],rfl,Nat.le_trans (nK _ p q (aK hk.valid)).1 hk.short.1,fun w' hb=>aCz v.t p q (.pointer v.a) w' (aF.keep hb v.t (hT.1 v hm)) hk.valid hk.norm (aHa h1 hk.n2)⟩
 rw[hfc]at HFI;rw[hrf];have HC:=hid hcall;have HB0:=hid hb0;clear hr hT hb0 hts hfc hrf hcall;go_enter Tryz.func20,Tryz.ntmps20;go_wp2_with fail;refine HFI.o.mono ?_;rintro e w1 ⟨rfl,hb⟩;have HB:=hid ((HB0.o.on hb).bMq (.cells #[.int .i64 v1.n,.int .i64 v1.r,.pointer v1.a] 139));clear hb;go_wp2_with fail;refine(HC.o.2 _ HB.o).mono ?_;rintro e w2 ⟨sv,rfl,ho,hb2⟩;obtain⟨sa,sc,rfl,_⟩:=ho.rd (by have:=HC.o.1;omega);have HB2:=hid (HB.o.on hb2);have HO:=hid (aG.mono ho HB.o.size);clear hb2 ho;go_wp2_with fail;go_ret2;exact⟨_,rfl,HO.o,HB2.o⟩
end Go.Proofs.YtaiklhbakldfhaaGreat
