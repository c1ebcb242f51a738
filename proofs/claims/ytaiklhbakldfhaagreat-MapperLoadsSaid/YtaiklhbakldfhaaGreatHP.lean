/-
  tegularef36: Counts.
  Boxes of two cells that hold a family; what a store to one leaves alone.
  tegularef36: freed, inside, Free.
  Conditions: as each theorem says.
-/
import Derived.Test.YtaiklhbakldfhaaGreatGR
import Derived.Test.YtaiklhbakldfhaaGreatGG
import Derived.Test.YtaiklhbakldfhaaGreatHA
import Derived.Test.YtaiklhbakldfhaaGreatGH
namespace Go.Proofs.YtaiklhbakldfhaaGreat
open Go.Lib (hid)
set_option linter.unusedSimpArgs false
set_option linter.unusedVariables false
set_option maxRecDepth 100000
set_option maxHeartbeats 16000000
open Go.RowKit
structure bKc (N:Nat) (ts:List RT):Prop where
 hN:N<=65536
 few:ts.length<=33
 perm:∀ x∈ts,aS N x.l=true
 wf:∀ x∈ts,wfL x.l
 short:∀ x∈ts,x.l.length<=65536
abbrev rT (N:Nat) (ts:List RT):List Int:=sW N (ts.map RT.vol)
theorem aHp (N:Nat) (ts:List RT) (k:Nat) (h:k<ts.length):rT N (ts.take (k+1))=eZ (rT N (ts.take k)) ts[k].l 1:=by
 have:=aWl N (ts.map RT.vol) k (by simpa using h);rw[<-List.map_take,<-List.map_take]at this;refine(show rT N (ts.take (k+1))=_ from this).trans ?_;rw[List.getElem_map];rfl
theorem bKc.range {N:Nat} {ts:List RT} (h:bKc N ts) (k:Nat):inR 0 1000000000 (rT N (ts.take k)):=by
 have h0:(List.replicate N (0:Int)).length=N:=by simp
 have:∀ k,k<=ts.length->inR 0 (65536*k) (rT N (ts.take k)):=by
  intro k
  induction k with
  |zero=>intro _;simp only[rT,List.take_zero,List.map_nil,sW,List.foldl_nil];intro x hx;rw[List.mem_replicate]at hx;omega
  | succ k ih=>
   intro hk;rw[aHp N ts k (by omega)];have h1:=bGx (C:=rT N (ts.take k)) (l:=ts[k].l) (by rw[mI];exact h.perm _ (List.getElem_mem (by omega))) (ih (by omega));have:=h.short _ (List.getElem_mem (show k<ts.length by omega));exact gN h1 (by omega) (by omega)
 have hf:=h.few;by_cases hk:k<=ts.length
 ·exact gN (this k hk) (by omega) (by omega)
 ·rw[List.take_of_length_le (by omega),<-List.take_length (l:=ts)];exact gN (this ts.length (Nat.le_refl _)) (by omega) (by omega)
theorem aUg (N:Nat) (ts:List RT) (a:Option Addr) (c:Nat) (w:World) (hr:RdR w a ts) (hl:nV w ts) (hf:bKc N ts):
  Calls Tryz.prog 104 #[.agg #[.int .i64 N,.slice a ts.length c]] w fun e w'=>∃ v,e= .returned v/\dE w' w.heap.size v (rT N ts)/\Below w.heap.size w w':=by
 have hlen:=hr.1;have hb:=(Below.refl w.heap.size w).bMq (.cells #[.int .i64 N,.slice a ts.length c] 31);have HB:=hid hb;have HR:=hid (hr.keep hb);have HL:=hid (hl.keep hb);have HF:=hid hf;clear hb hr hl hf;go_enter Tryz.func104,Tryz.ntmps104;go_wp2_with fail;refine(bDp N _ HF.o.hN).mono ?_;rintro e w1 ⟨v,rfl,ho,hb1⟩;obtain⟨a1,c1,rfl,_⟩:=ho.rd (by simpa using HF.o.hN);have HO:=hid ho;have hB1:=HB.o.on hb1;have HB1:=hid hB1;have HC:Hid (w1.cell? ⟨w.heap.size,1,none⟩=some (.slice a ts.length c)):=hid (hb1.keep (by simp));have HR1:=hid (HR.o.keep hb1);have HL1:=hid (HL.o.keep hb1);clear ho hb1 hB1 HR HL HB;go_wp2_with fail;have HTK:=hid (aHp N ts);have h0:dE w1 w.heap.size (.slice a1 N c1) (rT N (ts.take 0)):=by
  have h9:=HO.o;rw[List.length_replicate]at h9;exact h9.mono (by simp)
 have HL0:=hid (show ∀k,(rT N (ts.take k)).length=N from fun k=>mI _ _);go_loopw [3,5] (fun v i wr=>∃ k:Nat,k<=ts.length/\i= .int .i64 k/\dE wr w.heap.size v (rT N (ts.take k))/\Below w1.heap.size w1 wr) (fun _ i _=>ts.length-(intOf i).toNat)
 case atStart=>exact⟨0,Nat.zero_le _,rfl,h0,Below.refl _ _⟩
 case round=>
  obtain⟨k,hk,rfl,hn,hB⟩:=hrel;have q1:=hB.keep HC.o;have HN:=hid hn;have HBB:=hid hB;by_cases hlt:k<ts.length
  ·obtain⟨b,o,rfl,hat⟩:=(HR1.o.keep hB).at (by omega);have h1:=(hat k _ (List.getElem?_eq_getElem hlt)).c3;have hm:=List.getElem_mem hlt;obtain⟨a3,c3,rfl,hr3⟩:=hn.rd (by rw[HL0.o];exact HF.o.hN);have hAD:=bDx (rT N (ts.take k)) ts[k].l a3 ts[k].a c3 ts[k].c wr hr3 ((HL1.o.keep hB) _ hm) (HF.o.wf _ hm) (by rw[HL0.o];exact HF.o.perm _ hm) (HF.o.range k) (by have:=HF.o.short _ hm;omega);rw[<-HTK.o k hlt]at hAD;have HAD:=hid hAD;generalize ts[k]=x at *;clear hat hm hr3 hAD hn hB h0;go_wp2_with fail;refine HAD.o.mono ?_;rintro e w3 ⟨v3,rfl,ho3,hb3⟩;have HQ:=hid (ho3.mono (HB1.o.on HBB.o).size);have HBB3:=hid (HBB.o.on hb3);clear ho3 hb3;go_wp2_with fail;go_roundw
   case rel=>exact⟨k+1,by omega,by go_num,HQ.o,HBB3.o⟩
   case measure=>simp[intOf];omega
  ·obtain rfl:k=ts.length:=by omega
   rw[List.take_length]at HN;clear hn hB h0;go_wp2;go_ret;exact⟨_,rfl,HN.o,HB1.o.on HBB.o⟩
open Go.RowKit Go.Maps
section
variable {W W':World} {T R:Nat} {t:TypeId} {u v x y:Value}
theorem Bx.rows (h:Bx W T t u v) {a:Option Addr} {ts:List RT} (hr:RdR W a ts):RdR (dN W T x y) a ts:=by
 refine ⟨hr.1,hr.2.imp id fun⟨b,o,ha,hat⟩=>⟨b,o,ha,fun k z hk=> ?_⟩⟩;have q:=hat k z hk;have hne:b≠T:=fun e=>by
  subst e;have h1:=q.c3;rw[h.c2 _ (by omega)]at h1;cases h1
 exact⟨(cO hne).trans q.c0,(cO hne).trans q.c1,(cO hne).trans q.c2,(cO hne).trans q.c3⟩
theorem Bx.famR (h:Bx W T t u v) {gv:Value} {F:Fam} (hf:bI W gv F):bI (dN W T x y) gv F:=by
 obtain⟨a,c,ts,h1,h2,h3,h4⟩:=hf;exact⟨a,c,ts,h1,h.rows h2,fun z hz=>h.rd (h3 z hz),h4⟩
end
theorem RG.bx {w W:World} {R:Nat} (h:RG w W R) {u v:Value} {gv:Value} {F:Fam} (hf:bI W gv F):bI (dN W R u v) gv F:=by
 obtain ⟨a,c,ts,h1,h2,h3,h4⟩:=hf;have k:∀ (b i:Nat) (z:Value),2<=i->W.cell? ⟨b,i,none⟩=some z->b≠R:=fun b i z hi hc e=>by
  subst e;rw[h.r2 _ hi]at hc;cases hc
 refine⟨a,c,ts,h1,⟨h2.1,h2.2.imp id fun⟨b,o,ha,hat⟩=>⟨b,o,ha,fun j z hj=> ?_⟩⟩,fun z hz=>⟨(h3 z hz).1,(h3 z hz).2.imp id fun⟨b,o,ha,hat⟩=>⟨b,o,ha,fun j e hj=> ?_⟩⟩,h4⟩
 ·have q:=hat j z hj;have hne:=k b _ _ (by omega) q.c3;exact⟨(cO hne).trans q.c0,(cO hne).trans q.c1,(cO hne).trans q.c2,(cO hne).trans q.c3⟩
 ·have q:=hat j e hj;have hne:=k b _ _ (by omega) q.s;exact⟨(cO hne).trans q.a,(cO hne).trans q.n,(cO hne).trans q.s⟩
theorem aBv {x:E} (h:okB x=true):x.wf:=by
 obtain⟨c1,c2,c3,c4,c5⟩:=(aD x).1 h;unfold E.wf;omega
theorem bLk {F:Fam} (hF:F.ok) {ts:List RT} (h:ts.map RT.vol=F.vs):bKc F.N ts:=by
 have hm:∀ x∈ts,x.vol∈F.vs:=fun x hx=>by rw[<-h];exact List.mem_map_of_mem hx
 have hl:=congrArg List.length h;rw[List.length_map]at hl;exact⟨hF.hN,by have:=hF.few;omega,fun x hx=>(hF.vol _ (hm x hx)).perm,fun x hx y hy=>aBv (aK (hF.vol _ (hm x hx)).valid y hy),fun x hx=>(hF.vol _ (hm x hx)).short.1⟩
theorem sH {F:Fam} (hF:F.ok) {ts:List RT} (h:ts.map RT.vol=F.vs):zU ts:=by
 have:=hF.sorted;rw[<-h]at this;exact List.pairwise_map.1 this
theorem jN {F:Fam} (hF:F.ok) {ts:List RT} (h:ts.map RT.vol=F.vs):ts.length=F.vs.length/\ts.length<=32:=by
 have hl:=congrArg List.length h;rw[List.length_map]at hl;exact⟨hl,by have:=hF.few;omega⟩
theorem counts_of {F:Fam} {ts:List RT} (h:ts.map RT.vol=F.vs):rT F.N ts=F.C:=by
 unfold rT Fam.C;rw[h]
theorem mO {F:Fam} {ts:List RT} (h:ts.map RT.vol=F.vs) {nm:List UInt8} (hn:aP F.vs nm=none):atC ts nm= -1:=by
 refine aSp fun x hx=> ?_;have:x.nm≠nm:=iY.1 hn x.vol (by rw[<-h];exact List.mem_map_of_mem hx)
 simpa using this
theorem gQ {F:Fam} {ts:List RT} (h:ts.map RT.vol=F.vs) {nm:List UInt8} {v:Vol} (hn:aP F.vs nm=some v):∃ (k:Nat) (hk:k<ts.length),atC ts nm=k/\ts[k].vol=v/\ts[k].nm=nm:=by
 cases hp:aMo ts nm with
 | none=>
  exfalso;have h1:=List.findIdx?_eq_none_iff.1 hp;obtain⟨h2,h3⟩:=aH hn;rw[<-h]at h2;obtain⟨x,hx,rfl⟩:=List.mem_map.1 h2;have h3:x.nm=nm:=h3;have:=h1 x hx;rw[h3]at this;simp at this
 | some k=>
  obtain⟨hk,h1,h2⟩:=List.findIdx?_eq_some_iff_getElem.1 hp;have h3:ts[k].nm=nm:=by simpa using h1
  refine ⟨k,hk,by simp[atC,hp],?_,h3⟩;have h4:aP F.vs nm=some ts[k].vol:=by
   rw [<-h];unfold aP;rw[List.find?_map];have:ts.find? ((fun w:Vol=>w.nm==nm) ∘ RT.vol)=some ts[k]:=by
    refine List.find?_eq_some_iff_getElem.2 ⟨by show(ts[k].nm==nm)=true;simpa using h3,k,hk,rfl,fun j hj=> ?_⟩;have:=h2 j hj;show(!(ts[j].nm==nm))=true
    simpa using this
   rw[this];rfl
  rw[hn]at h4;exact(Option.some.inj h4).symm
open Go.RowKit Go.Maps
theorem tL (F:Fam) (C:List Int) (hC:F.C=C) (ts:List RT) (a:Option Addr) (c:Nat) (w:World) (hF:F.ok) (h:ts.map RT.vol=F.vs) (hr:RdR w a ts) (hl:nV w ts):
  Calls Tryz.prog 104 #[.agg #[.int .i64 F.N,.slice a ts.length c]] w fun e w'=>∃ v,e= .returned v/\dE w' w.heap.size v C/\Below w.heap.size w w':=by
 rw[<-hC,<-counts_of h];exact aUg F.N ts a c w hr hl (bLk hF h)
structure B22 (w W:World) (a ag:Option Addr) (n ng:Int) (m mg c cg:Nat):Prop where
 a0:W.cell? ⟨w.heap.size,0,none⟩=some (.int .i64 n)
 a1:W.cell? ⟨w.heap.size,1,none⟩=some (.slice a m c)
 b0:W.cell? ⟨w.heap.size+1,0,none⟩=some (.int .i64 ng)
 b1:W.cell? ⟨w.heap.size+1,1,none⟩=some (.slice ag mg cg)
 B:Below w.heap.size w W
theorem B22.later {w W W':World} {a ag:Option Addr} {n ng:Int} {m mg c cg:Nat} (h:B22 w W a ag n ng m mg c cg) (hb:Below W.heap.size W W'):B22 w W' a ag n ng m mg c cg:=
 ⟨hb.keep h.a0,hb.keep h.a1,hb.keep h.b0,hb.keep h.b1,h.B.on hb⟩
theorem B22.new (w:World) (a ag:Option Addr) (n ng:Int) (m mg c cg:Nat) (t:TypeId):B22 w ((w.alloc (.cells #[.int .i64 n,.slice a m c] t)).alloc (.cells #[.int .i64 ng,.slice ag mg cg] t)) a ag n ng m mg c cg:=by
 have k:∀ i,((w.alloc (.cells #[.int .i64 n,.slice a m c] t)).alloc (.cells #[.int .i64 ng,.slice ag mg cg] t)).cell? ⟨w.heap.size,i,none⟩=(w.alloc (.cells #[.int .i64 n,.slice a m c] t)).cell? ⟨w.heap.size,i,none⟩:=fun i=>World.cell?_alloc_lt _ _ _ (by simp);obtain⟨h1,h2,_⟩:=new2 (w.alloc (.cells #[.int .i64 n,.slice a m c] t)) (w.heap.size+1) (by simp) (.int .i64 ng) (.slice ag mg cg) t;exact⟨(k 0).trans (by simp),(k 1).trans (by simp),h1,h2,((Below.refl _ _).bMq _).bMq _⟩
theorem aBo (F G:Fam) (tf tg:List RT) (a ag:Option Addr) (c cg:Nat) (w:World) (hF:F.ok) (hG:G.ok) (hN:G.N=F.N) (hf:tf.map RT.vol=F.vs) (hg:tg.map RT.vol=G.vs)
  (hr:RdR w a tf) (hl:nV w tf) (hrg:RdR w ag tg) (hlg:nV w tg):
  Calls Tryz.prog 150 #[.agg #[.int .i64 F.N,.slice a tf.length c],.agg #[.int .i64 G.N,.slice ag tg.length cg]] w fun e w'=>∃ v,e= .returned v/\aG w' w.heap.size v (dS F G)/\Below w.heap.size w w':=by
 obtain⟨i0,hi,hz0,hz1,hz2⟩:=info_parts kV;have H0:=hid (B22.new w a ag F.N G.N tf.length tg.length c cg 31);have hk:=((Below.refl w.heap.size w).bMq (.cells #[.int .i64 F.N,.slice a tf.length c] 31)).bMq (.cells #[.int .i64 G.N,.slice ag tg.length cg] 31);have HR:=hid (hr.keep hk);have HL:=hid (hl.keep hk);have HRG:=hid (hrg.keep hk);have HLG:=hid (hlg.keep hk);have HF:=hid hF;have HG:=hid hG;have HNN:=hid hN;have HVF:=hid hf;have HVG:=hid hg;have hlf:=hr.1;have hlg2:=hrg.1;have hNN:=hF.hN;obtain⟨CF,hCF⟩:∃ C,F.C=C:=⟨_,rfl⟩;obtain⟨CG,hCG⟩:∃ C,G.C=C:=⟨_,rfl⟩;have hl1:CF.length=F.N:=by rw[<-hCF,F.bMs]
 have hl2:CG.length=CF.length:=by rw[hl1,<-hN,<-hCG,G.bMs]
 have HFR:Hid (dS F G=bT (picks (mW CF CG) CF.length)):=hid (by unfold dS;rw[hCF,hCG,hl1]);have HCF:=hid hCF;have HCG:=hid hCG;clear hCF hCG;clear hk hr hl hrg hlg hF hG hN hf hg;go_enter Tryz.func150,Tryz.ntmps150;go_wp2_with fail;generalize (w.alloc (.cells #[.int .i64 F.N,.slice a tf.length c] 31)).alloc (.cells #[.int .i64 G.N,.slice ag tg.length cg] 31)=w0 at *;have HH:=hid (H0.o.later (Below.refl _ _).drew);have HBB:=hid (Below.refl w0.heap.size w0).drew;have a0:=HH.o.a0;have a1:=HH.o.a1;have b0:=HH.o.b0;have b1:=HH.o.b1
 go_region_law (first
  |(go_simp;go_at_call_of 104 (Value.agg #[.int .i64 F.N,.slice a tf.length c]);refine(tL F CF HCF.o tf a c _ HF.o HVF.o (HR.o.keep HBB.o) (HL.o.keep HBB.o)).mono ?_;rintro e wz ⟨va,rfl,hoa,hba⟩;have HOA:=hid (hoa.mono (Nat.zero_le _));(try(have HOB:=hid (HOB.o.keep hba)));have HBB:=hid (HBB.o.on hba);have HH:=hid (HH.o.later hba);clear a0 a1 b0 b1;have a0:=HH.o.a0;have a1:=HH.o.a1;have b0:=HH.o.b0;have b1:=HH.o.b1)
  |(go_simp;go_at_call_of 104 (Value.agg #[.int .i64 G.N,.slice ag tg.length cg]);refine(tL G CG HCG.o tg ag cg _ HG.o HVG.o (HRG.o.keep HBB.o) (HLG.o.keep HBB.o)).mono ?_;rintro e wz ⟨vb,rfl,hob,hbb⟩;have HOB:=hid (hob.mono (Nat.zero_le _));(try(have HOA:=hid (HOA.o.keep hbb)));have HBB:=hid (HBB.o.on hbb);have HH:=hid (HH.o.later hbb);clear a0 a1 b0 b1;have a0:=HH.o.a0;have a1:=HH.o.a1;have b0:=HH.o.b0;have b1:=HH.o.b1))
 all_goals
  obtain⟨pa,ca,rfl,hra⟩:=HOA.o.rd (by omega);obtain⟨pb,cb,rfl,hrb⟩:=HOB.o.rd (by omega);have HRA:=hid hra;have HRB:=hid hrb;have HWB:=hid (H0.o.B.on ((Below.refl w0.heap.size w0).on HBB.o));clear hra hrb HOA HOB a0 a1 b0 b1 hoa hob hba hbb HH H0 HR HL HRG HLG HVF HVG HF HG;generalize hww:wz=w5 at *;clear hww;go_wp2_with fail;go_loopw [7,8] (fun v i wr=>∃ k:Nat,k<=CF.length/\i= .int .i64 k/\aG wr w5.heap.size v (picks (mW CF CG) k)/\Below w5.heap.size w5 wr) (fun _ i _=>CF.length-(intOf i).toNat)
  case atStart=>exact⟨0,Nat.zero_le _,rfl,aG.nil _ _,Below.refl _ _⟩
  case round=>
   obtain⟨k,hk,rfl,ho,hB⟩:=hrel;by_cases hlt:k<CF.length
   ·obtain ⟨b1,o1,rfl,hat1⟩:=(HRA.o.keep hB).at (by omega);obtain⟨b2,o2,rfl,hat2⟩:=(HRB.o.keep hB).at (by omega);have h1:=hat1 k _ (getD_some CF k hlt);have h2:=hat2 k _ (getD_some CG k (by omega));have hpl:=pV (mW CF CG) k;have hsz:=hB.size;have HO:=hid ho;have HB:=hid hB;have hzb:mW CF CG k=(decide (CG.getD k 0=0)&&decide (0<CF.getD k 0)):=rfl;have hk1:(k:Int)<CG.length:=by omega
    cases hx:mW CF CG k
    ·have HT:=hid (aGb (mW CF CG) k hx);rw[hx]at hzb;have HZ:=hid hzb;generalize CF.getD k 0=x at *;generalize CG.getD k 0=y at *;clear hat1 hat2 ho hB hzb hx;by_cases hx0:0<x
     ·have d1:decide (0<x)=true:=decide_eq_true hx0;have d2:(y==0)=false:=by
       have:=HZ.o;rw[d1,Bool.and_true]at this;have:¬ y=0:=of_decide_eq_false this.symm
       simpa using this
      clear hx0;go_wp2;go_roundw
      case rel=>exact⟨k+1,by omega,by go_num,by rw[HT.o];exact HO.o,HB.o⟩
      case measure=>simp[intOf];omega
     ·have d1:decide (0<x)=false:=decide_eq_false hx0;clear hx0;go_wp2;go_roundw
      case rel=>exact⟨k+1,by omega,by go_num,by rw[HT.o];exact HO.o,HB.o⟩
      case measure=>simp[intOf];omega
    ·have HT:=hid (aJy (mW CF CG) k hx);rw[hx]at hzb;have hb9:=Bool.and_eq_true_iff.1 hzb.symm;have d1:=hb9.2;have d2:CG.getD k 0=0:=of_decide_eq_true hb9.1;rw[d2]at h2;generalize CF.getD k 0=x at *;generalize picks (mW CF CG) k=R at *;clear hat1 hat2 ho hB hzb hx hb9 d2
     go_wp2_with (at_builtin;refine aM _ rfl _ _ 76 rfl w5.heap.size 81 i0 (.agg #[.int .i64 0,.int .i64 0,.int .i64 0]) 3 24 Tryz.underlying76 hi hz0 hz1 hz2 rfl (by decide) _ _ _ rfl (World.ownsRow.alloc HO.o _) ⟨wr.heap.size,0,none⟩ 1 1 (E.cells (single k)) rfl rfl (rF _ _ (by simp) _ _) (bX _) (by first|omega|(simp only[List.length_nil,List.length_append,List.length_cons];omega)) (by first|(simp only[maxLen];omega)|(simp only[maxLen,List.length_nil,List.length_append,List.length_cons];omega)) (by simp only[World.size_alloc];omega) ?_;intro v1 w1 hown1 hgrow1 hwhere1)
     have hB4:=hid ((HB.o.bMq (.cells #[.int .i64 0,.int .i64 1,.int .i64 k] 81)).bMu hgrow1 fun j hj=>(HO.o.lt j hj).1);have HO4:=hid (aG.snoc hown1 (by simp));clear hown1 hgrow1 hwhere1;go_roundw
     case rel=>exact⟨k+1,by omega,by go_num,by rw[HT.o];exact HO4.o,hB4.o⟩
     case measure=>simp[intOf];omega
   ·obtain rfl:k=CF.length:=by omega
    have hpl:=pV (mW CF CG) CF.length;obtain⟨a9,c9,rfl,hr9⟩:=ho.rd (by omega);have HW:=hid (aPq (mW CF CG) CF.length (by omega));have HFR9:=HFR.o;generalize picks (mW CF CG) CF.length=R at *;have HB9:=hid (HWB.o.on hB);clear ho hB;go_wp2_with fail;refine(aZo R _ _ _ hr9 HW.o).mono ?_;rintro e w6 ⟨v,rfl,ho,hb⟩;have hsz:=HB9.o.size;go_wp2_with fail;go_ret;exact⟨_,rfl,by rw[HFR9];exact ho.mono hsz,HB9.o.on hb⟩
end Go.Proofs.YtaiklhbakldfhaaGreat
