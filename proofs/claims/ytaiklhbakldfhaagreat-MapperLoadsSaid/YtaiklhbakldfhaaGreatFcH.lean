/-
  tegularef36: Delete.
  Conditions: as each theorem says.
-/
import Derived.Test.YtaiklhbakldfhaaGreatGM
import Derived.Test.YtaiklhbakldfhaaGreatHP
import Derived.Test.YtaiklhbakldfhaaGreatGD
import Derived.Deep.CutRange
import Derived.Deep.RegionHeld3
namespace Go.Proofs.YtaiklhbakldfhaaGreat
open Go.Lib (hid)
set_option linter.unusedSimpArgs false
set_option linter.unusedVariables false
set_option maxRecDepth 100000
set_option maxHeartbeats 16000000
open Go.RowKit Go.Maps
theorem RdR.source {w:World} {a:Option Addr} {l:List RT} (h:RdR w a l):w.source 4 a l.length (fF l):=by
 refine⟨oC l,jP l,?_⟩;rcases h.2 with rfl|⟨b,o,rfl,hat⟩
 ·cases a with
  |none=>exact .inl ⟨rfl,rfl⟩
  |some ad=>exact .inr ⟨ad,rfl,fun j u hu=>by simp[fF]at hu⟩
 ·refine .inr ⟨_,rfl,fun j u hu=> ?_⟩;have hj:j<l.length*4:=by rw[<-oC];exact(List.getElem?_eq_some_iff.1 hu).1
  have hk:j/4<l.length:=by omega
  obtain⟨c1,c2,c3,c4⟩:=aHy l (j/4) _ (List.getElem?_eq_getElem hk);obtain⟨d1,d2,d3,d4⟩:=hat (j/4) _ (List.getElem?_eq_getElem hk);have hadd:(⟨b,o,none⟩:Addr).add j=⟨b,o+j,none⟩:=by unfold Addr.add;split <;> simp_all
  rw[hadd];rcases(by omega:j=j/4*4∨j=j/4*4+1∨j=j/4*4+2∨j=j/4*4+3)with e|e|e|e
  ·rw[e]at hu ⊢;rw[c1]at hu;rw[<-hu,d1]
  ·rw[e]at hu ⊢;rw[c2]at hu;rw[<-hu,<-Nat.add_assoc,d2]
  ·rw[e]at hu ⊢;rw[c3]at hu;rw[<-hu,<-Nat.add_assoc,d3]
  ·rw[e]at hu ⊢;rw[c4]at hu;rw[<-hu,<-Nat.add_assoc,d4]
theorem RdR.take {w:World} {a:Option Addr} {l:List RT} (h:RdR w a l) (k:Nat):RdR w a (l.take k):=by
 refine⟨by have:=h.1;simp;omega,?_⟩;rcases h.2 with rfl|⟨b,o,rfl,hat⟩
 ·exact .inl (by simp)
 ·refine .inr ⟨b,o,rfl,fun j x hj=>hat j x ?_⟩;rw[List.getElem?_take]at hj
  split at hj
  ·exact hj
  ·cases hj
theorem RdR.drop {w:World} {b o:Nat} {l:List RT} (h:RdR w (some ⟨b,o,none⟩) l) (k:Nat):RdR w (some ⟨b,o+k*4,none⟩) (l.drop k):=by
 refine⟨by have:=h.1;simp;omega,?_⟩;rcases h.2 with rfl|⟨b',o',he,hat⟩
 ·exact .inl (by simp)
 ·injection he with he;injection he with he1 he2;subst he1 he2;refine .inr ⟨b,o+k*4,rfl,fun j x hj=> ?_⟩;rw[List.getElem?_drop]at hj;obtain⟨d1,d2,d3,d4⟩:=hat (k+j) x hj;have e:o+k*4+j*4=o+(k+j)*4:=by omega
  exact⟨by rw[e];exact d1,by rw[e];exact d2,by rw[e];exact d3,by rw[e];exact d4⟩
theorem jA.empty (w:World) (B:Nat) (hB:B<=w.heap.size):jA (w.alloc (.cells #[] 153)) B (.slice (some ⟨w.heap.size,0,none⟩) 0 0) []:=
 World.ownsRow_lit w #[] 0 hB (by simp) rfl
theorem jA.append {w:World} {B n:Nat} {v:Value} {l r:List RT} (h:w.ownsRow B 153 4 v n (fF l++fF r)) (hn:n=l.length+r.length):jA w B v (l++r):=by
 subst hn;unfold jA;rw[yL,List.length_append];exact h
theorem jA.fresh (V:World) (G:Nat) (hG:V.heap.size=G) (B:Nat) (hB:B<=G):jA (V.alloc (.cells #[] 153)) B (.slice (some ⟨G,0,none⟩) 0 0) []:=by
 subst hG;exact jA.empty V B hB
theorem RdR.news {w:World} {ad:Addr} {l:List RT} (h:RdR w (some ad) l):∀ j u,(fF l)[j]? =some u->w.cell? (ad.add j)=some u:=by
 obtain⟨_,_,h1|⟨ad',h1,h2⟩⟩:=h.source
 ·cases h1.1
 ·injection h1 with h1;subst h1;exact h2
def qQ (ts:List RT) (k:Nat):List RT:=ts.take k++ts.drop (k+1)
theorem aPw {ts:List RT} {k:Nat} (hs:zU ts) (hk:k<ts.length):(qQ ts k).map RT.vol=bP (ts.map RT.vol) ts[k].nm:=by
 have h1:ts=ts.take k++ts[k]::ts.drop (k+1):=by rw[List.getElem_cons_drop,List.take_append_drop]
 have h2:=hs;rw[h1]at h2;obtain⟨h3,h4,h5⟩:=List.pairwise_append.1 h2;have h6:=(List.pairwise_cons.1 h4).1;have e:∀ l:List RT,(∀x∈l,x.nm≠ts[k].nm)->bP (l.map RT.vol) ts[k].nm=l.map RT.vol:=fun l hl=>by
  unfold bP;rw[List.filter_eq_self];intro x hx;obtain⟨y,hy,rfl⟩:=List.mem_map.1 hx;have:y.vol.nm≠ts[k].nm:=hl y hy
  simpa using this
 have e1:=e (ts.take k) fun x hx he=>by
  have:=h5 x hx ts[k] List.mem_cons_self;rw[he,WideAt.bytes_irrefl]at this;cases this
 have e2:=e (ts.drop (k+1)) fun x hx he=>by
  have:=h6 x hx;rw[he,WideAt.bytes_irrefl]at this;cases this
 have h7:bP (ts.map RT.vol) ts[k].nm=bP ((ts.take k).map RT.vol) ts[k].nm++bP ((ts.drop (k+1)).map RT.vol) ts[k].nm:=by
  generalize ts[k]=x at *;rw[h1,List.map_append,List.map_cons];unfold bP;rw[List.filter_append,List.filter_cons_of_neg (by simp[RT.vol]),<-h1]
 rw[h7,e1,e2];unfold qQ;rw[List.map_append]
theorem bGj {F:Fam} {ts:List RT} {k:Nat} {w:World} {a:Option Addr} {c:Nat} {nm:List UInt8} (hF:F.ok) (h:ts.map RT.vol=F.vs) (hk:k<ts.length) (hnm:ts[k].nm=nm) (hr:RdR w a (qQ ts k)) (hl:nV w ts) (hc:(qQ ts k).length<=c):
  bI w (.agg #[.int .i64 F.N,.slice a (qQ ts k).length c]) ⟨F.N,bP F.vs nm⟩:=
 ⟨a,c,qQ ts k,rfl,hr,fun x hx=>hl x (by
  rcases List.mem_append.1 hx with hx|hx
  ·exact List.mem_of_mem_take hx
  ·exact List.mem_of_mem_drop hx),by rw[aPw (sH hF h) hk,h,hnm],hc⟩
def aIl (w:World) (G:Fam) (L:List E) (e0:Int) (e:Ending) (w':World):Prop:= ∃gv sv,e= .returned (.tuple #[gv,sv,.int .i64 e0])/\bI w' gv G/\aG w' w.heap.size sv L/\Below w.heap.size w w'
def bHv (w:World) (a:Option Addr) (n:Int) (m c R:Nat) (l:List RT) (p:Value) (W:World):Prop:=
 ∃T a' c',p= .pointer (some ⟨T,0,none⟩)/\Bx W T 31 (.int .i64 n) (.slice a' l.length c')/\RdR W a' l/\l.length<=c'/\GH w W a n m c R/\T≠R
theorem aUe (F:Fam) (gv:Value) (nm:List UInt8) (w:World) (hF:F.ok) (h:bI w gv F) (hnm:nm.length<=maxLen):
  Calls Tryz.prog 153 #[gv,nmV nm] w (aIl w (bC F nm).1 (bC F nm).2.1 (bC F nm).2.2):=by
 obtain⟨a,c,ts,rfl,hr,hl,hts,hcap⟩:=h;have h32:=(jN hF hts).2;have HH:=hid (GH.init w a F.N ts.length c);have HR:=hid hr;have HL:=hid hl;have HTS:=hid hts;have HF:=hid hF;clear hr hl hts hF
 cases hg:aP F.vs nm with
 | none=>
  rw[show bC F nm=(dR,[],9) by simp[bC,hg]];have HAT:=hid (mO HTS.o hg);clear hg;go_enter Tryz.func153,Tryz.ntmps153;go_wp2_with fail;refine(gU F.N ts nm a c _ (HR.o.keep HH.o.rg.bel) _ HAT.o).mono ?_;rintro e w1 ⟨rfl,hb⟩;have HH:=hid (HH.o.later hb);clear hb;have b0:=HH.o.b0;have b1:=HH.o.b1;have r0:=HH.o.rg.r0;have r1:=HH.o.rg.r1;have f0:=HH.o.rg.f0;have f1:=HH.o.rg.f1;go_wp2_with fail;obtain⟨j0,j1⟩:=HH.o.rg.cells (u:= .int .i64 0) (v:= .slice none 0 0)
  (try simp only[Exit.inBlock,Exit.then])
  refine bodyPost_ret (v:= .tuple #[.agg #[.int .i64 0,.slice none 0 0],.slice none 0 0,.int .i64 9]) (by first|(rw[results_cell_tmp rfl];go_simp;done)|(rw[aB rfl];go_simp;done)|(rw[aA rfl];go_simp;done)) rfl ?_;exact⟨_,_,rfl,bI.empty _ 0,aG.nil _ _,HH.o.rg.below⟩
 | some v=>
  rw[show bC F nm=(⟨F.N,bP F.vs nm⟩,dS F ⟨F.N,bP F.vs nm⟩,0) by simp[bC,hg]];obtain⟨k,hk,hat,hv,hkn⟩:=gQ HTS.o hg;have HAT:=hid hat;have HKN:=hid hkn;have hokd:(⟨F.N,bP F.vs nm⟩:Fam).ok:=by have:=xD HF.o nm;simpa [bC,hg]using this
  have HOKD:=hid hokd;clear hg hat hv hkn hokd;go_enter Tryz.func153,Tryz.ntmps153;go_wp2_with fail;refine(gU F.N ts nm a c _ (HR.o.keep HH.o.rg.bel) _ HAT.o).mono ?_;rintro e w1 ⟨rfl,hb⟩;have HH:=hid (HH.o.later hb);clear hb;have b0:=HH.o.b0;have b1:=HH.o.b1;have r0:=HH.o.rg.r0;have r1:=HH.o.rg.r1;have f0:=HH.o.rg.f0;have f1:=HH.o.rg.f1;go_upto_region 4 with fail;obtain⟨i0,hi,hz0,hz1,hz2⟩:=info_parts aVo;obtain⟨b,o,rfl,_⟩:=(HR.o.keep HH.o.rg.bel).at (by omega);have HRT:=hid ((HR.o.keep HH.o.rg.bel).take k);have HRD:=hid ((HR.o.keep HH.o.rg.bel).drop (k+1));have hkc:(k:Int)<=c:=by omega
  have hk0:(0:Int)<=k:=by omega
  have hk1:(k:Int)+1<=ts.length:=by omega
  go_cut [8] from 8 to 29 (fun p wx=>bHv w (some ⟨b,o,none⟩) F.N ts.length c (w.heap.size+1) (qQ ts k) p wx)
  case first=>
   have b0:=(HH.o.later (Below.refl _ _).drew).b0;have b1:=(HH.o.later (Below.refl _ _).drew).b1;have hk2:(0:Int)<=(k:Int)+1:=by omega
   obtain ⟨ad9,had9,hrd9⟩:∃ ad:Addr,(if c=k+1 then some (⟨b,o,none⟩:Addr)else some ⟨b,o+(k+1)*4,none⟩)=some ad/\RdR w1 (some ad) (ts.drop (k+1)):=by
    by_cases hc9:c=k+1
    ·refine⟨⟨b,o,none⟩,by rw[if_pos hc9],?_⟩;rw[List.drop_of_length_le (by omega)];exact⟨by simp,.inl rfl⟩
    ·exact⟨_,by rw[if_neg hc9],HRD.o⟩
   have HRD9:=hid hrd9;clear hrd9;have HG0:=hid (HH.o.later (Below.refl _ _).drew);have hw1:IntKind.i64.wrap ((k:Int)+1)=(k:Int)+1:=IntWalk.i64_in _ (by omega);have h9d:w1.drew.heap.size=w1.heap.size:=rfl
   go_region_held3 (fun w'=>w'.cell? ⟨w.heap.size,0,none⟩=some (.int .i64 F.N)/\w'.cell? ⟨w.heap.size,1,none⟩=some (.slice (some ⟨b,o,none⟩) ts.length c)/\Below w1.drew.heap.size w1.drew w')
    (first
     |exact⟨HG0.o.b0,HG0.o.b1,Below.refl _ _⟩
     |(have hH:= ‹_/\_/\Below w1.drew.heap.size w1.drew _›;first|exact⟨(HG0.o.later (HB3.o.bMq _)).b0,(HG0.o.later (HB3.o.bMq _)).b1,HB3.o.bMq _⟩|(have hz2:=HB2.o.size;exact⟨(HG0.o.later ((HB3.o.setCell (by simp only;omega) _).setCell (by simp only;omega) _)).b0,(HG0.o.later ((HB3.o.setCell (by simp only;omega) _).setCell (by simp only;omega) _)).b1,(HB3.o.setCell (by simp only;omega) _).setCell (by simp only;omega) _⟩)|exact⟨(HG0.o.later (hH.2.2.bMq _)).b0,(HG0.o.later (hH.2.2.bMq _)).b1,hH.2.2.bMq _⟩|exact⟨(HG0.o.later HB3.o).b0,(HG0.o.later HB3.o).b1,HB3.o⟩|exact⟨(HG0.o.later HB2.o).b0,(HG0.o.later HB2.o).b1,HB2.o⟩))
    (first
    |(refine gT _ (by rfl) (.tmp 17) (.tmp 21) 29 (by rfl) w1.heap.size 153 i0 (.agg #[.string ⟨#[]⟩,.int .i64 0,.int .i64 0,.slice none 0 0]) 4 56 Tryz.underlying29 hi hz0 hz1 hz2 rfl (by decide) (.slice (some ⟨_,0,none⟩) 0 0) 0 (fF []) (by rfl) (by first|exact jA.keep (jA.fresh w1 _ rfl _ (Nat.le_refl _)) (Below.refl _ _).drew|exact jA.keep (jA.fresh w1 _ rfl _ (Nat.le_refl _)) ((Below.refl _ _).bMq _).drew|exact jA.keep (jA.fresh (w1.alloc _) (w1.heap.size+1) (by simp) _ (by omega)) (Below.refl _ _).drew|(trace_state;sorry)) ⟨b,o,none⟩ k c (fF (ts.take k)) (by rfl) (by rw[oC,List.length_take];first|omega|(trace_state;sorry)) (by first|exact RdR.news (HRT.o.keep (((Below.refl _ _).drew.bMq _).bMq _))|exact RdR.news (HRT.o.keep ((Below.refl _ _).drew.bMq _))|(trace_state;sorry)) (jP _) (by omega) (by simp only[maxLen];omega) (by first|omega|(simp;done)|(simp;omega)|(trace_state;sorry)) ?_;intro v1 w2 hown1 hgrow1 hwhere1;have HB2:Hid (Below w1.drew.heap.size w1.drew w2):=hid (Below.bMu (by first|exact(Below.refl _ _).bMq _|exact((Below.refl _ _).bMq _).bMq _|(trace_state;sorry)) hgrow1 (by intro j hj;have h9:w1.drew.heap.size=w1.heap.size:=rfl;first|(simp[Value.ownBlock]at hj;omega)|(trace_state;sorry)));have HO1:=hid (jA.append (l:=[]) (r:=ts.take k) hown1 (by rw[List.length_take,List.length_nil];first|omega|(trace_state;sorry)));have b0:=(HG0.o.later HB2.o).b0;have b1:=(HG0.o.later HB2.o).b1;(try(have HBX:Hid (Bx w2 w1.heap.size 31 (.int .i64 0) (.slice none 0 0)/\v1.ownBlock≠some w1.heap.size):=hid ⟨Bx.grown (((Bx.new w1 _ rfl (.int .i64 0) (.slice none 0 0) 31).later ((Below.refl _ _).bMq (.cells #[] 153))).later (Below.refl _ _).drew) hgrow1 (by simp[Value.ownBlock]),by rcases hwhere1 with h|h <;> rw[h] <;> simp[Value.ownBlock] <;> omega⟩));(try(have HBX:Hid (Bx w2 (w1.heap.size+1) 31 (.int .i64 0) (.slice none 0 0)/\v1.ownBlock≠some (w1.heap.size+1)):=hid ⟨Bx.grown ((Bx.new (w1.alloc (.cells #[] 153)) (w1.heap.size+1) (by simp) (.int .i64 0) (.slice none 0 0) 31).later (Below.refl _ _).drew) hgrow1 (by simp[Value.ownBlock]),by rcases hwhere1 with h|h <;> rw[h] <;> simp[Value.ownBlock] <;> omega⟩)))
    |(refine gT _ (by rfl) (.tmp 22) (.tmp 27) 29 (by rfl) w1.heap.size 153 i0 (.agg #[.string ⟨#[]⟩,.int .i64 0,.int .i64 0,.slice none 0 0]) 4 56 Tryz.underlying29 hi hz0 hz1 hz2 rfl (by decide) v1 _ (fF ([]++ts.take k)) (by rfl) (by first|exact HO1.o|exact HO1.o.keep ((Below.refl _ _).bMq _)|(trace_state;sorry)) ad9 (ts.length-(k+1)) (c-(k+1)) (fF (ts.drop (k+1))) (by first|rfl|(trace_state;sorry)) (by rw[oC,List.length_drop]) (by first|exact RdR.news (HRD9.o.keep ((Below.refl _ _).drew.on HB2.o))|exact RdR.news (HRD9.o.keep (((Below.refl _ _).drew.on HB2.o).bMq _))|(trace_state;sorry)) (jP _) (by rw[List.length_append,List.length_take,List.length_nil];first|omega|(trace_state;sorry)) (by rw[List.length_append,List.length_take,List.length_nil];simp only[maxLen];first|omega|(trace_state;sorry)) (by have:=HB2.o.size;have:w1.drew.heap.size=w1.heap.size:=rfl;first|omega|(simp;omega)|(trace_state;sorry)) ?_;intro v2 w3 hown2 hgrow2 hwhere2;have hO2:jA w3 w1.heap.size v2 (qQ ts k):=jA.append (l:=[]++ts.take k) (r:=ts.drop (k+1)) hown2 (by rw[List.length_drop]);obtain⟨va,vc,hv2,hrd2⟩:=hO2.rd (by unfold qQ;rw[List.length_append,List.length_take,List.length_drop];omega);subst hv2;have HO2:=hid hO2;have HR2:=hid hrd2;clear hO2 hrd2;have HB3:Hid (Below w1.drew.heap.size w1.drew w3):=hid (Below.bMu (by first|exact HB2.o|exact HB2.o.bMq _|(trace_state;sorry)) hgrow2 (fun j hj=>(HO1.o.lt j hj).1));(try(have HBX:=hid (HBX.o.1.grown hgrow2 HBX.o.2)));(try(have HBX:=hid (Bx.grown (Bx.new w2 _ rfl (.int .i64 0) (.slice none 0 0) 31) hgrow2 (fun e=>by have:=(HO1.o.lt _ e).2;omega))));(try(have t0:=HBX.o.c0;have t1:=HBX.o.c1;have t2:=HBX.o.f0;have t3:=HBX.o.f1))))
   ·have HQ:Hid (bHv w (some ⟨b,o,none⟩) F.N ts.length c (w.heap.size+1) (qQ ts k) (.pointer (some ⟨w3.heap.size,0,none⟩)) (w3.alloc (.cells #[.int .i64 F.N,.slice va (qQ ts k).length vc] 31))):=
     hid ⟨_,va,vc,rfl,Bx.new w3 _ rfl _ _ _,HR2.o.keep ((Below.refl _ _).bMq _),HO2.o.cap,(HG0.o.later HB3.o).alloc _ _,by have:=(HG0.o.later HB3.o).rg.lt;omega⟩
    go_wp2_with fail;go_meet;exact HQ.o
   ·have hz2:=HB2.o.size;have hR:=HG0.o.rg.lt;have hT:w.heap.size+1<w2.heap.size:=by omega
    have HQ:Hid (bHv w (some ⟨b,o,none⟩) F.N ts.length c (w.heap.size+1) (qQ ts k) (.pointer (some ⟨w2.heap.size,0,none⟩)) (dN w3 (w2.heap.size) (.int .i64 F.N) (.slice va (qQ ts k).length vc))):=hid ⟨_,va,vc,rfl,HBX.o.put _ _,HBX.o.rows HR2.o,HO2.o.cap,((HG0.o.later HB3.o).bMx hT).bMx hT,by omega⟩;clear t0 t1 t2 t3;go_wp2_with fail;go_meet;exact HQ.o
   ·have hR:=HG0.o.rg.lt;have hT:w.heap.size+1<w1.heap.size+1:=by omega
    have HQ:Hid (bHv w (some ⟨b,o,none⟩) F.N ts.length c (w.heap.size+1) (qQ ts k) (.pointer (some ⟨w1.heap.size+1,0,none⟩)) (dN w3 (w1.heap.size+1) (.int .i64 F.N) (.slice va (qQ ts k).length vc))):=hid ⟨_,va,vc,rfl,HBX.o.put _ _,HBX.o.rows HR2.o,HO2.o.cap,((HG0.o.later HB3.o).bMx hT).bMx hT,by omega⟩;clear t0 t1 t2 t3;go_wp2_with fail;go_meet;exact HQ.o
   ·have hR:=HG0.o.rg.lt;have hT:w.heap.size+1<w1.heap.size:=by omega
    have HQ:Hid (bHv w (some ⟨b,o,none⟩) F.N ts.length c (w.heap.size+1) (qQ ts k) (.pointer (some ⟨w1.heap.size,0,none⟩)) (dN w3 (w1.heap.size) (.int .i64 F.N) (.slice va (qQ ts k).length vc))):=hid ⟨_,va,vc,rfl,HBX.o.put _ _,HBX.o.rows HR2.o,HO2.o.cap,((HG0.o.later HB3.o).bMx hT).bMx hT,by omega⟩;clear t0 t1 t2 t3;go_wp2_with fail;go_meet;exact HQ.o
  case rest=>
   obtain ⟨T,a2,c2,rfl,hbx,hr2,hc2,hg2,hne⟩:=hcut;obtain⟨W2,rfl⟩:∃ W2:World,W2=wc:=⟨_,rfl⟩;have hGv:(qQ ts k).map RT.vol=(⟨F.N,bP F.vs nm⟩:Fam).vs:=by
    show _=bP F.vs nm;rw[aPw (sH HF.o HTS.o) hk,HTS.o,HKN.o]
   have HGV:=hid hGv;have HG:=hid (hg2.later (Below.refl _ _).drew);have HX:=hid (hbx.later (Below.refl _ _).drew);have HRR:=hid (hr2.keep (Below.refl _ _).drew);have HC2:=hid hc2;have HNE:=hid hne;have hbw:=HG.o.rg.bel;have HRF:=hid (HR.o.keep hbw);have HLF:=hid (HL.o.keep hbw);have HLG:Hid (nV W2.drew (qQ ts k)):=hid fun x hx=>HLF.o x (by
    rcases List.mem_append.1 hx with hx|hx
    ·exact List.mem_of_mem_take hx
    ·exact List.mem_of_mem_drop hx)
   clear hGv hbx hr2 hc2 hg2 hne hbw b0 b1 r0 r1 f0 f1;have b0:=HG.o.b0;have b1:=HG.o.b1;have t0:=HX.o.c0;have t1:=HX.o.c1;go_wp2_with fail
   go_region_law ((go_simp;go_at_call 150;refine(aBo F ⟨F.N,bP F.vs nm⟩ ts (qQ ts k) (some ⟨b,o,none⟩) a2 c c2 _ HF.o HOKD.o rfl HTS.o HGV.o HRF.o HLF.o HRR.o HLG.o).mono ?_;rintro e w4 ⟨sv,rfl,hs4,hb4⟩;have HG4:=hid (HG.o.later hb4);have HX4:=hid (HX.o.later hb4);have t0:=HX4.o.c0;have t1:=HX4.o.c1;have r0:=HG4.o.rg.r0;have r1:=HG4.o.rg.r1;have f0:=HG4.o.rg.f0;have f1:=HG4.o.rg.f1))
   all_goals
    have HFR:=hid (bGj (c:=c2) HF.o HTS.o hk HKN.o (HRR.o.keep hb4) (HLF.o.keep hb4) HC2.o);have HS4:=hid (mH (u:= .int .i64 F.N) (v:= .slice a2 (qQ ts k).length c2) hs4 HG.o.rg.lt);clear hs4 hb4;go_wp2_with fail;obtain⟨j0,j1⟩:=HG4.o.rg.cells (u:= .int .i64 F.N) (v:= .slice a2 (qQ ts k).length c2)
    (try simp only[Exit.inBlock,Exit.then])
    refine bodyPost_ret (v:= .tuple #[.agg #[.int .i64 F.N,.slice a2 (qQ ts k).length c2],sv,.int .i64 0]) (by first|(rw[results_cell_tmp rfl];go_simp;done)|(rw[aB rfl];go_simp;done)|(rw[aA rfl];go_simp;done)) rfl ?_;exact⟨_,_,rfl,HG4.o.rg.bx HFR.o,HS4.o.mono HG.o.rg.bel.size,HG4.o.rg.below⟩
end Go.Proofs.YtaiklhbakldfhaaGreat
