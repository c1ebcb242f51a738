/-
  Plain laws of chapter 37: claims, room, need, what is permitted.
  Plain laws of chapter 37: what creations, clones, deletions and trims make of the claims and the room.
  Plain laws of chapter 37: the exclusive blocks of a volume, and what a write of single blocks does.
  Plain laws of chapter 37: a whole write, permitted steps, sound families.
  Conditions: as each theorem says.
-/
import Derived.Test.YtpjlignclchgiaaGreatGH
namespace Go.Proofs.YtpjlignclchgiaaGreat
set_option linter.unusedSimpArgs false
set_option linter.unusedVariables false
set_option maxRecDepth 100000
set_option maxHeartbeats 16000000
def claimV (C:List Int) (v:Vol):Int:=max 0 (v.r-singleC C v.l)
def claimF (F:Fam) (nm:List UInt8):Int × Int:=match getV F.vs nm with
 |none=>(0,9)
 |some v=>(claimV F.C v,0)
def claimsF (F:Fam):Int:=(F.vs.map (claimV F.C)).sum
def freeN (F:Fam):Int:=area (zeroB F.C) F.N
def roomF (F:Fam):Int:=freeN F-claimsF F
def needF (F:Fam) (nm:List UInt8) (p n:Int):Int × Int:=
 if (rangeF F nm p n).2=0 then (n-exclL F.C (rangeF F nm p n).1,0)else (0,(rangeF F nm p n).2)
def enoughN (want have':Int):Int:=if want>have' then 11 else 0
def canCreateF (F:Fam) (n r:Int):Int:=if numB n r=false then 1 else enoughN r (roomF F)
def canCloneF (F:Fam) (nm:List UInt8):Int:=match getV F.vs nm with
 |none=>9
 |some v=>enoughN (v.r-claimV F.C v) (roomF F)
def canWriteF (F:Fam) (nm:List UInt8) (p n:Int):Int:=
 if (needF F nm p n).2=0 then enoughN (needF F nm p n).1 ((claimF F nm).1+max 0 (roomF F))else (needF F nm p n).2
def stepE (F:Fam) (s:Step36):Fam:=if (stepF F s).2.2=0 then (stepF F s).1 else F
theorem claimV_bd (C:List Int) (v:Vol) (h:0≤v.r):0≤claimV C v∧claimV C v≤v.r:=by
 unfold claimV singleC;omega
theorem free_len {F:Fam} (hF:F.ok):lenL (zeroL F.C)=freeN F:=by
 unfold freeN;rw[lenL_zero F.C (by rw[F.C_length];exact hF.hN),F.C_length]
theorem free_used {F:Fam} (hF:F.ok):(F.N:Int)-usedC F.C=freeN F:=by
 have:=used_zero F.C 2097152 hF.range;rw[F.C_length]at this;unfold freeN;omega
theorem write_claim {F:Fam} {nm:List UInt8} {p n:Int} (h:(needF F nm p n).2=0) (hc:(needF F nm p n).1≤(claimF F nm).1):canWriteF F nm p n=0:=by
 unfold canWriteF enoughN;rw[if_pos h,if_neg];omega
theorem sum_map_le {α:Type} (f g:α→Int) (l:List α) (h:∀ x∈l,f x≤g x):(l.map f).sum≤(l.map g).sum:=by
 induction l with
 |nil=>simp
 | cons x r ih=>
  have h1:=h x (by simp);have h2:=ih fun y hy=>h y (by simp[hy]);simp only[List.map_cons,List.sum_cons];omega
theorem sum_map_nonneg {α:Type} (f:α→Int) (l:List α) (h:∀ x∈l,0≤f x):0≤(l.map f).sum:=by
 induction l with
 |nil=>simp
 | cons x r ih=>
  have h1:=h x (by simp);have h2:=ih fun y hy=>h y (by simp[hy]);simp only[List.map_cons,List.sum_cons];omega
theorem one_lt {C:List Int} {i:Nat} (h:oneB C i=true):i<C.length∧C.getD i 0=1:=by
 have h1:C.getD i 0=1:=by simpa [oneB]using h
 refine⟨?_,h1⟩;rcases Nat.lt_or_ge i C.length with h2|h2
 ·exact h2
 ·rw[List.getD_eq_getElem?_getD,List.getElem?_eq_none h2]at h1;simp at h1
theorem cntV_nonneg (vs:List Vol) (i:Nat):0≤cntV vs i:=sum_map_nonneg _ _ fun v _=>(cnt_bound v.l i).1
theorem others_le {F:Fam} (hF:F.ok) {nm:List UInt8} {D:List Int} (hD:D.length=F.N) (h:∀ i,i<F.N→F.C.getD i 0=1→0<cntV (delV F.vs nm) i→D.getD i 0=1):
  ((delV F.vs nm).map (claimV D)).sum≤((delV F.vs nm).map (claimV F.C)).sum:=by
 refine sum_map_le _ _ _ fun w hw=> ?_;have hp:=(hF.vol w (mem_delV.1 hw).1).perm;have h1:singleC F.C w.l≤singleC D w.l:=by
  unfold singleC;rw[F.C_length,hD];have:=area_mono (fun i=>listB w.l i&&oneB F.C i) (fun i=>listB w.l i&&oneB D i) F.N fun i hi hf=>by
   simp only[Bool.and_eq_true]at hf ⊢;refine⟨hf.1,?_⟩;rw[listB_cnt w.l hp,decide_eq_true_eq]at hf;have h3:=cntV_mem (delV F.vs nm) w hw i;have:=h i hi (one_lt hf.2).2 (by omega)
   simpa [oneB]using this
  omega
 unfold claimV;omega
theorem others_eq {F:Fam} (hF:F.ok) {nm:List UInt8} {D:List Int} (hD:D.length=F.N) (h:∀ i,i<F.N→0<cntV (delV F.vs nm) i→(F.C.getD i 0=1↔D.getD i 0=1)):
  ((delV F.vs nm).map (claimV D)).sum=((delV F.vs nm).map (claimV F.C)).sum:=by
 congr 1;refine List.map_congr_left fun w hw=> ?_;have hp:=(hF.vol w (mem_delV.1 hw).1).perm;have h1:singleC D w.l=singleC F.C w.l:=by
  unfold singleC;rw[F.C_length,hD];congr 1;refine area_congr _ _ F.N fun i hi=> ?_;rw[listB_cnt w.l hp];by_cases hc:0<cnt w.l i
  ·have h3:=cntV_mem (delV F.vs nm) w hw i;have:=h i hi (by omega);rw[decide_eq_true hc,Bool.true_and,Bool.true_and,Bool.eq_iff_iff];simp only[oneB,decide_eq_true_eq];exact this.symm
  ·rw[decide_eq_false hc];rfl
 unfold claimV;rw[h1]
theorem claims_split {F:Fam} (hF:F.ok) {v:Vol} (hv:getV F.vs v.nm=some v):claimsF F=((delV F.vs v.nm).map (claimV F.C)).sum+claimV F.C v:=(del_sum _ hF.sorted hv).symm
theorem claims_put (F:Fam) (u:Vol):claimsF ⟨F.N,putV F.vs u⟩=claimV (⟨F.N,putV F.vs u⟩:Fam).C u+((delV F.vs u.nm).map (claimV (⟨F.N,putV F.vs u⟩:Fam).C)).sum:=sum_insV _ _ _
theorem claimV_nonneg (C:List Int) (v:Vol):0≤claimV C v:=by unfold claimV;omega
theorem claims_nonneg (C:List Int) (vs:List Vol):0≤(vs.map (claimV C)).sum:=sum_map_nonneg _ _ fun v _=>claimV_nonneg C v
theorem room_create {F:Fam} (hF:F.ok) {u:Vol} (hu:getV F.vs u.nm=none) (hl:u.l=[]) (hr:0≤u.r):roomF ⟨F.N,putV F.vs u⟩=roomF F-u.r:=by
 have hC:(⟨F.N,putV F.vs u⟩:Fam).C=F.C:=(chg_create hF hu hl).symm;have h1:=claims_put F u;have h2:claimV F.C u=u.r:=by
  unfold claimV singleC;rw[hl,area_false _ _ fun i _=>by simp[listB]];omega
 rw[hC,h2,del_none hu]at h1;unfold roomF freeN;rw[hC,h1];show(area (zeroB F.C) F.N:Int)-_=_-(F.vs.map (claimV F.C)).sum-_;omega
theorem room_clone {F:Fam} (hF:F.ok) {v u:Vol} (hv:getV F.vs v.nm=some v) (hu:getV F.vs u.nm=none) (hl:u.l=v.l) (hr:u.r=0):roomF ⟨F.N,putV F.vs u⟩=roomF F-(v.r-claimV F.C v):=by
 have hm:=(getV_mem hv).1;have hk:=hF.vol v hm;have hC:chgL F.C v.l 1=(⟨F.N,putV F.vs u⟩:Fam).C:=chg_clone hF hm hu hl;obtain⟨D,hD⟩:∃ D,(⟨F.N,putV F.vs u⟩:Fam).C=D:=⟨_,rfl⟩;have hDl:D.length=F.N:=by rw[←hD,Fam.C_length]
 have hget:∀ i,i<F.N→D.getD i 0=F.C.getD i 0+cnt v.l i:=fun i hi=>by
  rw[←hD,←hC,chgL_get v.l 1 _ (by rw[F.C_length];exact hk.perm) i (by rw[F.C_length];exact hi)];omega
 have hcn:∀ i,i<F.N→F.C.getD i 0=cntV (delV F.vs v.nm) i+cnt v.l i:=fun i hi=>by rw[hF.get i hi,cntV_del hF.sorted hv]
 have h1:=claims_put F u;rw[hD,del_none hu]at h1;have h2:claimV D u=0:=by
  unfold claimV singleC;rw[hr];omega
 have h3:singleC D v.l=0:=by
  unfold singleC;rw[hDl,area_false _ _ fun i hi=> ?_]
  ·rfl
  ·rw[listB_cnt v.l hk.perm];have g1:=hget i hi;have g2:=hcn i hi;have g3:=cntV_nonneg (delV F.vs v.nm) i;by_cases hc:0<cnt v.l i
   ·rw[decide_eq_true hc,Bool.true_and];exact decide_eq_false (by omega)
   ·rw[decide_eq_false hc];rfl
 have h4:claimV D v=v.r:=by
  unfold claimV;rw[h3];have:=hk.r0;omega
 have h5:=del_sum (claimV D) hF.sorted hv;have h6:=others_eq hF (nm:=v.nm) hDl fun i hi hp=>by
  have g1:=hget i hi;have g2:=hcn i hi;have g3:=(cnt_bound v.l i).1;omega
 have h7:=claims_split hF hv;have h8:area (zeroB D) F.N=area (zeroB F.C) F.N:=area_congr _ _ _ fun i hi=>by
  have g1:=hget i hi;have g2:=hcn i hi;have g3:=(cnt_bound v.l i).1;have g4:=cntV_nonneg (delV F.vs v.nm) i;unfold zeroB;rw[Bool.eq_iff_iff,decide_eq_true_eq,decide_eq_true_eq];omega
 unfold roomF freeN;rw[hD,h1];show(area (zeroB D) F.N:Int)-_=_;rw[h8,h7];omega
theorem room_delete {F:Fam} (hF:F.ok) (nm:List UInt8):roomF F≤roomF ⟨F.N,delV F.vs nm⟩:=by
 cases hg:getV F.vs nm with
 |none=>rw[del_none hg];exact Int.le_refl _
 | some v=>
  obtain⟨hm,rfl⟩:=getV_mem hg;obtain⟨D,hD⟩:∃ D,(⟨F.N,delV F.vs v.nm⟩:Fam).C=D:=⟨_,rfl⟩;have hDl:D.length=F.N:=by rw[←hD,Fam.C_length]
  have hget:∀ i,i<F.N→D.getD i 0=cntV (delV F.vs v.nm) i:=fun i hi=>by
   rw[←hD];exact cntsV_get _ _ (fun w hw=>(hF.vol w (mem_delV.1 hw).1).perm) i hi
  have hcn:∀ i,i<F.N→F.C.getD i 0=cntV (delV F.vs v.nm) i+cnt v.l i:=fun i hi=>by rw[hF.get i hi,cntV_del hF.sorted hg]
  have h1:=others_le hF (nm:=v.nm) hDl fun i hi h1 hp=>by
   have g1:=hget i hi;have g2:=hcn i hi;have g3:=(cnt_bound v.l i).1;omega
  have h2:=claims_split hF hg;have h3:=claimV_nonneg F.C v;have h4:area (zeroB F.C) F.N≤area (zeroB D) F.N:=area_mono _ _ _ fun i hi hz=>by
   have g1:=hget i hi;have g2:=hcn i hi;have g3:=(cnt_bound v.l i).1;have g4:=cntV_nonneg (delV F.vs v.nm) i;unfold zeroB at hz ⊢;rw[decide_eq_true_eq]at hz ⊢;omega
  unfold roomF freeN;rw[hD,h2];show(area (zeroB F.C) F.N:Int)-_≤(area (zeroB D) F.N:Int)-((delV F.vs v.nm).map (claimV (⟨F.N,delV F.vs v.nm⟩:Fam).C)).sum;rw[hD];omega
section
variable {F:Fam} {v:Vol} {l':List E}
theorem with_get (hF:F.ok) (hv:getV F.vs v.nm=some v) (hG:(F.with (v.set l')).ok) (i:Nat) (hi:i<F.N):(F.with (v.set l')).C.getD i 0+cnt v.l i=F.C.getD i 0+cnt l' i:=by
 rw[hG.get i hi,hF.get i hi];exact cntV_with hF hv i
theorem with_perm (hG:(F.with (v.set l')).ok):permB F.N l'=true:=(hG.vol (v.set l') (mem_putV.2 (.inl rfl))).perm
theorem room_cut (hF:F.ok) (hv:getV F.vs v.nm=some v) (hG:(F.with (v.set l')).ok) (hle:∀ i,i<F.N→cnt l' i≤cnt v.l i):roomF F≤roomF (F.with (v.set l')):=by
 have hk:=hF.vol v (getV_mem hv).1;have hp':=with_perm hG;have hget:=with_get hF hv hG;obtain⟨D,hD⟩:∃ D,(F.with (v.set l')).C=D:=⟨_,rfl⟩;rw[hD]at hget;have hDl:D.length=F.N:=by rw[←hD,Fam.C_length];rfl
 have hcn:∀ i,i<F.N→F.C.getD i 0=cntV (delV F.vs v.nm) i+cnt v.l i:=fun i hi=>by rw[hF.get i hi,cntV_del hF.sorted hv]
 have h0:∀ i,0≤cnt l' i:=fun i=>(cnt_bound l' i).1;have h00:∀ i,0≤cnt v.l i:=fun i=>(cnt_bound v.l i).1;have h1:=others_le hF (nm:=v.nm) hDl fun i hi h1 hp=>by
  have g1:=hget i hi;have g2:=hcn i hi;have g3:=h00 i;have g4:=h0 i;have g5:=hle i hi;omega
 have h2:=claims_split hF hv;have h3:claimsF (F.with (v.set l'))=claimV D (v.set l')+((delV F.vs v.nm).map (claimV D)).sum:=by
  have:=claims_put F (v.set l');rw[←hD];exact this
 obtain⟨f,hf⟩:∃ f:Nat→Bool,f=fun i=>listB v.l i&&oneB F.C i:=⟨_,rfl⟩;obtain⟨g,hg⟩:∃ g:Nat→Bool,g=fun i=>listB l' i&&oneB D i:=⟨_,rfl⟩;have e1:singleC F.C v.l=area f F.N:=by unfold singleC;rw[F.C_length,hf]
 have e2:singleC D (v.set l').l=area g F.N:=by unfold singleC;rw[hDl,hg];rfl
 have e3:=area_split f g F.N;have e4:area (fun i=>f i&&g i) F.N≤area g F.N:=area_mono _ _ _ fun i _ h=>by
  simp only[Bool.and_eq_true]at h;exact h.2
 have e5:area (fun i=>zeroB F.C i||(f i&& !g i)) F.N=area (zeroB F.C) F.N+area (fun i=>f i&& !g i) F.N:=area_or _ _ _ fun i hi hz hb=>by
  simp only[Bool.and_eq_true]at hb;have hb:=hb.1;rw[hf]at hb;simp only[Bool.and_eq_true]at hb;have q1:=(one_lt hb.2).2;have q2:F.C.getD i 0=0:=by simpa [zeroB]using hz
  omega
 have e6:area (fun i=>zeroB F.C i||(f i&& !g i)) F.N≤area (zeroB D) F.N:=area_mono _ _ _ fun i hi h=>by
  have g1:=hget i hi;have g2:=hcn i hi;have g3:=h0 i;have g4:=h00 i;have g5:=hle i hi;have g6:=cntV_nonneg (delV F.vs v.nm) i;have g7:0≤D.getD i 0:=by omega
  show decide (D.getD i 0=0)=true;rw[decide_eq_true_eq];simp only[Bool.or_eq_true,Bool.and_eq_true]at h;rcases h with h|⟨h,hn⟩
  ·have q2:F.C.getD i 0=0:=by simpa [zeroB]using h
   omega
  ·rw [hf]at h;simp only[Bool.and_eq_true]at h;have q1:=(one_lt h.2).2;have q2:=h.1;rw[listB_cnt v.l hk.perm,decide_eq_true_eq]at q2;rcases(by omega:D.getD i 0=0∨D.getD i 0=1)with q|q
   ·exact q
   ·exfalso;have q3:0<cnt l' i:=by omega
    rw[hg]at hn;simp only[listB_cnt l' hp',decide_eq_true q3,Bool.true_and]at hn;have q4:oneB D i=true:=by simpa [oneB]using q
    rw[q4]at hn;simp at hn
 have e7:claimV D (v.set l')≤claimV F.C v+area (fun i=>f i&& !g i) F.N:=by
  unfold claimV;rw[e1,e2];show max 0 (v.r-_)≤_;omega
 unfold roomF freeN;rw[hD,h2,h3];show(area (zeroB F.C) F.N:Int)-_≤(area (zeroB D) F.N:Int)-_;omega
end
theorem area_shift (f:Nat→Bool) (s k:Nat):area f (s+k)=area f s+area (fun j=>f (s+j)) k:=by
 induction k with
 |zero=>simp[area]
 | succ k ih=>
  rw[←Nat.add_assoc];simp only[area,ih];omega
theorem area_one (s n:Nat) (h:s<n):area (fun i=>decide (i=s)) n=1:=by
 rw [area_congr _ (fun i=>decide (s≤i)&&decide (i<s+1)) n fun i _=>by
  rw[Bool.eq_iff_iff];simp only[Bool.and_eq_true,decide_eq_true_eq];omega,area_span _ _ _ (by omega)]
 omega
def exB (C:List Int) (l:List E) (b:Int):Bool:=match slotAt l b with
 |none=>false
 |some s=>oneB C s.toNat
theorem exB_nil (C:List Int) (b:Int):exB C [] b=false:=rfl
theorem exB_cons (C:List Int) (x:E) (r:List E) (b:Int):exB C (x::r) b=if hits b x then oneB C (x.s+b-x.a).toNat else exB C r b:=by
 unfold exB slotAt;by_cases h:hits b x=true
 ·rw[List.find?_cons_of_pos h,if_pos h];rfl
 ·rw[List.find?_cons_of_neg h,if_neg h]
theorem exB_before (C:List Int) (l:List E) (e b:Int) (h:validFrom e l=true) (hb:b<e):exB C l b=false:=by
 unfold exB;rw[slotAt_none l b fun x hx=> ?_];have:=((validFrom_iff l e).1 h).2.2 x hx;unfold hits;rw[decide_eq_false (by omega)];rfl
theorem excl_blocks (C:List Int) (l:List E):∀ e,0≤e→validFrom e l=true→exclL C l=area (fun b=>exB C l b) 65536:=by
 induction l with
 |nil=>intro e _ _;rw[area_false _ _ fun i _=>exB_nil C i];rfl
 | cons x r ih=>
  intro e h0 hv;have hv':=hv;simp only[validFrom,Bool.and_eq_true,decide_eq_true_eq]at hv';obtain⟨c1,c2,c3,c4,c5⟩:=(okB_iff x).1 hv'.1;have hr:=hv'.2.2;have h1:=ih (x.a+x.n) (by omega) hr;have h2:exclL C (x::r)=oneX C x+exclL C r:=by simp[exclL]
  rw [h2,h1];have e1:area (fun b:Nat=>exB C (x::r) b) 65536=area (fun b:Nat=>(hits b x&&oneB C (x.s+b-x.a).toNat)||exB C r b) 65536:=area_congr _ _ _ fun b _=>by
   rw[exB_cons];by_cases h:hits b x=true
   ·rw[if_pos h,h,exB_before C r _ b hr]
    ·simp
    ·simp only[hits,Bool.and_eq_true,decide_eq_true_eq]at h;exact h.2
   ·rw[if_neg h];have h:hits b x=false:=by simpa using h
    rw[h];rfl
  rw [e1,area_or _ _ _ fun b _ hb hc=>by
   simp only[Bool.and_eq_true,hits,decide_eq_true_eq]at hb;rw[exB_before C r _ b hr hb.1.2]at hc
   cases hc]
  have e2:area (fun b:Nat=>hits b x&&oneB C (x.s+b-x.a).toNat) 65536=area (fun j=>oneB C (x.s.toNat+j)) x.n.toNat:=by
   have hs:65536=x.a.toNat+x.n.toNat+(65536-(x.a.toNat+x.n.toNat)):=by omega
   rw[hs,area_shift,area_shift,area_false _ x.a.toNat fun i hi=> ?_,area_false _ (65536-(x.a.toNat+x.n.toNat)) fun i hi=> ?_,Nat.zero_add,Nat.add_zero]
   ·refine area_congr _ _ _ fun j hj=> ?_;have:hits ((x.a.toNat+j:Nat):Int) x=true:=by simp only[hits,Bool.and_eq_true,decide_eq_true_eq];omega
    rw[this,Bool.true_and];congr 1;omega
   ·have:hits ((x.a.toNat+x.n.toNat+i:Nat):Int) x=false:=by
     simp only[hits,Bool.and_eq_false_iff,decide_eq_false_iff_not];omega
    rw[this];rfl
   ·have:hits (i:Int) x=false:=by
     simp only[hits,Bool.and_eq_false_iff,decide_eq_false_iff_not];omega
    rw[this];rfl
  rw[e2];unfold oneX;omega
theorem excl_range (C:List Int) (l:List E) (p n:Nat) (hv:validB l=true) (hp:p+n≤65536):exclL C (inL l p n)=area (fun j=>exB C l ((p+j:Nat):Int)) n:=by
 have h1:validFrom 0 (inL l p n)=true:=inL_valid l p n hv;rw[excl_blocks C _ 0 (Int.le_refl _) h1];have e:∀ b:Nat,exB C (inL l p n) b=if p≤b∧b<p+n then exB C l b else false:=fun b=>by
  unfold exB;rw[slotAt_in l p n b hv];by_cases h:p≤b∧b<p+n
  ·rw[if_pos h,if_pos (by omega)]
  ·rw[if_neg h,if_neg (by omega)]
 have hs:65536=p+n+(65536-(p+n)):=by omega
 rw[hs,area_shift,area_shift,area_false _ p fun i hi=> ?_,area_false _ (65536-(p+n)) fun i hi=> ?_,Nat.zero_add,Nat.add_zero]
 ·rw[area_congr _ (fun j=>exB C l ((p+j:Nat):Int)) n fun j hj=>by rw[e,if_pos (by omega)]]
 ·rw[e,if_neg (by omega)]
 ·rw[e,if_neg (by omega)]
theorem single_blocks {F:Fam} (hF:F.ok) {v:Vol} (hv:v∈F.vs):singleC F.C v.l=area (fun j:Nat=>exB F.C v.l j) v.n.toNat:=by
 have hk:=hF.vol v hv;have h1:=hk.n1;have h2:=hk.n2;rw[←excl_single hF hv,←in_all hk.valid hk.norm hk.ins];have:=excl_range F.C v.l 0 v.n.toNat hk.valid (by omega);rw[show((v.n.toNat:Nat):Int)=v.n by omega]at this;rw[show((0:Nat):Int)=0 from rfl]at this;rw[this,in_all hk.valid hk.norm hk.ins];exact congrArg Int.ofNat (area_congr _ _ _ fun j _=>by rw[Nat.zero_add])
def restN (C:List Int) (l:List E) (p m:Nat):Int:=(m:Int)-area (fun j=>exB C l ((p+j:Nat):Int)) m
theorem restN_nonneg (C:List Int) (l:List E) (p m:Nat):0≤restN C l p m:=by
 have:=area_le (fun j=>exB C l ((p+j:Nat):Int)) m;unfold restN;omega
theorem restN_first (C:List Int) (l:List E) (p m:Nat):restN C l p (m+1)=(if exB C l p=true then 0 else 1)+restN C l (p+1) m:=by
 unfold restN;rw[show m+1=1+m by omega,area_shift];have e1:area (fun j=>exB C l ((p+j:Nat):Int)) 1=if exB C l p=true then 1 else 0:=by simp[area]
 have e2:area (fun j=>exB C l ((p+(1+j):Nat):Int)) m=area (fun j=>exB C l ((p+1+j:Nat):Int)) m:=area_congr _ _ _ fun j _=>by rw[show p+(1+j)=p+1+j by omega]
 rw[e1,e2]
 split <;> omega
theorem restN_mono {C D:List Int} {l l':List E} (p m:Nat) (h:∀ b:Nat,p≤b→b<p+m→exB C l b=true→exB D l' b=true):restN D l' p m≤restN C l p m:=by
 have:=area_mono (fun j=>exB C l ((p+j:Nat):Int)) (fun j=>exB D l' ((p+j:Nat):Int)) m fun j hj he=>h (p+j) (by omega) (by omega) he;unfold restN;omega
theorem restN_all {C:List Int} {l:List E} (p m:Nat) (h:∀ b:Nat,p≤b→b<p+m→exB C l b=true):restN C l p m=0:=by
 have h1:=area_not (fun j=>exB C l ((p+j:Nat):Int)) m;have h2:area (fun j=> !exB C l ((p+j:Nat):Int)) m=0:=area_false _ _ fun j hj=>by rw[h (p+j) (by omega) (by omega)];rfl
 unfold restN;omega
theorem need_range {F:Fam} (hF:F.ok) {v:Vol} (hv:getV F.vs v.nm=some v) (p n:Nat) (hb:((p+n:Nat):Int)≤v.n):needF F v.nm p n=(restN F.C v.l p n,0):=by
 have hk:=hF.vol v (getV_mem hv).1;have h2:=hk.n2;have hr:rangeF F v.nm p n=(inL v.l p n,0):=by
  unfold rangeF;rw[hv];show(if inB p n v.n=false then ([],(2:Int))else (inL v.l p n,0))=_;rw[if_neg (by rw[(inB_iff _ _ _).2 ⟨by omega,by omega,by omega,by omega⟩];decide)]
 unfold needF;rw[hr];show(if (0:Int)=0 then ((n:Int)-exclL F.C (inL v.l p n),(0:Int))else _)=_;rw[if_pos rfl,excl_range F.C v.l p n hk.valid (by omega)];rfl
section
variable {F:Fam} {v:Vol} {k s:Nat}
theorem in_one (hF:F.ok) (hv:getV F.vs v.nm=some v) (hk:(k:Int)<v.n) (he:exB F.C v.l k=false) (i:Nat) (hi:i<F.N) (h1:F.C.getD i 0=1):cnt (inL v.l k 1) i=0:=by
 have hok:=hF.vol v (getV_mem hv).1;have h2:=hok.n2;have hx:=excl_range F.C v.l k 1 hok.valid (by omega);rw[show((1:Nat):Int)=1 from rfl]at hx;have ha:area (fun j=>exB F.C v.l ((k+j:Nat):Int)) 1=0:=by simp[area,he]
 rw [ha,excl_sum _ _ (by rw[F.C_length];exact perm_in _ _ hok.perm),F.C_length]at hx;have key:∀ (f:Nat→Int) (n:Nat),(∀j,0≤f j)→sumN f n=0→ ∀j,j<n→f j=0:=by
  intro f n hf;have hnn:∀ n,0≤sumN f n:=fun n=>by
   induction n with
   |zero=>simp[sumN]
   |succ n ih=>have:=hf n;simp only[sumN];omega
  induction n with
  |zero=>intro _ j hj;omega
  | succ n ih=>
   intro h j hj;simp only[sumN]at h;have q1:=hnn n;have q2:=hf n;by_cases e:j=n
   ·subst e;omega
   ·exact ih (by omega) j (by omega)
 have:=key _ F.N (fun j=>by unfold one1;have:=(cnt_bound (inL v.l k 1) j).1;split <;> omega) hx i hi;unfold one1 at this;rw[if_pos (by simpa [oneB]using h1)]at this;exact this
theorem in_short (hF:F.ok) (hv:getV F.vs v.nm=some v) (hk:(k:Int)<v.n) (i:Nat):cnt (inL v.l k 1) i≤1:=by
 have hok:=hF.vol v (getV_mem hv).1;have h2:=hok.n2;have hvl:=inL_valid v.l k 1 hok.valid;have hrng:∀ x∈inL v.l k 1,(k:Int)≤x.a∧x.a+x.n≤(k:Int)+1:=fun x hx=>by
  rw[in_tree v.l k 1 hok.valid hok.norm]at hx;exact parts_range _ _ _ x hx
 have h3:=inside_length (inL v.l k 1) (k+1) k (by omega) (fun x hx=>(hrng x hx).2) ((validFrom_iff _ _).2 ⟨((validB_iff _).1 hvl).1,((validB_iff _).1 hvl).2,fun x hx=>(hrng x hx).1⟩);have:=(cnt_bound (inL v.l k 1) i).2;omega
structure OneB (F:Fam) (v:Vol) (k s:Nat) (G:Fam):Prop where
 ok:G.ok
 is:G=F.with (v.set (putL v.l ⟨k,1,s⟩))
 asg:(assignF F v.nm ⟨k,1,s⟩).1=G∧(assignF F v.nm ⟨k,1,s⟩).2.2=0
 cnt:∀ i,i<F.N→F.C.getD i 0=1→G.C.getD i 0=1
 zero:∀ i,i<F.N→(zeroB G.C i=true↔zeroB F.C i=true∧i≠s)
 new:exB G.C (putL v.l ⟨k,1,s⟩) k=true
 old:∀ b:Nat,exB F.C v.l b=true→exB G.C (putL v.l ⟨k,1,s⟩) b=true
theorem one_block (hF:F.ok) (hv:getV F.vs v.nm=some v) (hk:(k:Int)<v.n) (he:exB F.C v.l k=false) (hs:s<F.N) (hz:F.C.getD s 0=0):OneB F v k s (F.with (v.set (putL v.l ⟨k,1,s⟩))):=by
 have hok:=hF.vol v (getV_mem hv).1;have hN:=hF.hN;have hx:(inB (k:Int) 1 v.n&&slotB F.N ⟨k,1,s⟩)=true:=by
  rw[Bool.and_eq_true];exact⟨(inB_iff _ _ _).2 ⟨by omega,by omega,by omega,by omega⟩,decide_eq_true ⟨by simp,by simp,by simp only;omega⟩⟩
 have hasg:assignF F v.nm ⟨k,1,s⟩=(F.with (v.set (putL v.l ⟨k,1,s⟩)),freedF F (F.with (v.set (putL v.l ⟨k,1,s⟩))),0):=by
  unfold assignF;rw[hv];show(if (inB (k:Int) 1 v.n&&slotB F.N ⟨k,1,s⟩)=false then _ else _)=_;rw[if_neg (by rw[hx];decide)]
 have hG:(F.with (v.set (putL v.l ⟨k,1,s⟩))).ok:=by have:=ok_assign hF v.nm ⟨k,1,s⟩;rwa [hasg]at this
 have hxo:okB ⟨k,1,s⟩=true:=(hok.put hN hx).1;have hget:∀ i,i<F.N→(F.with (v.set (putL v.l ⟨k,1,s⟩))).C.getD i 0+cnt (inL v.l k 1) i=F.C.getD i 0+cntX ⟨k,1,s⟩ i:=fun i hi=>by
  have h1:=with_get hF hv hG i hi;have h2:=cnt_put v.l ⟨k,1,s⟩ i hxo hok.valid;have h3:cnt (inL v.l (⟨k,1,s⟩:E).a (⟨k,1,s⟩:E).n) i=cnt (inL v.l k 1) i:=rfl;omega
 have hX:∀ i:Nat,cntX ⟨k,1,s⟩ i=if i=s then 1 else 0:=fun i=>if_iff (by simp only;omega);have hcn:∀ i,i<F.N→F.C.getD i 0=cntV (delV F.vs v.nm) i+cnt v.l i:=fun i hi=>by rw[hF.get i hi,cntV_del hF.sorted hv]
 have hin:∀ i,i<F.N→cnt (inL v.l k 1) i≤F.C.getD i 0:=fun i hi=>by
  have h1:=hcn i hi;have h2:=cntV_nonneg (delV F.vs v.nm) i;have h3:=cnt_put v.l ⟨k,1,s⟩ i hxo hok.valid;have h4:=cnt_parts v.l k (k+1) i (by omega) (by omega) (by have:=hok.n2;omega) (validB_ok hok.valid);have h5:=cnt_in v.l k 1 i (validB_ok hok.valid);have h6:=(cnt_bound (partsL v.l 0 k) i).1;have h7:=(cnt_bound (partsL v.l (k+1) 65536) i).1;omega
 obtain ⟨G,hGe⟩:∃ G,F.with (v.set (putL v.l ⟨k,1,s⟩))=G:=⟨_,rfl⟩;rw[hGe]at hasg hG hget ⊢;have hcnt:∀ i,i<F.N→F.C.getD i 0=1→G.C.getD i 0=1:=fun i hi h1=>by
  have g1:=hget i hi;rw[in_one hF hv hk he i hi h1,hX]at g1;rw[if_neg (by rintro rfl;omega)]at g1;omega
 have hsone:G.C.getD s 0=1:=by
  have g1:=hget s hs;rw[hX,if_pos rfl]at g1;have g2:=hin s hs;have g3:=(cnt_bound (inL v.l k 1) s).1;omega
 have hslot:∀ b:Nat,slotAt (putL v.l ⟨k,1,s⟩) b=if b=k then some (s:Int)else slotAt v.l b:=fun b=>by
  rw[slotAt_put v.l ⟨k,1,s⟩ b hxo hok.valid];by_cases hb:b=k
  ·subst hb;rw[if_pos rfl,if_pos ⟨by simp,by simp only;omega⟩];congr 1;simp
  ·rw[if_neg hb,if_neg (by simp only;omega)]
 refine⟨hG,hGe.symm,by rw[hasg];exact⟨rfl,rfl⟩,hcnt,fun i hi=> ?_,?_,fun b hb=> ?_⟩
 ·have g1:=hget i hi;have g2:=hin i hi;have g3:=(cnt_bound (inL v.l k 1) i).1;have g4:=in_short hF hv hk i;rw[hX]at g1;simp only[zeroB,decide_eq_true_eq];by_cases hi2:i=s
  ·subst hi2;rw[if_pos rfl]at g1;exact⟨fun h=>by omega,fun h=>absurd rfl h.2⟩
  ·rw[if_neg hi2]at g1;refine⟨fun h=>⟨?_,hi2⟩,fun h=>by omega⟩;by_cases h1:F.C.getD i 0=1
   ·rw[in_one hF hv hk he i hi h1]at g1;omega
   ·omega
 ·unfold exB;rw[hslot,if_pos rfl]
  simpa [oneB]using hsone
 ·have hbk:b≠k:=by rintro rfl;rw[he]at hb;cases hb
  unfold exB at hb ⊢;rw[hslot,if_neg hbk]
  cases hsl:slotAt v.l b with
  |none=>rw[hsl]at hb;cases hb
  | some o=>
   rw[hsl]at hb;have hb:oneB F.C o.toNat=true:=hb;obtain⟨q1,q2⟩:=one_lt hb;rw[F.C_length]at q1;show oneB G.C o.toNat=true
   simpa [oneB]using hcnt _ q1 q2
theorem one_room {G:Fam} (hF:F.ok) (hv:getV F.vs v.nm=some v) (hk:(k:Int)<v.n) (he:exB F.C v.l k=false) (hs:s<F.N) (hz:F.C.getD s 0=0) (h:OneB F v k s G):
  roomF F+claimV F.C v-1≤roomF G+claimV G.C (v.set (putL v.l ⟨k,1,s⟩))∧claimV G.C (v.set (putL v.l ⟨k,1,s⟩))≤max 0 (claimV F.C v-1):=by
 have hok:=hF.vol v (getV_mem hv).1;have hGN:G.N=F.N:=by rw[h.is];rfl
 have hGl:G.C.length=F.N:=by rw[G.C_length,hGN]
 have h1:=others_le hF (nm:=v.nm) hGl fun i hi h1 _=>h.cnt i hi h1;have h2:=claims_split hF hv;have h3:claimsF G=claimV G.C (v.set (putL v.l ⟨k,1,s⟩))+((delV F.vs v.nm).map (claimV G.C)).sum:=by
  have:=claims_put F (v.set (putL v.l ⟨k,1,s⟩));rw[show(⟨F.N,putV F.vs (v.set (putL v.l ⟨k,1,s⟩))⟩:Fam)=G from h.is.symm]at this;exact this
 have h4:area (zeroB F.C) F.N=area (zeroB G.C) F.N+1:=by
  rw[←area_one s F.N hs,←area_or _ _ _ fun i hi ha hb=>((h.zero i hi).1 ha).2 (of_decide_eq_true hb)];refine area_congr _ _ _ fun i hi=> ?_;rw[Bool.eq_iff_iff,Bool.or_eq_true,h.zero i hi,decide_eq_true_eq];by_cases hi2:i=s
  ·subst hi2;exact⟨fun _=> .inr rfl,fun _=>decide_eq_true hz⟩
  ·exact⟨fun q=> .inl ⟨q,hi2⟩,fun q=>q.elim (fun q=>q.1) fun q=>absurd q hi2⟩
 have hm:v.set (putL v.l ⟨k,1,s⟩)∈G.vs:=by rw[h.is];exact mem_putV.2 (.inl rfl)
 have h5:=single_blocks h.ok hm;have h6:=single_blocks hF (getV_mem hv).1;have h7:area (fun j:Nat=>exB F.C v.l j) v.n.toNat+1≤area (fun j:Nat=>exB G.C (putL v.l ⟨k,1,s⟩) j) v.n.toNat:=by
  rw [←area_one k v.n.toNat (by omega),←area_or _ _ _ fun i hi ha hb=>by
   have:i=k:=of_decide_eq_true hb;subst this;rw[he]at ha
   cases ha]
  refine area_mono _ _ _ fun i hi hb=> ?_;simp only[Bool.or_eq_true,decide_eq_true_eq]at hb;rcases hb with hb|rfl
  ·exact h.old i hb
  ·exact h.new
 have h8:singleC G.C (v.set (putL v.l ⟨k,1,s⟩)).l=area (fun j:Nat=>exB G.C (putL v.l ⟨k,1,s⟩) j) v.n.toNat:=h5;have h9:claimV G.C (v.set (putL v.l ⟨k,1,s⟩))≤max 0 (claimV F.C v-1):=by
  unfold claimV;rw[h8,h6];show max 0 (v.r-_)≤_;omega
 refine⟨?_,h9⟩;unfold roomF freeN;rw[h3,h2,hGN,h4];omega
end
structure Fam.sound (F:Fam):Prop where
 ok:F.ok
 small:∀ v∈F.vs,v.n≤255
 room:0≤roomF F
theorem Fam.sound.short {F:Fam} (h:F.sound):∀ v∈F.vs,v.l.length≤9000:=fun v hv=>by
 have h1:=(h.ok.vol v hv).short.2;have h2:=h.small v hv;omega
structure Keeps (F G:Fam):Prop where
 N:G.N=F.N
 vol:∀ v∈F.vs,¬letter5 v.nm→getV G.vs v.nm=some v
theorem Keeps.refl {F:Fam} (hF:F.ok):Keeps F F:=⟨rfl,fun v hv _=>getV_of hF.sorted hv⟩
structure WrI (F:Fam) (v:Vol) (p n j:Nat) (G:Fam):Prop where
 ok:G.ok
 N:G.N=F.N
 get:∃ l,getV G.vs v.nm=some (v.set l)∧(∀b:Nat,p≤b→b<p+j→exB G.C l b=true)∧restN G.C l (p+j) (n-j)≤claimV G.C (v.set l)+roomF G
 oth:∀ nm,nm≠v.nm→getV G.vs nm=getV F.vs nm
 room:0≤roomF G
theorem Vol.set_self (v:Vol):v.set v.l=v:=rfl
theorem WrI.start {F:Fam} (hF:F.ok) {v:Vol} (hv:getV F.vs v.nm=some v) (p n:Nat) (hr:0≤roomF F) (hn:restN F.C v.l p n≤claimV F.C v+roomF F):WrI F v p n 0 F:=
 ⟨hF,rfl,⟨v.l,hv,fun b h1 h2=>by omega,hn⟩,fun _ _=>rfl,hr⟩
theorem claims_ge {F:Fam} (hF:F.ok) {v:Vol} (hv:getV F.vs v.nm=some v):claimV F.C v≤claimsF F:=by
 have h1:=claims_split hF hv;have h2:=claims_nonneg F.C (delV F.vs v.nm);omega
theorem WrI.skip {F G:Fam} {v:Vol} {p n j:Nat} (h:WrI F v p n j G) (hj:j<n) {l:List E} (hl:getV G.vs v.nm=some (v.set l)) (he:exB G.C l ((p+j:Nat):Int)=true):WrI F v p n (j+1) G:=by
 obtain ⟨l',h1,h2,h3⟩:=h.get;obtain rfl:l'=l:=by
  have:=h1.symm.trans hl;have:=congrArg Vol.l (Option.some.inj this);exact this
 refine⟨h.ok,h.N,⟨l',h1,fun b q1 q2=> ?_,?_⟩,h.oth,h.room⟩
 ·by_cases e:b=p+j
  ·subst e;exact he
  ·exact h2 b q1 (by omega)
 ·rw[show n-j=n-(j+1)+1 by omega,restN_first,if_pos he]at h3;rw[show p+(j+1)=p+j+1 by omega];omega
theorem WrI.step {F G:Fam} {v:Vol} {p n j s:Nat} (h:WrI F v p n j G) (hj:j<n) {l:List E} (hl:getV G.vs v.nm=some (v.set l)) (he:exB G.C l ((p+j:Nat):Int)=false) (hb:((p+n:Nat):Int)≤v.n) (hs:s<G.N) (hz:G.C.getD s 0=0):
  ∃G',(assignF G v.nm ⟨((p+j:Nat):Int),1,s⟩).1=G'∧(assignF G v.nm ⟨((p+j:Nat):Int),1,s⟩).2.2=0∧WrI F v p n (j+1) G':=by
 obtain ⟨l',h1,h2,h3⟩:=h.get;obtain rfl:l'=l:=by
  have:=h1.symm.trans hl;have:=congrArg Vol.l (Option.some.inj this);exact this
 have hk:((p+j:Nat):Int)<(v.set l').n:=by show _<v.n;omega
 have hv':getV G.vs (v.set l').nm=some (v.set l'):=h1;have ho:=one_block h.ok hv' hk he hs hz;have hr:=one_room h.ok hv' hk he hs hz ho;refine⟨_,ho.asg.1,ho.asg.2,ho.ok,h.N,⟨putL l' ⟨((p+j:Nat):Int),1,s⟩,?_,fun b q1 q2=> ?_,?_⟩,fun nm hne=> ?_,?_⟩
 ·show getV (putV G.vs ((v.set l').set (putL l' ⟨((p+j:Nat):Int),1,s⟩))) v.nm=_;rw[getV_put h.ok.sorted,if_pos (show v.nm=((v.set l').set (putL l' ⟨((p+j:Nat):Int),1,s⟩)).nm from rfl)];rfl
 ·by_cases e:b=p+j
  ·subst e;exact ho.new
  ·exact ho.old b (h2 b q1 (by omega))
 ·rw [show n-j=n-(j+1)+1 by omega,restN_first,if_neg (by rw[he];decide)]at h3;have h4:=restN_mono (C:=G.C) (D:=(G.with ((v.set l').set (putL (v.set l').l ⟨((p+j:Nat):Int),1,s⟩))).C) (l:=l') (l':=putL l' ⟨((p+j:Nat):Int),1,s⟩) (p+j+1) (n-(j+1)) fun b _ _ hb=>ho.old b hb;rw[show p+(j+1)=p+j+1 by omega];have h5:claimV G.C (v.set l')=claimV G.C (v.set l'):=rfl;have h6:=hr.1;exact Int.le_trans h4 (by
   show _≤claimV _ ((v.set l').set (putL (v.set l').l ⟨((p+j:Nat):Int),1,s⟩))+_
   omega)
 ·show getV (putV G.vs ((v.set l').set (putL l' ⟨((p+j:Nat):Int),1,s⟩))) nm=_;rw[getV_put h.ok.sorted,if_neg (show ¬nm=((v.set l').set (putL l' ⟨((p+j:Nat):Int),1,s⟩)).nm from hne)];exact h.oth nm hne
 ·rw[show n-j=n-(j+1)+1 by omega,restN_first,if_neg (by rw[he];decide)]at h3;have h4:=restN_nonneg G.C l' (p+j+1) (n-(j+1));have h5:=hr.1;have h6:=hr.2;have h7:=h.room;have h8:=claimV_nonneg G.C (v.set l');omega
theorem WrI.sound {F G:Fam} {v:Vol} {p n j:Nat} (h:WrI F v p n j G) (hF:F.sound) (hv:getV F.vs v.nm=some v):G.sound:=by
 refine⟨h.ok,fun w hw=> ?_,h.room⟩;have hg:=getV_of h.ok.sorted hw;by_cases e:w.nm=v.nm
 ·obtain⟨l,h1,_⟩:=h.get;rw[e,h1]at hg;rw[←Option.some.inj hg];exact hF.small v (getV_mem hv).1
 ·rw[h.oth _ e]at hg;exact hF.small w (getV_mem hg).1
theorem WrI.keeps {F G:Fam} {v:Vol} {p n j:Nat} (h:WrI F v p n j G) (hF:F.ok) (hl:letter5 v.nm):Keeps F G:=by
 refine⟨h.N,fun w hw hn=> ?_⟩;rw[h.oth _ (by rintro e;rw[e]at hn;exact hn hl)];exact getV_of hF.sorted hw
theorem canWrite_yes {F:Fam} (hF:F.ok) (hs:∀ v∈F.vs,v.l.length≤9000) {nm:List UInt8} {p n:Int} (h:canWriteF F nm p n=0) (hr:0≤roomF F):
  ∃(v:Vol) (p0 n0:Nat),getV F.vs nm=some v∧v.nm=nm∧p=p0∧n=n0∧((p0+n0:Nat):Int)≤v.n∧restN F.C v.l p0 n0≤claimV F.C v+roomF F∧needF F nm p n=(restN F.C v.l p0 n0,0):=by
 have he:(needF F nm p n).2=0:=by
  unfold canWriteF at h
  split at h
  ·assumption
  ·exact absurd h ‹_›
 have hre:(rangeF F nm p n).2=0:=by
  unfold needF at he
  split at he
  ·assumption
  ·exact absurd he ‹_›
 cases hg:getV F.vs nm with
 |none=>unfold rangeF at hre;rw[hg]at hre;cases hre
 | some v=>
  have hm:=getV_mem hg;have hin:inB p n v.n=true:=by
   unfold rangeF at hre;rw[hg]at hre;cases hi:inB p n v.n
   ·have hre:(if inB p n v.n=false then (([]:List E),(2:Int))else (inL v.l p n,0)).2=0:=hre;rw[if_pos hi]at hre;cases hre
   ·rfl
  have h2:=(inB_iff _ _ _).1 hin;obtain⟨p0,rfl⟩:=Int.eq_ofNat_of_zero_le h2.1;obtain⟨n0,rfl⟩:=Int.eq_ofNat_of_zero_le h2.2.1;obtain⟨_,rfl⟩:=hm;have hb:((p0+n0:Nat):Int)≤v.n:=by omega
  have hneed:=need_range hF hg p0 n0 hb;refine⟨v,p0,n0,rfl,rfl,rfl,rfl,hb,?_,hneed⟩;unfold canWriteF at h;rw[hneed,if_pos rfl]at h;have hc:(claimF F v.nm).1=claimV F.C v:=by unfold claimF;rw[hg]
  unfold enoughN at h;rw[hc]at h
  split at h
  ·cases h
  ·omega
theorem create_sound {F:Fam} (hF:F.sound) {nm:List UInt8} {n r:Int} (hn:n≤255) (hc:canCreateF F n r=0) (he:(createF F nm n r).2=0):(createF F nm n r).1.sound:=by
 have hok:=ok_create hF.ok nm n r;unfold createF at he hok ⊢
 split at he
 ·simp at he
 split at he
 ·simp at he
 split at he
 ·simp at he
 rename_i h1 h2 h3
 rw[if_neg h1,if_neg h2,if_neg h3]at hok ⊢;have hu:getV F.vs nm=none:=by simpa using h2
 have hb:nameB nm=true∧numB n r=true:=by simpa using h1
 have hnum:1≤n∧n≤65536∧0≤r∧r≤n:=of_decide_eq_true hb.2;refine⟨hok,fun w hw=> ?_,?_⟩
 ·rcases mem_putV.1 hw with rfl|hw
  ·exact hn
  ·exact hF.small w hw.1
 ·show 0≤roomF ⟨F.N,putV F.vs ⟨nm,n,r,[]⟩⟩;rw[room_create hF.ok (u:=⟨nm,n,r,[]⟩) hu rfl hnum.2.2.1];unfold canCreateF enoughN at hc;rw[hb.2,if_neg (by decide)]at hc
  split at hc
  ·cases hc
  ·show 0≤roomF F-r;omega
theorem clone_sound {F:Fam} (hF:F.sound) {nm ot:List UInt8} (hc:canCloneF F nm=0) (he:(cloneF F nm ot).2=0):(cloneF F nm ot).1.sound:=by
 have hok:=ok_clone hF.ok nm ot;unfold cloneF at he hok ⊢;unfold canCloneF at hc
 cases hg:getV F.vs nm with
 |none=>rw[hg]at he;cases he
 | some v=>
  rw[hg]at he hok hc;obtain⟨hm,rfl⟩:=getV_mem hg;simp only at he hok hc ⊢
  split at he
  ·simp at he
  split at he
  ·simp at he
  split at he
  ·simp at he
  rename_i h1 h2 h3
  rw[if_neg h1,if_neg h2,if_neg h3]at hok ⊢;have hu:getV F.vs ot=none:=by simpa using h2
  refine⟨hok,fun w hw=> ?_,?_⟩
  ·rcases mem_putV.1 hw with rfl|hw
   ·exact hF.small v hm
   ·exact hF.small w hw.1
  ·show 0≤roomF ⟨F.N,putV F.vs ⟨ot,v.n,0,v.l⟩⟩;rw[room_clone hF.ok (u:=⟨ot,v.n,0,v.l⟩) hg hu rfl rfl];unfold enoughN at hc
   split at hc
   ·cases hc
   ·omega
theorem delete_sound {F:Fam} (hF:F.sound) {nm:List UInt8} (he:(deleteF F nm).2.2=0):(deleteF F nm).1.sound:=by
 have hok:=ok_delete hF.ok nm;unfold deleteF at he hok ⊢
 cases hg:getV F.vs nm with
 |none=>rw[hg]at he;cases he
 | some v=>
  rw[hg]at hok;simp only at hok ⊢;refine⟨hok,fun w hw=>hF.small w (mem_delV.1 hw).1,?_⟩;have:=room_delete hF.ok nm;have:=hF.room;omega
theorem unmap_sound {F:Fam} (hF:F.sound) {nm:List UInt8} {p n:Int} (he:(unmapF F nm p n).2.2=0):(unmapF F nm p n).1.sound:=by
 have hok:=ok_unmap hF.ok nm p n;unfold unmapF at he hok ⊢
 cases hg:getV F.vs nm with
 |none=>rw[hg]at he;cases he
 | some v=>
  rw[hg]at he hok;obtain⟨hm,rfl⟩:=getV_mem hg;simp only at he hok ⊢
  split at he
  ·simp at he
  rename_i hi
  rw[if_neg hi]at hok ⊢;have hi:inB p n v.n=true:=by simpa using hi
  have hv:=hF.ok.vol v hm;have hw:=(hv.cut hi).1;refine⟨hok,fun w hw=> ?_,?_⟩
  ·rcases mem_putV.1 hw with rfl|hw
   ·exact hF.small v hm
   ·exact hF.small w hw.1
  ·have h1:=room_cut hF.ok hg hok fun i _=>by
    have h2:=cnt_cut v.l p n i hw hv.valid;have h3:=(cnt_bound (inL v.l p n) i).1;omega
   have:=hF.room;exact Int.le_trans this h1
theorem step_sound {F:Fam} (hF:F.sound) {s:Step36} (hs:s.ok) (h0:s.k%8=0→canCreateF F s.n s.a=0) (h1:s.k%8=1→canCloneF F (nameN s.v)=0) (h3:s.k%8≤3):(stepE F s).sound:=by
 unfold stepE
 split
 ·rename_i he
  unfold stepF at he ⊢;by_cases e0:s.k%8=0
  ·rw[if_pos e0]at he ⊢;exact create_sound hF hs.n.2 (h0 e0) he
  rw[if_neg e0]at he ⊢;by_cases e1:s.k%8=1
  ·rw[if_pos e1]at he ⊢;exact clone_sound hF (h1 e1) he
  rw[if_neg e1]at he ⊢;by_cases e2:s.k%8=2
  ·rw[if_pos e2]at he ⊢;exact delete_sound hF he
  rw[if_neg e2]at he ⊢;rw[if_pos (by have:=hs.k;omega)]at he ⊢;exact unmap_sound hF he
 ·exact hF
theorem stepE_keeps {F:Fam} (hF:F.ok) {s:Step36} (hs:s.ok):Keeps F (stepE F s):=by
 unfold stepE
 split
 ·rename_i he
  have hN:(stepF F s).1.N=F.N:=by
   revert he;unfold stepF
   split
   ·show(createF F (nameN s.v) s.n s.a).2=0→(createF F (nameN s.v) s.n s.a).1.N=F.N;unfold createF
    split
    ·intro h;simp at h
    split
    ·intro h;simp at h
    split
    ·intro h;simp at h
    intro _;rfl
   split
   ·show(cloneF F (nameN s.v) (nameN s.o)).2=0→(cloneF F (nameN s.v) (nameN s.o)).1.N=F.N;unfold cloneF
    split
    ·intro h;simp at h
    split
    ·intro h;simp at h
    split
    ·intro h;simp at h
    split
    ·intro h;simp at h
    intro _;rfl
   split
   ·unfold deleteF
    split
    ·intro h;simp at h
    intro _;rfl
   split
   ·unfold unmapF
    split
    ·intro h;simp at h
    split
    ·intro h;simp at h
    intro _;rfl
   unfold assignF
   split
   ·intro h;simp at h
   split
   ·intro h;simp at h
   intro _;rfl
  refine⟨hN,fun v hv hn=>step_other hF he hv (.inl fun e=>hn ?_)⟩;have hb:=(hF.vol v hv).name;rw[e]at hb ⊢;exact nameN_ok hs.v.1 hb
 ·exact Keeps.refl hF
theorem write_letter {F:Fam} (hF:F.ok) {v:Vol} {k:Int} (hk:0≤k) (hv:getV F.vs (nameN k)=some v):letter5 v.nm:=by
 obtain⟨hm,he⟩:=getV_mem hv;have hb:=(hF.vol v hm).name;rw[he]at hb ⊢;exact nameN_ok hk hb
theorem new_sound (N:Nat) (hN:N≤65536):(⟨N,[]⟩:Fam).sound:=by
 refine⟨(good_new N hN).1,fun v hv=>by simp at hv,?_⟩;unfold roomF claimsF freeN;simp
end Go.Proofs.YtpjlignclchgiaaGreat
