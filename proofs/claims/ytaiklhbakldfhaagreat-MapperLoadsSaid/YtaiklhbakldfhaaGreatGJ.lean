/-
  thin: claim, Claim, enough.
  thin: Claims.
  thin: Room, CanCreate.
  thin: CanClone.
  thin: Need.
  tegularef37: Claim, Claims.
  tegularef37: Free, Room.
  tegularef37: exclusive, Need.
  tegularef37: CanCreate, CanClone, CanWrite, Lowest.
  Conditions: as each theorem says.
-/
import Derived.Test.YtaiklhbakldfhaaGreatGI
import Derived.Test.YtaiklhbakldfhaaGreatHQ
import Derived.Test.YtaiklhbakldfhaaGreatGS
import Derived.Test.YtaiklhbakldfhaaGreatHU
import Derived.Test.YtaiklhbakldfhaaGreatFcR
namespace Go.Proofs.YtaiklhbakldfhaaGreat
open Go.Lib (hid)
set_option linter.unusedSimpArgs false
set_option linter.unusedVariables false
set_option maxRecDepth 100000
set_option maxHeartbeats 16000000
open Go.RowKit Go.Maps
theorem aDa (im:List UInt8) (i1 i2 i3 i4:Int) (w:World) (h:0<=i2/\i2<=65536/\0<=i4/\i4<=65536):
  Calls Tryz.prog 128 #[.agg #[nmV im,.int .i64 i1,.int .i64 i2,.int .i64 i3,.int .i64 i4]] w fun e w'=>e= .returned (.int .i64 (max 0 (i2-i4)))/\Below w.heap.size w w':=by
 have hk:=(Below.refl w.heap.size w).bMq (.cells #[nmV im,.int .i64 i1,.int .i64 i2,.int .i64 i3,.int .i64 i4] 73);go_enter Tryz.func128,Tryz.ntmps128;go_wp2_with fail;go_ret;exact⟨rfl,hk⟩
theorem aCl (a b:Int) (w:World) (v:Int) (hv:gP a b=v):
  Calls Tryz.prog 78 #[.int .i64 a,.int .i64 b] w fun e w'=>e= .returned (.int .i64 v)/\Below w.heap.size w w':=by
 have hB:=Below.refl w.heap.size w;subst hv;unfold gP;by_cases h:a>b
 ·rw[if_pos h];go_enter Tryz.func78,Tryz.ntmps78;go_wp2_with fail;go_ret;exact⟨rfl,hB⟩
 ·rw[if_neg h];go_enter Tryz.func78,Tryz.ntmps78;go_wp2_with fail;go_ret;exact⟨rfl,hB⟩
theorem nT {F:Fam} {nm:List UInt8} (h:aP F.vs nm=none):eP F nm=(⟨[],0,0,0,0⟩,9)/\iC F nm=(0,9):=by
 unfold eP iC;rw[h];exact⟨rfl,rfl⟩
theorem lJ {F:Fam} {nm:List UInt8} {v:Vol} (h:aP F.vs nm=some v):eP F nm=(⟨v.nm,v.n,v.r,aT v.l,bF F.C v.l⟩,0)/\iC F nm=(max 0 (v.r-bF F.C v.l),0):=by
 unfold eP iC;rw[h];exact⟨rfl,rfl⟩
theorem aBm {F:Fam} (hF:F.ok) {v:Vol} (hv:v∈F.vs):0<=bF F.C v.l/\bF F.C v.l<=65536:=by
 have h1:=iP (fun i=>iV v.l i&&bB F.C i) F.C.length;have h2:=hF.hN;rw[F.bMs]at h1;unfold bF;rw[F.bMs];omega
theorem aGy {F:Fam} (hF:F.ok) (nm:List UInt8):∃ im i1 i2 i3 i4 e0,eP F nm=(⟨im,i1,i2,i3,i4⟩,e0)/\iC F nm=(max 0 (i2-i4),e0)/\0<=i2/\i2<=65536/\0<=i4/\i4<=65536:=by
 cases hg:aP F.vs nm with
 |none=>exact⟨[],0,0,0,0,9,(nT hg).1,(nT hg).2,by omega⟩
 | some v=>
  have hm:=(aH hg).1;have hv:=hF.vol v hm;have h1:=aBm hF hm;have h2:=hv.r1;have h4:=hv.r0;have h5:=hv.n2;have h3:=hv.n1;exact⟨v.nm,v.n,v.r,_,_,0,(lJ hg).1,(lJ hg).2,by omega,by omega,h1.1,h1.2⟩
theorem aJj (F:Fam) (k e0:Int) (fv:Value) (nm:List UInt8) (w:World) (hF:F.ok) (hs:∀ v∈F.vs,v.l.length<=9000) (h:bA w fv F) (hnm:nm.length<=maxLen) (he:iC F nm=(k,e0)):
  Calls Tryz.prog 73 #[fv,nmV nm] w fun e w'=>e= .returned (.tuple #[.int .i64 k,.int .i64 e0])/\Below w.heap.size w w':=by
 obtain⟨im,i1,i2,i3,i4,e1,hi,hc,hi2⟩:=aGy hF nm;rw[hc]at he;obtain⟨rfl,rfl⟩:=Prod.mk.inj he;obtain⟨a,c,mb,rfl⟩:=h.form;have hb:=(Below.refl w.heap.size w).bMq (.cells #[.slice a F.N c,.map mb] 46);have HI:=hid (sD F im i1 i2 i3 i4 e1 _ nm _ hF hs (h.keep hb) hnm hi);have HB:=hid hb;have HI2:=hid hi2;clear he hc hi hi2 hb h hs hF;go_enter Tryz.func73,Tryz.ntmps73;go_wp2_with fail;refine HI.o.mono ?_;rintro e w1 ⟨rfl,hb⟩;have HB1:=hid (HB.o.on hb);clear hb;go_wp2_with fail;refine(aDa im i1 i2 i3 i4 _ (by have:=HI2.o;omega)).mono ?_;rintro e w2 ⟨rfl,hb⟩;have HB2:=hid ((HB1.o.bMq _).on hb);clear hb;go_wp2_with fail;go_ret2;exact⟨rfl,HB2.o⟩
open Go.RowKit Go.Maps
structure CM (w W:World) (u v:Value) (F:Fam) (s:Int):Prop where
 b0:W.cell? ⟨w.heap.size,0,none⟩=some u
 b1:W.cell? ⟨w.heap.size,1,none⟩=some v
 t:W.cell? ⟨w.heap.size+1,0,none⟩=some (.int .i64 s)
 f:W.frozen? ⟨w.heap.size+1,0,none⟩=false
 fam:bA W (.agg #[u,v]) F
 B:Below w.heap.size w W
theorem CM.later {w W W':World} {u v:Value} {F:Fam} {s:Int} (h:CM w W u v F s) (hb:Below W.heap.size W W'):CM w W' u v F s:=
 ⟨hb.keep h.b0,hb.keep h.b1,hb.keep h.t,hb.bMw h.t h.f,h.fam.keep hb,h.B.on hb⟩
theorem CM.put {w W:World} {u v:Value} {F:Fam} {s:Int} (h:CM w W u v F s) (hf:bA w (.agg #[u,v]) F) (k:Int):CM w (W.setCell ⟨w.heap.size+1,0,none⟩ (.int .i64 k)) u v F k:=by
 have hB:=h.B.setCell (p:=⟨w.heap.size+1,0,none⟩) (by simp only;omega) (.int .i64 k);refine⟨(cell_far (Nat.ne_of_lt (Nat.lt_succ_self _))).trans h.b0,(cell_far (Nat.ne_of_lt (Nat.lt_succ_self _))).trans h.b1,World.cell?_setCell_same _ _ _ h.t,by rw[World.frozen?_setCell];exact h.f,hf.keep hB,hB⟩
theorem CM.init (w:World) (u v:Value) (F:Fam) (hf:bA w (.agg #[u,v]) F):CM w ((w.alloc (.cells #[u,v] 46)).alloc (.cells #[.int .i64 0] 3)) u v F 0:=by
 have hB:=((Below.refl w.heap.size w).bMq (.cells #[u,v] 46)).bMq (.cells #[.int .i64 0] 3);have e:(w.alloc (.cells #[u,v] 46)).heap.size=w.heap.size+1:=by simp
 refine⟨((Below.refl _ _).bMq _).keep (by simp),((Below.refl _ _).bMq _).keep (by simp),?_,?_,hf.keep hB,hB⟩
 ·rw[<-e,World.cell?_alloc_new];rfl
 ·rw[<-e];simp
def bKg (w W:World) (u v:Value) (F:Fam) (s:Int) (na:Option Addr) (l:List (List UInt8)) (e:Ending) (W':World):Prop:=e= .returned (.tuple #[])/\CM w W' u v F s/\yF W' na l
theorem yF.put {W:World} {na:Option Addr} {l:List (List UInt8)} (h:yF W na l) {T:Nat} {s:Int} (ht:W.cell? ⟨T,0,none⟩=some (.int .i64 s)) (k:Value):yF (W.setCell ⟨T,0,none⟩ k) na l:=by
 refine h.imp id fun⟨g,h1,h2⟩=>⟨g,h1,fun j x hj=> ?_⟩;by_cases hg:g=T
 ·subst hg
  cases l with
  |nil=>simp at hj
  | cons y r=>
   have:=h2 0 y rfl;rw[ht]at this;cases this
 ·exact(cell_far hg).trans (h2 j x hj)
theorem bIa (F:Fam) (k e0 s q:Int) (u v:Value) (nm:List UInt8) (w W:World) (na:Option Addr) (l:List (List UInt8)) (hF:F.ok) (hs:∀ v∈F.vs,v.l.length<=9000) (hf:bA w (.agg #[u,v]) F) (h:CM w W u v F s) (hn:yF W na l) (hnm:nm.length<=maxLen) (he:iC F nm=(k,e0)) (hk:0<=k/\k<=65536) (hq:0<=s/\s<=1000000000) (hq2:s+k=q):
  Calls Tryz.prog 72 #[nmV nm,.pointer (some ⟨w.heap.size,0,none⟩),.pointer (some ⟨w.heap.size+1,0,none⟩)] W (bKg w W u v F q na l):=by
 have HH:=hid h;have HN:=hid hn;have HF:=hid hf;have b0:=h.b0;have b1:=h.b1;have HI:=hid (aJj F k e0 _ nm _ hF hs h.fam hnm he);have HQ:=hid hq2;clear h hn hF hs hf he hq2;obtain⟨a,c,mb,hfv⟩:=HF.o.form;obtain⟨rfl,rfl⟩:u= .slice a F.N c/\v= .map mb:=by simpa using hfv
 clear hfv;go_enter Tryz.func72,Tryz.ntmps72;go_wp2_with fail;refine HI.o.mono ?_;rintro e w1 ⟨rfl,hb⟩;have HH:=hid (HH.o.later hb);have HN:=hid (HN.o.keep hb);clear hb b0 b1;have t0:=HH.o.t;have f0:=HH.o.f;go_wp2_with fail;rw[HQ.o]
 go_end0
 exact⟨rfl,HH.o.put HF.o _,HN.o.put HH.o.t _⟩
theorem aLk {F:Fam} (hF:F.ok) {v:Vol} (hv:v∈F.vs):iC F v.nm=(aX F.C v,0):=by
 unfold iC;rw[iO hF.sorted hv]
theorem xW {F:Fam} (hF:F.ok) {v:Vol} (hv:v∈F.vs):0<=aX F.C v/\aX F.C v<=65536:=by
 have h1:=hF.vol v hv;have h2:=h1.r0;have h3:=h1.r1;have h4:=h1.n2;have h5:=bCd F.C v h2;omega
def rX (C:List Int) (vs:List Vol):Int:=(vs.map (aX C)).sum
theorem aJm (C:List Int) (vs:List Vol) (k:Nat) (h:k<vs.length):rX C (vs.take (k+1))=rX C (vs.take k)+aX C vs[k]:=by
 unfold rX;rw[List.take_succ_eq_append_getElem h,List.map_append,List.sum_append];simp
theorem bIb {C:List Int} {vs:List Vol} (h:∀ v∈vs,0<=aX C v/\aX C v<=65536):0<=rX C vs/\rX C vs<=65536*vs.length:=by
 induction vs with
 |nil=>simp[rX]
 | cons x r ih=>
  have h1:=ih fun v hv=>h v (by simp[hv]);have h2:=h x (by simp);unfold rX at h1 ⊢;simp only[List.map_cons,List.sum_cons,List.length_cons];omega
theorem sZ {F:Fam} (hF:F.ok) (k:Nat):0<=rX F.C (F.vs.take k)/\rX F.C (F.vs.take k)<=2097152:=by
 have h1:=bIb (C:=F.C) (vs:=F.vs.take k) fun v hv=>xW hF (List.mem_of_mem_take hv);have h2:=hF.few;have h3:(F.vs.take k).length<=F.vs.length:=by rw[List.length_take];omega
 omega
theorem aTi (F:Fam) (q:Int) (fv:Value) (w:World) (hF:F.ok) (hs:∀ v∈F.vs,v.l.length<=9000) (h:bA w fv F) (hq:jO F=q):
  Calls Tryz.prog 26 #[fv] w fun e w'=>e= .returned (.int .i64 q)/\Below w.heap.size w w':=by
 obtain⟨fa,fc,fm,rfl⟩:=h.form;have HH:=hid (CM.init w _ _ F h);have HF:=hid hF;have HS:=hid hs;have HW:=hid h;have HQ:=hid hq;have h32:=hF.few;clear hF hs h hq;go_enter Tryz.func26,Tryz.ntmps26;go_wp2_with fail;have b0:=HH.o.b0;have b1:=HH.o.b1;refine(aCj F _ _ HF.o HH.o.fam).mono ?_;rintro e w1 ⟨nv,rfl,hns,hb⟩;obtain⟨na,nc,rfl,hnr⟩:=hns.rd;rw[List.length_map];have HNR:Hid (yF w1 na (F.vs.map (·.nm))):=hid hnr;have HH:=hid (HH.o.later hb);clear hnr hns hb b0 b1;go_wp2_with fail;go_loopw [11] (fun i wr=>∃ k:Nat,k<=F.vs.length/\i= .int .i64 k/\CM w wr (.slice fa F.N fc) (.map fm) F (rX F.C (F.vs.take k))/\yF wr na (F.vs.map (·.nm))) (fun i _=>F.vs.length-(intOf i).toNat)
 case atStart=>exact⟨0,Nat.zero_le _,rfl,HH.o,HNR.o⟩
 case round=>
  obtain⟨k,hk,rfl,hc,hn⟩:=hrel;have HC:=hid hc;have HN:=hid hn;clear hc hn;by_cases hlt:k<F.vs.length
  ·have hn:=HN.o;have hge:(F.vs.map (·.nm))[k]? =some F.vs[k].nm:=by
    rw[List.getElem?_map,List.getElem?_eq_getElem hlt];rfl
   obtain⟨g,hna,hnm⟩:=hn.resolve_left (fun e=>by rw[e]at hge;simp at hge);subst hna;have hnc:=hnm k _ hge;have hmem:=List.getElem_mem hlt;have HT:=hid (aJm F.C F.vs k hlt);have HCL:=hid (aLk HF.o hmem);have HLE:=hid (xW HF.o hmem);have HNL:Hid (F.vs[k].nm.length<=maxLen):=hid (nI (HF.o.vol _ hmem).name);have HSB:=hid (sZ HF.o k);have hk0:(0:Int)<=k:=by omega
   have hk1:(k:Int)<F.vs.length:=by omega
   clear hmem hge hnm hn;generalize F.vs[k].nm=nm at *;generalize aX F.C F.vs[k]=cv at *;generalize rX F.C (F.vs.take k)=sm at *;go_wp2_with fail;refine(bIa F cv 0 sm _ _ _ nm w _ _ _ HF.o HS.o HW.o HC.o HN.o HNL.o HCL.o HLE.o ⟨HSB.o.1,by have:=HSB.o.2;omega⟩ HT.o.symm).mono ?_;rintro e w2 ⟨rfl,hc,hn⟩;have HC2:=hid hc;have HN2:=hid hn;clear hnc hc hn;go_wp2_with fail;go_roundw
   case rel=>exact⟨k+1,by omega,by go_num,HC2.o,HN2.o⟩
   case measure=>simp[intOf];omega
  ·obtain rfl:k=F.vs.length:=by omega
   have hc:=HC.o;rw[List.take_length]at hc;have t0:=hc.t;have e:rX F.C F.vs=q:=HQ.o;rw[e]at t0;have hB:=hc.B;clear hc e;go_wp2_with fail;go_ret;exact⟨rfl,hB⟩
open Go.RowKit Go.Maps
theorem bFf (l:List E) (M:Int) (h:∀ x∈l,0<=x.n/\x.n<=M):0<=aT l/\aT l<=M*l.length:=by
 induction l with
 |nil=>simp[aT]
 | cons x r ih=>
  have h1:=ih fun y hy=>h y (by simp[hy]);have h2:=h x (by simp);rw[xP,List.length_cons,show((r.length+1:Nat):Int)=r.length+1 by omega,Int.mul_add];omega
theorem bBm (C:List Int) (k:Nat):0<=aT ((jQ C).take k)/\aT ((jQ C).take k)<=4294967296:=by
 have h1:=bFf ((jQ C).take k) 65536 fun x hx=>by
  have:=(aD x).1 ((dV (picks (bS C) C.length)).1.1 x (List.mem_of_mem_take hx)).2;omega
 have h2:=oM C;have h3:((jQ C).take k).length<=(jQ C).length:=by rw[List.length_take];omega
 omega
theorem zZ {F:Fam} (hF:F.ok): -2097152<=cB F/\cB F<=65536:=by
 have h1:=iP (bS F.C) F.N;have h2:=hF.hN;have h3:=sZ hF F.vs.length;rw[List.take_length]at h3;have h4:jO F=rX F.C F.vs:=rfl;unfold cB mV;omega
structure RM (w W:World) (u v:Value) (F:Fam):Prop where
 b0:W.cell? ⟨w.heap.size,0,none⟩=some u
 b1:W.cell? ⟨w.heap.size,1,none⟩=some v
 fam:bA W (.agg #[u,v]) F
 B:Below w.heap.size w W
theorem RM.later {w W W':World} {u v:Value} {F:Fam} (h:RM w W u v F) (hb:Below W.heap.size W W'):RM w W' u v F:=
 ⟨hb.keep h.b0,hb.keep h.b1,h.fam.keep hb,h.B.on hb⟩
theorem RM.init (w:World) (u v:Value) (F:Fam) (hf:bA w (.agg #[u,v]) F):RM w (w.alloc (.cells #[u,v] 46)) u v F:=by
 have hB:=(Below.refl w.heap.size w).bMq (.cells #[u,v] 46);exact⟨by simp,by simp,hf.keep hB,hB⟩
theorem lX (F:Fam) (q:Int) (fv:Value) (w:World) (hF:F.ok) (hs:∀ v∈F.vs,v.l.length<=9000) (h:bA w fv F) (hq:cB F=q):
  Calls Tryz.prog 9 #[fv] w fun e w'=>e= .returned (.int .i64 q)/\Below w.heap.size w w':=by
 obtain⟨fa,fc,fm,rfl⟩:=h.form;have HH:=hid (RM.init w _ _ F h);have HF:=hid hF;have HS:=hid hs;have hc1:=sZ hF F.vs.length;rw[List.take_length]at hc1;have HQ:Hid (aT (jQ F.C)-rX F.C F.vs=q):=hid (by rw[bGb hF];exact hq);have HCS:Hid (jO F=rX F.C F.vs):=hid rfl;clear hF hs h hq;generalize rX F.C F.vs=cs at *;go_enter Tryz.func9,Tryz.ntmps9;go_wp2_with fail;have b0:=HH.o.b0;have b1:=HH.o.b1;refine(aTi F cs _ _ HF.o HS.o HH.o.fam HCS.o).mono ?_;rintro e w1 ⟨rfl,hb⟩;have HH:=hid (HH.o.later hb);clear hb b0 b1;have b0:=HH.o.b0;have b1:=HH.o.b1;go_wp2_with fail;refine(aRp F _ _ HH.o.fam).mono ?_;rintro e w2 ⟨sv,rfl,ho,hb⟩;have hfl:=oM F.C;obtain⟨za,zc,rfl,hz⟩:=ho.rd (by omega);have HZ:=hid hz;have HP:=hid (bBm F.C);have HB:=hid (HH.o.B.on hb);clear ho hb b0 b1 hz HH HF HS;generalize jQ F.C=Z at *;go_wp2_with fail;go_loopw [3,12] (fun v i wr=>∃ k:Nat,k<=Z.length/\i= .int .i64 k/\v= .int .i64 (-cs+aT (Z.take k))/\Below w2.heap.size w2 wr) (fun _ i _=>Z.length-(intOf i).toNat)
 case atStart=>exact⟨0,Nat.zero_le _,rfl,by simp[aT],Below.refl _ _⟩
 case round=>
  obtain⟨k,hk,rfl,rfl,hB⟩:=hrel;by_cases hlt:k<Z.length
  ·obtain⟨b,o,rfl,hat⟩:=(HZ.o.keep hB).at (by omega);obtain⟨h1,h2,h3⟩:=hat k _ (List.getElem?_eq_getElem hlt);have HT:=hid (aCc Z k hlt);have q1:=HP.o k;have q2:=HP.o (k+1);rw[HT.o]at q2;have hk0:(0:Int)<=k:=by omega
   have hk1:(k:Int)<Z.length:=by omega
   generalize Z[k]=x at *;generalize aT (Z.take k)=sm at *;obtain⟨xa,xn,xs⟩:=x;simp only at h1 h2 h3 q2;have HBK:=hid (hB.bMq (.cells #[.int .i64 xa,.int .i64 xn,.int .i64 xs] 81));clear hat hB;go_wp2_with fail;go_roundw
   case rel=>exact⟨k+1,by omega,by go_num,by rw[HT.o];simp[Int.add_assoc],HBK.o⟩
   case measure=>simp[intOf];omega
  ·obtain rfl:k=Z.length:=by omega
   rw[List.take_length];have e: -cs+aT Z=q:=by have:=HQ.o;omega
   rw[e];have hR:=HB.o.on hB;clear hB e;go_wp2_with fail;go_ret;exact⟨rfl,hR⟩
theorem aGh (n r:Int):(aMt n r=true/\1<=n/\n<=65536/\0<=r/\r<=n)∨(aMt n r=false/\(n<1∨(1<=n/\(65536<n∨(n<=65536/\(r<0∨(0<=r/\n<r))))))):=by
 unfold aMt;by_cases h:1<=n/\n<=65536/\0<=r/\r<=n
 ·exact .inl ⟨by simp[h],h⟩
 ·exact .inr ⟨by simpa using h,by omega⟩
theorem aTh (F:Fam) (q:Int) (fv:Value) (n r:Int) (w:World) (hF:F.ok) (hs:∀ v∈F.vs,v.l.length<=9000) (h:bA w fv F) (hq:eQ F n r=q):
  Calls Tryz.prog 29 #[fv,.int .i64 n,.int .i64 r] w fun e w'=>e= .returned (.int .i64 q)/\Below w.heap.size w w':=by
 obtain⟨fa,fc,fm,rfl⟩:=h.form;have HH:=hid (RM.init w _ _ F h);have HF:=hid hF;have HS:=hid hs;clear hF hs h;rcases aGh n r with ⟨hn,hn2⟩|⟨hn,hn2⟩
 ·have HQ:Hid (gP r (cB F)=q):=hid (by rw[<-hq];unfold eQ;rw[hn,if_neg (by simp)]);clear hn hq;go_enter Tryz.func29,Tryz.ntmps29;have b0:=HH.o.b0;have b1:=HH.o.b1;go_wp2_with fail;refine(lX F _ _ _ HF.o HS.o HH.o.fam rfl).mono ?_;rintro e w1 ⟨rfl,hb⟩;have HB:=hid (HH.o.B.on hb);clear hb b0 b1;generalize cB F=rm at *;go_wp2_with fail;refine(aCl _ _ _ _ HQ.o).mono ?_;rintro e w2 ⟨rfl,hb⟩;have hR:=HB.o.on hb;clear hb;go_wp2_with fail;go_ret;exact⟨rfl,hR⟩
 ·have hq2:(1:Int)=q:=by rw[<-hq];unfold eQ;rw[hn,if_pos rfl]
  subst hq2;have hB:=HH.o.B;clear hn hq HH;rcases hn2 with h1|⟨h1,h2|⟨h2,h3|⟨h3,h4⟩⟩⟩
  all_goals
   go_enter Tryz.func29,Tryz.ntmps29;go_wp2_with fail;go_ret;exact⟨rfl,hB⟩
open Go.RowKit Go.Maps
theorem aIc {F:Fam} (hF:F.ok) (nm:List UInt8):(eP F nm=(⟨[],0,0,0,0⟩,9)/\fB F nm=9)∨ ∃im i1 i2 i3 i4,eP F nm=(⟨im,i1,i2,i3,i4⟩,0)/\fB F nm=gP (i2-max 0 (i2-i4)) (cB F)/\0<=i2/\i2<=65536/\0<=i4/\i4<=65536:=by
 cases hg:aP F.vs nm with
 |none=>exact .inl ⟨(nT hg).1,by unfold fB;rw[hg]⟩
 | some v=>
  have hm:=(aH hg).1;have hv:=hF.vol v hm;have h1:=aBm hF hm;have h2:=hv.r1;have h4:=hv.r0;have h5:=hv.n2;exact .inr ⟨v.nm,v.n,v.r,_,_,(lJ hg).1,by unfold fB;rw[hg];rfl,h4,by omega,h1.1,h1.2⟩
theorem bDd (im:List UInt8) (i1 i2 i3 i4 m:Int) (w:World) (h:0<=i2/\i2<=65536/\0<=i4/\i4<=65536) (hm:max 0 (i2-i4)=m):
  Calls Tryz.prog 128 #[.agg #[nmV im,.int .i64 i1,.int .i64 i2,.int .i64 i3,.int .i64 i4]] w fun e w'=>e= .returned (.int .i64 m)/\Below w.heap.size w w':=by
 subst hm;exact aDa im i1 i2 i3 i4 w h
theorem aYw (F:Fam) (q:Int) (fv:Value) (nm:List UInt8) (w:World) (hF:F.ok) (hs:∀ v∈F.vs,v.l.length<=9000) (h:bA w fv F) (hnm:nm.length<=maxLen) (hq:fB F nm=q):
  Calls Tryz.prog 155 #[fv,nmV nm] w fun e w'=>e= .returned (.int .i64 q)/\Below w.heap.size w w':=by
 obtain⟨fa,fc,fm,rfl⟩:=h.form;have HH:=hid (RM.init w _ _ F h);have HF:=hid hF;have HS:=hid hs;clear hs h;rcases aIc hF nm with ⟨hi,hc⟩|⟨im,i1,i2,i3,i4,hi,hc,hb⟩
 ·have hq2:(9:Int)=q:=by rw[<-hq,hc]
  subst hq2;have HI:=hid hi;clear hi hc hq hF;go_enter Tryz.func155,Tryz.ntmps155;have b0:=HH.o.b0;have b1:=HH.o.b1;go_wp2_with fail;refine(sD F [] 0 0 0 0 9 _ nm _ HF.o HS.o HH.o.fam hnm HI.o).mono ?_;rintro e w1 ⟨rfl,hb⟩;have hB:=(HH.o.B.on hb).bMq (.cells #[nmV [],.int .i64 0,.int .i64 0,.int .i64 0,.int .i64 0] 73);clear hb b0 b1 HH;go_wp2_with fail;go_ret;exact⟨rfl,hB⟩
 ·have HQ:Hid (gP (i2-max 0 (i2-i4)) (cB F)=q):=hid (by rw[<-hq,hc]);have HI:=hid hi;have HB:=hid hb;have HRB:=hid (zZ hF);clear hi hc hq hF hb;go_enter Tryz.func155,Tryz.ntmps155;have b0:=HH.o.b0;have b1:=HH.o.b1;go_wp2_with fail;refine(sD F im i1 i2 i3 i4 0 _ nm _ HF.o HS.o HH.o.fam hnm HI.o).mono ?_;rintro e w1 ⟨rfl,hb⟩;have hk:=hb.bMq (.cells #[nmV im,.int .i64 i1,.int .i64 i2,.int .i64 i3,.int .i64 i4] 73);have HH:=hid (HH.o.later hk);have HT:=hid (IT.new w1 _ rfl ⟨im,i1,i2,i3,i4⟩ 73);clear hb hk b0 b1;go_upto_region 4 with fail;generalize w1.alloc (.cells #[nmV im,.int .i64 i1,.int .i64 i2,.int .i64 i3,.int .i64 i4] 73)=W at *;generalize w1.heap.size=T at *;obtain⟨rm,hr⟩:∃ rm,cB F=rm:=⟨_,rfl⟩;rw[hr]at HQ HRB;have HR:=hid hr;clear hr;have hmx:0<=max 0 (i2-i4)/\max 0 (i2-i4)<=65536:=by have:=HB.o;omega
  obtain⟨hb1,hb2,_,_⟩:=HB.o;obtain⟨mx,hr⟩:∃ mx,max 0 (i2-i4)=mx:=⟨_,rfl⟩;rw[hr]at HQ hmx;obtain⟨hm1,hm2⟩:=hmx;have HMX:=hid hr;clear hr;have b0:=HH.o.b0;have b1:=HH.o.b1;have t0:=HT.o.t0;have t1:=HT.o.t1;have t2:=HT.o.t2;have t3:=HT.o.t3;have t4:=HT.o.t4;refine aC (by kernel_rfl) (by kernel_rfl) ?_
  repeat(go_big_quiet_step ((first|(go_at_call 128;exact Calls.bMv (bDd im i1 i2 i3 i4 mx _ HB.o HMX.o))|(go_at_call 9;exact Calls.bMv (lX F rm _ _ HF.o HS.o (HH.o.fam.keep (World.bMr _ _)) HR.o))|(go_at_call 78;exact Calls.bMv (aCl _ _ _ q HQ.o)))))
  refine wpQuiet_nil ?_;intro _ hw';obtain⟨nq,hw''⟩:=hw';subst hw'';have hB:=HH.o.B.on (World.bMr W nq);clear b0 b1 t0 t1 t2 t3 t4;go_wp2_with fail;go_ret;exact⟨rfl,hB⟩
open Go.RowKit Go.Maps
theorem aGj {F:Fam} (hF:F.ok) (hs:∀ v∈F.vs,v.l.length<=9000) (nm:List UInt8) (p n:Int):(∃e0,e0≠0/\fU F nm p n=([],e0)/\lS F nm p n=(0,e0))∨
  ∃L,fU F nm p n=(L,0)/\lS F nm p n=(n-dQ F.C L,0)/\0<=n/\n<=65536/\aS F.N L=true/\L.length<=65536:=by
 rcases aDh F nm p n with ⟨hg,hc⟩|⟨v,hg,⟨hn,hc⟩|⟨hn,hc⟩⟩
 ·exact .inl ⟨9,by decide,hc,by unfold lS;rw[hc];rfl⟩
 ·exact .inl ⟨2,by decide,hc,by unfold lS;rw[hc];rfl⟩
 ·have hm:=(aH hg).1;have hv:=hF.vol v hm;have h1:=(iN _ _ _).1 hn;have h2:=hv.n2;have h3:=(nK v.l p n (aK hv.valid)).1;have h4:=hv.short.1;exact .inr ⟨inL v.l p n,hc,by unfold lS;rw[hc];rfl,by omega,by omega,aEq p n hv.perm,by omega⟩
theorem zR (F:Fam) (k e0:Int) (fv:Value) (nm:List UInt8) (p n:Int) (w:World) (hF:F.ok) (hs:∀ v∈F.vs,v.l.length<=9000) (h:bA w fv F) (hnm:nm.length<=maxLen) (hp: -9223372036854775808<=p/\p<=9223372036854775807) (hn: -9223372036854775808<=n/\n<=9223372036854775807) (hq:lS F nm p n=(k,e0)):
  Calls Tryz.prog 39 #[fv,nmV nm,.int .i64 p,.int .i64 n] w fun e w'=>e= .returned (.tuple #[.int .i64 k,.int .i64 e0])/\Below w.heap.size w w':=by
 obtain⟨fa,fc,fm,rfl⟩:=h.form;have HH:=hid (RM.init w _ _ F h);have HF:=hid hF;have HS:=hid hs;clear h;rcases aGj hF hs nm p n with ⟨e1,he,hr,hc⟩|⟨L,hr,hc,hn1,hn2,hpm,hlen⟩
 ·rw[hc]at hq;obtain⟨rfl,rfl⟩:=Prod.mk.inj hq;have HR:=hid hr;clear hc hq hr hF hs;go_enter Tryz.func39,Tryz.ntmps39;have b0:=HH.o.b0;have b1:=HH.o.b1;go_wp2_with fail;refine(aMl F [] e1 _ nm p n _ HF.o HH.o.fam hnm hp hn HR.o).mono ?_;rintro e w1 ⟨sv,rfl,ho,hb⟩;obtain⟨sa,sc,rfl,_⟩:=ho.rd (by simp);have HB:=hid (HH.o.B.on hb);have hz:(e1==0)=false:=by simpa using he
  clear hb ho b0 b1 HH he;go_wp2_with fail;go_ret2;exact⟨rfl,HB.o⟩
 ·rw [hc]at hq;obtain⟨hk,rfl⟩:=Prod.mk.inj hq;have HR:=hid hr;have HK:=hid hk;have HC9:=hid F.bMs;have HN9:=hid hF.hN;have HPM:=hid ((aO _ _).1 hpm);have HETK:=hid (zH F.C L);have HBD:Hid (∀k,0<=dQ F.C (L.take k)/\dQ F.C (L.take k)<=65536*65536):=hid fun k=>by
   have h1:=aAv F.C (L.take k) 65536 (fun y hy=>by
    have h2:=(aO _ _).1 hpm y (List.mem_of_mem_take hy);have h3:=hF.hN
    omega)
   have h4:=List.length_take_le' k L;omega
  clear hc hq hr hk hpm hF hs;go_enter Tryz.func39,Tryz.ntmps39;have b0:=HH.o.b0;have b1:=HH.o.b1;go_wp2_with fail;refine(aMl F L 0 _ nm p n _ HF.o HH.o.fam hnm hp hn HR.o).mono ?_;rintro e w1 ⟨sv,rfl,ho,hb⟩;obtain⟨sa,sc,rfl,hl⟩:=ho.rd (by omega);have HL:=hid hl;have HH1:=hid (HH.o.later hb);clear hb ho hl b0 b1 HH;go_wp2_with fail;go_loopw [3,28] (fun v i wr=>∃ k:Nat,k<=L.length/\i= .int .i64 k/\v= .int .i64 (n-dQ F.C (L.take k))/\Below w1.heap.size w1 wr) (fun _ i _=>L.length-(intOf i).toNat)
  case atStart=>exact⟨0,Nat.zero_le _,rfl,by simp[dQ],Below.refl _ _⟩
  case round=>
   obtain⟨k,hk,rfl,rfl,hB⟩:=hrel;by_cases hlt:k<L.length
   ·obtain ⟨b,o,rfl,hat⟩:=(HL.o.keep hB).at (by omega);obtain⟨h1,h2,h3⟩:=hat k _ (List.getElem?_eq_getElem hlt);have HT:=hid (HETK.o k hlt);obtain⟨y1,y2,y3⟩:=HPM.o _ (List.getElem_mem hlt);obtain⟨d1,d2⟩:=HBD.o k;have hk0:(0:Int)<=k:=by omega
    have hk1:(k:Int)<L.length:=by omega
    generalize L[k]=x at *;obtain⟨xa,xn,xs⟩:=x;simp only at h1 h2 h3 y1 y2 y3;obtain⟨s0,rfl⟩:=Int.eq_ofNat_of_zero_le y2;obtain⟨n0,rfl⟩:=Int.eq_ofNat_of_zero_le (show 0<=xn by omega);have HOX:Hid (dQ F.C (L.take (k+1))=dQ F.C (L.take k)+aL (fun j=>bB F.C (s0+j)) n0):=hid (by rw[HT.o];rfl);generalize dQ F.C (L.take k)=ex at *;have hBK:=hB.bMq (.cells #[.int .i64 xa,.int .i64 n0,.int .i64 s0] 81);have HBK:=hid hBK;have HH2:=hid (HH1.o.later hBK);have hx1:(wr.alloc (.cells #[.int .i64 xa,.int .i64 n0,.int .i64 s0] 81)).cell? ⟨wr.heap.size,1,none⟩=some (.int .i64 n0):=by simp
    have hx2:(wr.alloc (.cells #[.int .i64 xa,.int .i64 n0,.int .i64 s0] 81)).cell? ⟨wr.heap.size,2,none⟩=some (.int .i64 s0):=by simp
    have HX1:=hid hx1;have HX2:=hid hx2;have hsn:s0+n0<=F.N:=by omega
    have hN9:F.N<=65536:=HN9.o;clear hat hB hBK HT;go_wp2_with fail;clear h1 h2 h3 hx1 hx2;generalize wr.alloc (.cells #[.int .i64 xa,.int .i64 n0,.int .i64 s0] 81)=W2 at *;generalize wr.heap.size=X at *;go_loopw [3,14] (fun v t wi=>∃ p:Nat,p<=n0/\t= .int .i64 ((s0:Int)+p)/\v= .int .i64 (n-ex-aL (fun j=>bB F.C (s0+j)) p)/\Below W2.heap.size W2 wi) (fun _ t _=>(s0+n0)-(intOf t).toNat)
    case atStart=>exact⟨0,Nat.zero_le _,by simp,by simp[aL],Below.refl _ _⟩
    case round=>
     obtain⟨p,hp,rfl,rfl,hBi⟩:=hrel;have x1:=hBi.keep HX1.o;have x2:=hBi.keep HX2.o;have a1:=iP (fun j=>bB F.C (s0+j)) p;by_cases hpn:p<n0
     ·have HM:=hid (HH2.o.later hBi);have HBI:=hid hBi;have b0:=HM.o.b0;have b1:=HM.o.b1;have HOF:Hid (ofC F.C ((s0:Int)+p)=F.C.getD (s0+p) 0):=hid (by
       have:=bLd F.C (s0+p) (by rw[HC9.o];omega)
       rwa [show((s0+p:Nat):Int)=(s0:Int)+p by omega]at this)
      have HA:Hid (aL (fun j=>bB F.C (s0+j)) (p+1)=aL (fun j=>bB F.C (s0+j)) p+(if F.C.getD (s0+p) 0=1 then 1 else 0)):=hid (by simp[aL,bB]);generalize F.C.getD (s0+p) 0=cv at *;generalize aL (fun j=>bB F.C (s0+j)) p=ar at *;clear hBi;by_cases hc:cv=1
      ·subst hc;go_wp2_with fail;refine(aNm F _ _ 1 _ HM.o.fam HOF.o).mono ?_;rintro e w3 ⟨rfl,hb⟩;have HBE:=hid (HBI.o.on hb);clear hb b0 b1 x1 x2;go_wp2_with fail;go_roundw
       case rel=>exact⟨p+1,by omega,by go_num,by rw[HA.o,if_pos trivial];congr 1;omega,HBE.o⟩
       case measure=>simp[intOf];omega
      ·have hcf:(cv==1)=false:=by simpa using hc
       rw[if_neg hc]at HA;clear hc;go_wp2_with fail;refine(aNm F _ _ cv _ HM.o.fam HOF.o).mono ?_;rintro e w3 ⟨rfl,hb⟩;have HBE:=hid (HBI.o.on hb);clear hb b0 b1 x1 x2;go_wp2_with fail;go_roundw
       case rel=>exact⟨p+1,by omega,by go_num,by rw[HA.o];rfl,HBE.o⟩
       case measure=>simp[intOf];omega
     ·obtain rfl:p=n0:=by omega
      have HBE:=hid (HBK.o.on hBi);clear hBi;go_wp2_with fail;go_roundw
      case rel=>exact⟨k+1,by omega,by go_num,by rw[HOX.o];congr 1;omega,HBE.o⟩
      case measure=>simp[intOf];omega
   ·obtain rfl:k=L.length:=by omega
    rw[List.take_length];rw[HK.o];have hR:=HH1.o.B.on hB;clear hB;go_wp2_with fail;go_ret2;exact⟨rfl,hR⟩
theorem aLl {F:Fam} (hF:F.ok) (nm:List UInt8):0<=(iC F nm).1/\(iC F nm).1<=65536:=by
 obtain⟨im,i1,i2,i3,i4,e0,_,hc,h⟩:=aGy hF nm;rw[hc];simp only;omega
theorem aJi (F:Fam) (q:Int) (fv:Value) (nm:List UInt8) (p n:Int) (w:World) (hF:F.ok) (hs:∀ v∈F.vs,v.l.length<=9000) (h:bA w fv F) (hnm:nm.length<=maxLen) (hp: -9223372036854775808<=p/\p<=9223372036854775807) (hn: -9223372036854775808<=n/\n<=9223372036854775807) (hq:fM F nm p n=q):
  Calls Tryz.prog 40 #[fv,nmV nm,.int .i64 p,.int .i64 n] w fun e w'=>e= .returned (.int .i64 q)/\Below w.heap.size w w':=by
 obtain⟨fa,fc,fm,rfl⟩:=h.form;have HH:=hid (RM.init w _ _ F h);have HF:=hid hF;have HS:=hid hs;have HCB:=hid (aLl hF nm);have HRB:=hid (zZ hF);unfold fM at hq;obtain⟨nd,hnd⟩:∃ nd,lS F nm p n=nd:=⟨_,rfl⟩;obtain⟨nk,e0⟩:=nd;rw[hnd]at hq;simp only at hq;have HN:=hid hnd;clear h hnd hF hs;by_cases he:e0=0
 ·subst he;rw[if_pos rfl]at hq;obtain⟨ck,hck⟩:∃ ck,iC F nm=ck:=⟨_,rfl⟩;obtain⟨cv,ce⟩:=ck;rw[hck]at hq HCB;obtain⟨rm,hrm⟩:∃ rm,cB F=rm:=⟨_,rfl⟩;rw[hrm]at hq HRB;have HC:=hid hck;have HR:=hid hrm;have HQ:=hid hq;obtain⟨c1,c2⟩:=HCB.o;obtain⟨r1,r2⟩:=HRB.o;simp only at c1 c2;clear hck hrm hq;go_enter Tryz.func40,Tryz.ntmps40;have b0:=HH.o.b0;have b1:=HH.o.b1;go_wp2_with fail;refine(zR F nk 0 _ nm p n _ HF.o HS.o HH.o.fam hnm hp hn HN.o).mono ?_;rintro e w1 ⟨rfl,hb⟩;have HH:=hid (HH.o.later hb);clear hb b0 b1;have b0:=HH.o.b0;have b1:=HH.o.b1;go_wp2_with fail;refine(aJj F cv ce _ nm _ HF.o HS.o HH.o.fam hnm HC.o).mono ?_;rintro e w2 ⟨rfl,hb⟩;have HH:=hid (HH.o.later hb);clear hb b0 b1;have b0:=HH.o.b0;have b1:=HH.o.b1;go_wp2_with fail;refine(lX F rm _ _ HF.o HS.o HH.o.fam HR.o).mono ?_;rintro e w3 ⟨rfl,hb⟩;have HH:=hid (HH.o.later hb);clear hb b0 b1;go_wp2_with fail;refine(aCl _ _ _ q HQ.o).mono ?_;rintro e w4 ⟨rfl,hb⟩;have hB:=HH.o.B.on hb;clear hb;go_wp2_with fail;go_ret;exact⟨rfl,hB⟩
 ·rw[if_neg he]at hq;subst hq;have hz:(e0==0)=false:=by simpa using he
  clear he;go_enter Tryz.func40,Tryz.ntmps40;have b0:=HH.o.b0;have b1:=HH.o.b1;go_wp2_with fail;refine(zR F nk e0 _ nm p n _ HF.o HS.o HH.o.fam hnm hp hn HN.o).mono ?_;rintro e w1 ⟨rfl,hb⟩;have hB:=HH.o.B.on hb;clear hb b0 b1 HH;go_wp2_with fail;go_ret;exact⟨rfl,hB⟩
open Go.RowKit Go.Maps
structure QM (w W:World) (u v:Value) (F:Fam):Prop where
 b0:W.cell? ⟨w.heap.size,0,none⟩=some u
 b1:W.cell? ⟨w.heap.size,1,none⟩=some v
 fam:bI W (.agg #[u,v]) F
 B:Below w.heap.size w W
theorem QM.later {w W W':World} {u v:Value} {F:Fam} (h:QM w W u v F) (hb:Below W.heap.size W W'):QM w W' u v F:=
 ⟨hb.keep h.b0,hb.keep h.b1,h.fam.keep hb,h.B.on hb⟩
theorem QM.init (w:World) (u v:Value) (F:Fam) (hf:bI w (.agg #[u,v]) F):QM w (w.alloc (.cells #[u,v] 31)) u v F:=by
 have hB:=(Below.refl w.heap.size w).bMq (.cells #[u,v] 31);exact⟨by simp,by simp,hf.keep hB,hB⟩
theorem aQy {F:Fam} (hF:F.ok) (nm:List UInt8):(∃e0,e0≠0/\eP F nm=(⟨[],0,0,0,0⟩,e0)/\iC F nm=(0,e0))∨ ∃im i1 i2 i3 i4,eP F nm=(⟨im,i1,i2,i3,i4⟩,0)/\iC F nm=(max 0 (i2-i4),0)/\0<=i2/\i2<=65536/\0<=i4/\i4<=65536:=by
 cases hg:aP F.vs nm with
 |none=>exact .inl ⟨9,by decide,(nT hg).1,(nT hg).2⟩
 | some v=>
  have hm:=(aH hg).1;have hv:=hF.vol v hm;have h1:=aBm hF hm;have h2:=hv.r1;have h4:=hv.r0;have h5:=hv.n2;exact .inr ⟨v.nm,v.n,v.r,_,_,(lJ hg).1,(lJ hg).2,h4,by omega,h1.1,h1.2⟩
theorem aBp (F:Fam) (k e0:Int) (gv:Value) (nm:List UInt8) (w:World) (hF:F.ok) (h:bI w gv F) (hnm:nm.length<=maxLen) (he:iC F nm=(k,e0)):
  Calls Tryz.prog 142 #[gv,nmV nm] w fun e w'=>e= .returned (.tuple #[.int .i64 k,.int .i64 e0])/\Below w.heap.size w w':=by
 obtain⟨a,m,c,rfl⟩:=h.form;have HH:=hid (QM.init w _ _ F h);have HF:=hid hF;clear h;rcases aQy hF nm with ⟨e1,hz,hi,hc⟩|⟨im,i1,i2,i3,i4,hi,hc,h1,h2,h3,h4⟩
 ·rw[hc]at he;obtain⟨rfl,rfl⟩:=Prod.mk.inj he;have HI:=hid hi;have hz:(e1==0)=false:=by simpa using hz
  clear he hc hi hF;go_enter Tryz.func142,Tryz.ntmps142;have b0:=HH.o.b0;have b1:=HH.o.b1;go_wp2_with fail;refine(aAa F [] 0 0 0 0 e1 _ nm _ HF.o HH.o.fam hnm HI.o).mono ?_;rintro e w1 ⟨rfl,hb⟩;have hB:=(HH.o.B.on hb).bMq (.cells #[nmV [],.int .i64 0,.int .i64 0,.int .i64 0,.int .i64 0] 73);clear hb b0 b1 HH;go_wp2_with fail;go_ret2;exact⟨rfl,hB⟩
 ·rw[hc]at he;obtain⟨rfl,rfl⟩:=Prod.mk.inj he;have HI:=hid hi;clear he hc hi hF;go_enter Tryz.func142,Tryz.ntmps142;have b0:=HH.o.b0;have b1:=HH.o.b1;go_wp2_with fail;refine(aAa F im i1 i2 i3 i4 0 _ nm _ HF.o HH.o.fam hnm HI.o).mono ?_;rintro e w1 ⟨rfl,hb⟩;have hB:=(HH.o.B.on hb).bMq (.cells #[nmV im,.int .i64 i1,.int .i64 i2,.int .i64 i3,.int .i64 i4] 73);clear hb b0 b1 HH;go_wp2_with fail;go_ret2;exact⟨rfl,hB⟩
theorem aUl (F:Fam) (q:Int) (gv:Value) (w:World) (hF:F.ok) (h:bI w gv F) (hq:jO F=q):
  Calls Tryz.prog 190 #[gv] w fun e w'=>e= .returned (.int .i64 q)/\Below w.heap.size w w':=by
 have hfr:=h;obtain⟨a,c,ts,rfl,hr,hl,hts,_⟩:=h;have HH:=hid (QM.init w _ _ F hfr);have HF:=hid hF;have HR:=hid hr;have HTS:=hid hts;have HLEN:=hid (jN hF hts).1;have h32:=(jN hF hts).2;have HQ:Hid (rX F.C F.vs=q):=hid hq;clear hF hfr hr hl hts hq;go_enter Tryz.func190,Tryz.ntmps190;go_wp2_with fail;go_loopw [3,4] (fun v i wr=>∃ k:Nat,k<=ts.length/\i= .int .i64 k/\v= .int .i64 (rX F.C (F.vs.take k))/\QM w wr (.int .i64 F.N) (.slice a ts.length c) F) (fun _ i _=>ts.length-(intOf i).toNat)
 case atStart=>exact⟨0,Nat.zero_le _,rfl,rfl,HH.o⟩
 case round=>
  obtain⟨k,hk,rfl,rfl,hm⟩:=hrel;have HM:=hid hm;have b0:=hm.b0;have b1:=hm.b1;clear hm;by_cases hlt:k<ts.length
  ·obtain⟨b,o,hab,hat⟩:=(HR.o.keep HM.o.B).at (by omega);have hat2:=hat k _ (List.getElem?_eq_getElem hlt);have hlv:k<F.vs.length:=by rw[<-HTS.o,List.length_map];exact hlt
   have hvk:F.vs[k]=ts[k].vol:=by simp[<-HTS.o]
   have hmem:ts[k].vol∈F.vs:=by rw[<-HTS.o];exact List.mem_map_of_mem (List.getElem_mem hlt)
   have HT:=hid (aJm F.C F.vs k hlv);rw[hvk]at HT;have HCL:=hid (aLk HF.o hmem);obtain⟨g1,g2⟩:=xW HF.o hmem;have HNL:Hid (ts[k].vol.nm.length<=maxLen):=hid (nI (HF.o.vol _ hmem).name);obtain⟨g3,g4⟩:=sZ HF.o k;have hk0:(0:Int)<=k:=by omega
   have hk1:(k:Int)<ts.length:=by omega
   have e0:=hat2.c0;have e9:ts[k].nm=ts[k].vol.nm:=rfl;rw[e9]at e0;clear hat hat2 hlv hvk hmem e9;generalize aX F.C ts[k].vol=cv at *;generalize ts[k].vol.nm=nm at *;generalize rX F.C (F.vs.take k)=sm at *;subst hab;go_wp2_with fail;refine aC (by kernel_rfl) (by kernel_rfl) ?_
   repeat(go_big_quiet_step ((go_at_call 142;exact Calls.bMv (aBp F cv 0 _ nm _ HF.o (HM.o.fam.keep (World.bMr _ _)) HNL.o HCL.o))))
   refine wpQuiet_nil ?_;intro _ hw';obtain⟨nq,hw''⟩:=hw';subst hw'';have HM2:=hid (HM.o.later (World.bMr wr nq));clear b0 b1 e0 HM;go_wp2_with fail;go_roundw
   case rel=>exact⟨k+1,by omega,by go_num,by rw[HT.o],HM2.o⟩
   case measure=>simp[intOf];omega
  ·obtain rfl:k=ts.length:=by omega
   have e:rX F.C (F.vs.take ts.length)=q:=by rw[HLEN.o,List.take_length];exact HQ.o
   rw[e];have hB:=HM.o.B;clear e;go_wp2_with fail;go_ret;exact⟨rfl,hB⟩
open Go.RowKit Go.Maps
theorem aAx {F:Fam} {gv:Value} {w:World} (hF:F.ok) (h:bI w gv F):
  Calls Tryz.prog 104 #[gv] w fun e w'=>∃ v,e= .returned v/\dE w' w.heap.size v F.C/\Below w.heap.size w w':=by
 obtain⟨a,c,ts,rfl,hr,hl,hts,_⟩:=h;exact tL F F.C rfl ts a c w hF hts hr hl
theorem bKx {F:Fam} {a:Option Addr} {c:Nat} {w:World} {u:Int} (hF:F.ok) (hr:RdI w a F.C) (hu:pJ F.C=u):
  Calls Tryz.prog 219 #[.slice a F.N c] w fun e w'=>e= .returned (.int .i64 u)/\Below w.heap.size w w':=by
 subst hu;have:=aZm F.C a c w hr (gN hF.range (by omega) (by omega))
 rwa [F.bMs]at this
theorem aUj (F:Fam) (q:Int) (gv:Value) (w:World) (hF:F.ok) (h:bI w gv F) (hq:mV F=q):
  Calls Tryz.prog 189 #[gv] w fun e w'=>e= .returned (.int .i64 q)/\Below w.heap.size w w':=by
 obtain ⟨a,m,c,rfl⟩:=h.form;have HH:=hid (QM.init w _ _ F h);have HF:=hid hF;obtain⟨u,hu⟩:∃ u,pJ F.C=u:=⟨_,rfl⟩;have HU:=hid hu;have HQ:Hid ((F.N:Int)-u=q):=hid (by rw[<-hu,bBl hF];exact hq);have hub:0<=u/\u<=F.N:=by
  have h1:=aXg (C:=F.C) (gN hF.range (by omega) (by omega));rw[F.bMs,hu]at h1;exact h1
 have hN:=hF.hN;have HCL:=hid F.bMs;clear h hu hF hq;obtain⟨hu1,hu2⟩:=hub;go_enter Tryz.func189,Tryz.ntmps189;go_upto_region 1 with fail;generalize w.alloc (.cells #[.int .i64 F.N,.slice a m c] 31)=W at *;have HV:=hid (HH.o.later (Below.refl _ _).drew)
 go_region_held3 (fun w'=>w'.cell? ⟨w.heap.size,0,none⟩=some (.int .i64 F.N)/\w'.cell? ⟨w.heap.size,1,none⟩=some (.slice a m c)/\Below W.drew.heap.size W.drew w')
  (first
   |with_reducible exact⟨HV.o.b0,HV.o.b1,Below.refl _ _⟩
   |with_reducible exact⟨HQ2.o.b0,HQ2.o.b1,hW2⟩
   |with_reducible exact⟨HQ1.o.b0,HQ1.o.b1,hW1⟩)
  (first
   |(go_at_call 104;have hW:=(‹_/\_/\Below W.drew.heap.size W.drew _›).2.2;refine(aAx HF.o (HV.o.later hW).fam).mono ?_;rintro e v1 ⟨sv,rfl,ho,hb1⟩;obtain⟨ca,cc,rfl,hrc⟩:=ho.rd (by rw[HCL.o];exact hN);have HRC:=hid hrc;rw[HCL.o];have hW1:=hW.on hb1;have HQ1:=hid (HV.o.later hW1))
   |(go_at_call 219;have hW:=(‹_/\_/\Below W.drew.heap.size W.drew _›).2.2;refine(bKx HF.o HRC.o HU.o).mono ?_;rintro e v2 ⟨rfl,hb2⟩;have hW2:=hW.on hb2;have HQ2:=hid (HV.o.later hW2)))
 have hB:=HQ2.o.B;have hqq:=HQ.o;subst hqq;have hw:IntKind.i64.wrap ((F.N:Int)-u)=F.N-u:=IntWalk.i64_in _ (by omega);clear hW1 hW2 hb1 hb2 ho hrc HQ1 HQ2 HV;go_wp2_with fail;go_ret;exact⟨rfl,hB⟩
theorem aFx (F:Fam) (q:Int) (gv:Value) (w:World) (hF:F.ok) (h:bI w gv F) (hq:cB F=q):
  Calls Tryz.prog 143 #[gv] w fun e w'=>e= .returned (.int .i64 q)/\Below w.heap.size w w':=by
 obtain⟨a,m,c,rfl⟩:=h.form;have HH:=hid (QM.init w _ _ F h);have HF:=hid hF;obtain⟨fr,hfr⟩:∃ fr,mV F=fr:=⟨_,rfl⟩;obtain⟨cl,hcl⟩:∃ cl,jO F=cl:=⟨_,rfl⟩;have hq2:fr-cl=q:=by rw[<-hq,<-hfr,<-hcl];rfl
 have hfb:0<=fr/\fr<=65536:=by
  have h1:=iP (bS F.C) F.N;have h2:=hF.hN;rw[<-hfr];unfold mV;omega
 have hcb:0<=cl/\cl<=2097152:=by
  have h3:=sZ hF F.vs.length;rw[List.take_length]at h3;have h4:jO F=rX F.C F.vs:=rfl;omega
 have HFR:=hid hfr;have HCL:=hid hcl;obtain⟨f1,f2⟩:=hfb;obtain⟨g1,g2⟩:=hcb;subst hq2;clear h hF hq hfr hcl;go_enter Tryz.func143,Tryz.ntmps143;have b0:=HH.o.b0;have b1:=HH.o.b1;go_upto_region 1 with fail;refine aC (by kernel_rfl) (by kernel_rfl) ?_
 repeat(go_big_quiet_step ((first|(go_at_call 189;exact Calls.bMv (aUj F fr _ _ HF.o (HH.o.fam.keep (World.bMr _ _)) HFR.o))|(go_at_call 190;exact Calls.bMv (aUl F cl _ _ HF.o (HH.o.fam.keep (World.bMr _ _)) HCL.o)))))
 refine wpQuiet_nil ?_;intro _ hw';obtain⟨nq,hw''⟩:=hw';subst hw'';have hB:=HH.o.B.on (World.bMr _ nq);have hw:IntKind.i64.wrap (fr-cl)=fr-cl:=IntWalk.i64_in _ (by omega);clear b0 b1;go_wp2_with fail;go_ret;exact⟨rfl,hB⟩
open Go.RowKit Go.Maps
theorem bDs (C:List Int) (l:List E) (q:Int) (ca la:Option Addr) (cc lc:Nat) (w:World) (hrC:RdI w ca C) (hr:Rd w la l) (hp:aS C.length l=true) (hC:C.length<=65536) (hl:l.length<=65536) (hq:dQ C l=q):
  Calls Tryz.prog 188 #[.slice ca C.length cc,.slice la l.length lc] w fun e w'=>e= .returned (.int .i64 q)/\Below w.heap.size w w':=by
 have HRC:=hid hrC;have HR:=hid hr;have HK:=hid hq;have HPM:=hid ((aO _ _).1 hp);have HETK:=hid (zH C l);have HBD:Hid (∀k,0<=dQ C (l.take k)/\dQ C (l.take k)<=65536*65536):=hid fun k=>by
  have h1:=aAv C (l.take k) 65536 (fun y hy=>by
   have h2:=(aO _ _).1 hp y (List.mem_of_mem_take hy)
   omega)
  have h4:=List.length_take_le' k l;omega
 clear hrC hr hq hp;go_enter Tryz.func188,Tryz.ntmps188;go_wp2_with fail;go_loopw [5,6] (fun v i wr=>∃ k:Nat,k<=l.length/\i= .int .i64 k/\v= .int .i64 (dQ C (l.take k))/\Below w.heap.size w wr) (fun _ i _=>l.length-(intOf i).toNat)
 case atStart=>exact⟨0,Nat.zero_le _,rfl,by simp[dQ],Below.refl _ _⟩
 case round=>
  obtain⟨k,hk,rfl,rfl,hB⟩:=hrel;by_cases hlt:k<l.length
  ·obtain ⟨eb,eo,rfl,hat⟩:=(HR.o.keep hB).at (by omega);have HAT:=hid (hat k _ (List.getElem?_eq_getElem hlt));have HT:=hid (HETK.o k hlt);obtain⟨y1,y2,y3⟩:=HPM.o _ (List.getElem_mem hlt);obtain⟨d1,d2⟩:=HBD.o k;have hk0:(0:Int)<=k:=by omega
   have hk1:(k:Int)<l.length:=by omega
   generalize l[k]=x at *;obtain⟨xa,xn,xs⟩:=x;simp only at y1 y2 y3;obtain⟨s0,rfl⟩:=Int.eq_ofNat_of_zero_le y2;obtain⟨n0,rfl⟩:=Int.eq_ofNat_of_zero_le (show 0<=xn by omega);have HOX:Hid (dQ C (l.take (k+1))=dQ C (l.take k)+aL (fun j=>bB C (s0+j)) n0):=hid (by rw[HT.o];rfl);generalize dQ C (l.take k)=ex at *;have hsn:s0+n0<=C.length:=by omega
   have a2:wr.cell? ⟨eb,eo+k*3+2,none⟩=some (.int .i64 s0):=HAT.o.s;have HB:=hid hB;clear hat hB HT;go_wp2_with fail;clear a2;generalize wr=wo at *;go_loopw [5,7] (fun v t wi=>∃ p:Nat,p<=n0/\t= .int .i64 ((s0:Int)+p)/\v= .int .i64 (ex+aL (fun j=>bB C (s0+j)) p)/\Below wo.heap.size wo wi) (fun _ t _=>(s0+n0)-(intOf t).toNat)
   case atStart=>exact⟨0,Nat.zero_le _,by simp,by simp[aL],Below.refl _ _⟩
   case round=>
    obtain⟨p,hp,rfl,rfl,hBi⟩:=hrel;have z1:wr.cell? ⟨eb,eo+k*3+1,none⟩=some (.int .i64 n0):=hBi.keep HAT.o.n;have z2:wr.cell? ⟨eb,eo+k*3+2,none⟩=some (.int .i64 s0):=hBi.keep HAT.o.s;have hw:IntKind.i64.wrap ((s0:Int)+n0)=s0+n0:=IntWalk.i64_in _ (by omega);have a1:=iP (fun j=>bB C (s0+j)) p;have HBI:=hid hBi;clear hBi;by_cases hpn:p<n0
    ·have hlb:decide ((s0:Int)+p<s0+n0)=true:=decide_eq_true (by omega);go_wp2_with fail;refine aC (by kernel_rfl) (by kernel_rfl) ?_
     repeat(go_big_quiet_step (fail))
     refine wpQuiet_nil ?_;intro _ hw';obtain⟨nq,hw''⟩:=hw';subst hw'';have HM:=hid (HBI.o.on (World.bMr wr nq));have hsl:s0+p<C.length:=by omega
     obtain⟨cb,co,rfl,hatc⟩:=(HRC.o.keep (HB.o.on HM.o)).at (by omega);have h1:=hatc (s0+p) _ (getD_some C (s0+p) hsl);have hs1:(0:Int)<=(s0:Int)+p:=by omega
     have hs2:(s0:Int)+p<C.length:=by omega
     have HAR:Hid (aL (fun j=>bB C (s0+j)) (p+1)=aL (fun j=>bB C (s0+j)) p+if bB C (s0+p)=true then 1 else 0):=hid rfl;have hob:bB C (s0+p)=(C.getD (s0+p) 0==1):=by unfold bB;rw[Bool.eq_iff_iff];simp
     rw[hob]at HAR;generalize C.getD (s0+p) 0=cv at *;generalize aL (fun j=>bB C (s0+j)) p=ar at *;clear hob hatc z1 z2 hw hlb;cases hcv:(cv==1)
     ·have HE:Hid (aL (fun j=>bB C (s0+j)) (p+1)=ar):=hid (by rw[HAR.o,hcv];simp);clear HAR;go_wp2_with fail;go_roundw
      case rel=>exact⟨p+1,by omega,by go_num,by rw[HE.o],HM.o⟩
      case measure=>simp[intOf];omega
     ·have HE:Hid (aL (fun j=>bB C (s0+j)) (p+1)=ar+1):=hid (by rw[HAR.o,hcv];simp);clear HAR;go_wp2_with fail;go_roundw
      case rel=>exact⟨p+1,by omega,by go_num,by rw[HE.o];congr 1;omega,HM.o⟩
      case measure=>simp[intOf];omega
    ·obtain rfl:p=n0:=by omega
     have hlb:decide ((s0:Int)+p<s0+p)=false:=decide_eq_false (by omega);go_wp2_with fail;refine aC (by kernel_rfl) (by kernel_rfl) ?_
     repeat(go_big_quiet_step (fail))
     refine wpQuiet_nil ?_;intro _ hw';obtain⟨nq,hw''⟩:=hw';subst hw'';have HM:=hid (HB.o.on (HBI.o.on (World.bMr wr nq)));clear z1 z2 hw hlb;go_wp2_with fail;go_roundw
     case rel=>exact⟨k+1,by omega,by go_num,by rw[HOX.o],HM.o⟩
     case measure=>simp[intOf];omega
  ·obtain rfl:k=l.length:=by omega
   rw[List.take_length];rw[HK.o];go_wp2_with fail;go_ret;exact⟨rfl,hB⟩
theorem aFs (F:Fam) (L:List E) (e0:Int) (gv:Value) (nm:List UInt8) (p n:Int) (w:World) (hF:F.ok) (h:bI w gv F) (hnm:nm.length<=maxLen) (he:fU F nm p n=(L,e0)):
  Calls Tryz.prog 187 #[gv,nmV nm,.int .i64 p,.int .i64 n] w fun e w'=>∃ sv,e= .returned (.tuple #[sv,.int .i64 e0])/\aG w' w.heap.size sv L/\Below w.heap.size w w':=by
 have:=aZp F gv nm p n w hF h hnm
 rwa [he]at this
theorem aPi (F:Fam) (k e0:Int) (gv:Value) (nm:List UInt8) (p n:Int) (w:World) (hF:F.ok) (hs:∀ v∈F.vs,v.l.length<=9000) (h:bI w gv F) (hnm:nm.length<=maxLen) (hq:lS F nm p n=(k,e0)):
  Calls Tryz.prog 141 #[gv,nmV nm,.int .i64 p,.int .i64 n] w fun e w'=>e= .returned (.tuple #[.int .i64 k,.int .i64 e0])/\Below w.heap.size w w':=by
 obtain⟨a,m,c,rfl⟩:=h.form;have HH:=hid (QM.init w _ _ F h);have HF:=hid hF;clear h;rcases aGj hF hs nm p n with ⟨e1,he,hr,hc⟩|⟨L,hr,hc,hn1,hn2,hpm,hlen⟩
 ·rw[hc]at hq;obtain⟨rfl,rfl⟩:=Prod.mk.inj hq;have HR:=hid hr;clear hc hq hr hF hs;go_enter Tryz.func141,Tryz.ntmps141;have b0:=HH.o.b0;have b1:=HH.o.b1;go_wp2_with fail;refine(aFs F [] e1 _ nm p n _ HF.o HH.o.fam hnm HR.o).mono ?_;rintro e w1 ⟨sv,rfl,ho,hb⟩;obtain⟨sa,sc,rfl,_⟩:=ho.rd (by simp);have HB:=hid (HH.o.B.on hb);have hz:(e1==0)=false:=by simpa using he
  clear hb ho b0 b1 HH he;go_wp2_with fail;go_ret2;exact⟨rfl,HB.o⟩
 ·rw [hc]at hq;obtain⟨hk,rfl⟩:=Prod.mk.inj hq;obtain⟨ex,hex⟩:∃ ex,dQ F.C L=ex:=⟨_,rfl⟩;have hxb:0<=ex/\ex<=65536*65536:=by
   have h1:=aAv F.C L 65536 (fun y hy=>by
    have h2:=(aO _ _).1 hpm y hy;have h3:=hF.hN
    omega)
   rw[<-hex];omega
  obtain⟨x1,x2⟩:=hxb;rw[hex]at hk;subst hk;have HEX:=hid hex;have HR:=hid hr;have HPM:=hid hpm;have HC9:=hid F.bMs;have HN9:=hid hF.hN;clear hc hq hr hpm hF hs hex;go_enter Tryz.func141,Tryz.ntmps141;have b0:=HH.o.b0;have b1:=HH.o.b1;go_wp2_with fail;refine(aFs F L 0 _ nm p n _ HF.o HH.o.fam hnm HR.o).mono ?_;rintro e w1 ⟨sv,rfl,ho,hb⟩;obtain⟨sa,sc,rfl,hl⟩:=ho.rd (by omega);have HL:=hid hl;have HH1:=hid (HH.o.later hb);clear hb ho hl b0 b1 HH;have b0:=HH1.o.b0;have b1:=HH1.o.b1;go_wp2_with fail;refine(aAx HF.o HH1.o.fam).mono ?_;rintro e w2 ⟨cv,rfl,ho,hb⟩;obtain⟨ca,cc,rfl,hrc⟩:=ho.rd (by rw[HC9.o];exact HN9.o);have HRC:=hid hrc;have HH2:=hid (HH1.o.later hb);have HL2:=hid (HL.o.keep hb);clear hb ho hrc b0 b1 HH1 HL;go_wp2_with fail;refine(bDs F.C L ex ca sa cc sc _ HRC.o HL2.o (by rw[HC9.o];exact HPM.o) (by rw[HC9.o];exact HN9.o) hlen HEX.o).mono ?_;rintro e w3 ⟨rfl,hb⟩;have hB:=HH2.o.B.on hb;clear hb;go_wp2_with fail;go_ret2;exact⟨rfl,hB⟩
open Go.RowKit Go.Maps
theorem uH (a b:Int):(a>b/\gP a b=11)∨(a<=b/\gP a b=0):=by
 unfold gP;by_cases h:a>b
 ·exact .inl ⟨h,if_pos h⟩
 ·exact .inr ⟨by omega,if_neg h⟩
theorem aUk (F:Fam) (q:Int) (gv:Value) (n r:Int) (w:World) (hF:F.ok) (h:bI w gv F) (hq:eQ F n r=q):
  Calls Tryz.prog 108 #[gv,.int .i64 n,.int .i64 r] w fun e w'=>e= .returned (.int .i64 q)/\Below w.heap.size w w':=by
 obtain⟨a,m,c,rfl⟩:=h.form;have HH:=hid (QM.init w _ _ F h);have HF:=hid hF;clear hF h;rcases aGh n r with ⟨hn,hn2⟩|⟨hn,hn2⟩
 ·obtain ⟨rm,hrm⟩:∃ rm,cB F=rm:=⟨_,rfl⟩;have hq2:gP r rm=q:=by rw[<-hq,<-hrm];unfold eQ;rw[hn,if_neg (by simp)]
  have HRM:=hid hrm;clear hn hq hrm;rcases uH r rm with ⟨hc,he⟩|⟨hc,he⟩
  all_goals
   have hq3:=he.symm.trans hq2;subst hq3;clear he hq2;go_enter Tryz.func108,Tryz.ntmps108;have b0:=HH.o.b0;have b1:=HH.o.b1;go_wp2_with fail;refine(aFx F rm _ _ HF.o HH.o.fam HRM.o).mono ?_;rintro e w1 ⟨rfl,hb⟩;have hB:=HH.o.B.on hb;clear hb b0 b1;go_wp2_with fail;go_ret;exact⟨rfl,hB⟩
 ·have hq2:(1:Int)=q:=by rw[<-hq];unfold eQ;rw[hn,if_pos rfl]
  subst hq2;have hB:=HH.o.B;clear hn hq HH;rcases hn2 with h1|⟨h1,h2|⟨h2,h3|⟨h3,h4⟩⟩⟩
  all_goals
   go_enter Tryz.func108,Tryz.ntmps108;go_wp2_with fail;go_ret;exact⟨rfl,hB⟩
theorem aEk {F:Fam} (hF:F.ok) (nm:List UInt8):(eP F nm=(⟨[],0,0,0,0⟩,9)/\fB F nm=9)∨ ∃im i1 i2 i3 i4 mx,eP F nm=(⟨im,i1,i2,i3,i4⟩,0)/\iC F nm=(mx,0)/\fB F nm=gP (i2-mx) (cB F)/\0<=i2/\i2<=65536/\0<=mx/\mx<=65536:=by
 cases hg:aP F.vs nm with
 |none=>exact .inl ⟨(nT hg).1,by unfold fB;rw[hg]⟩
 | some v=>
  have hm:=(aH hg).1;have hv:=hF.vol v hm;have h1:=xW hF hm;have h2:=hv.r1;have h4:=hv.r0;have h5:=hv.n2;exact .inr ⟨v.nm,v.n,v.r,_,_,aX F.C v,(lJ hg).1,(lJ hg).2,by unfold fB;rw[hg],h4,by omega,h1.1,h1.2⟩
theorem bAe (F:Fam) (q:Int) (gv:Value) (nm:List UInt8) (w:World) (hF:F.ok) (h:bI w gv F) (hnm:nm.length<=maxLen) (hq:fB F nm=q):
  Calls Tryz.prog 109 #[gv,nmV nm] w fun e w'=>e= .returned (.int .i64 q)/\Below w.heap.size w w':=by
 obtain⟨a,m,c,rfl⟩:=h.form;have HH:=hid (QM.init w _ _ F h);have HF:=hid hF;clear h;rcases aEk hF nm with ⟨hi,hc⟩|⟨im,i1,i2,i3,i4,mx,hi,hcl,hc,g1,g2,g3,g4⟩
 ·have hq2:(9:Int)=q:=by rw[<-hq,hc]
  subst hq2;have HI:=hid hi;clear hi hc hq hF;go_enter Tryz.func109,Tryz.ntmps109;have b0:=HH.o.b0;have b1:=HH.o.b1;go_wp2_with fail;refine(aAa F [] 0 0 0 0 9 _ nm _ HF.o HH.o.fam hnm HI.o).mono ?_;rintro e w1 ⟨rfl,hb⟩;have hB:=(HH.o.B.on hb).bMq (.cells #[nmV [],.int .i64 0,.int .i64 0,.int .i64 0,.int .i64 0] 73);clear hb b0 b1 HH;go_wp2_with fail;go_ret;exact⟨rfl,hB⟩
 ·obtain ⟨rm,hrm⟩:∃ rm,cB F=rm:=⟨_,rfl⟩;have hrb:=zZ hF;rw[hc,hrm]at hq;rw[hrm]at hrb;obtain⟨r1,r2⟩:=hrb;have HRM:=hid hrm;have HI:=hid hi;have HCL:=hid hcl;clear hi hcl hc hrm hF;have key:(rm-(i2-mx)<0/\q=11)∨(0<=rm-(i2-mx)/\q=0):=by
   rcases uH (i2-mx) rm with ⟨h1,h2⟩|⟨h1,h2⟩
   ·exact .inl ⟨by omega,by rw[<-hq,h2]⟩
   ·exact .inr ⟨by omega,by rw[<-hq,h2]⟩
  clear hq;rcases key with ⟨hk,rfl⟩|⟨hk,rfl⟩
  all_goals
   go_enter Tryz.func109,Tryz.ntmps109;have b0:=HH.o.b0;have b1:=HH.o.b1;go_wp2_with fail;refine(aAa F im i1 i2 i3 i4 0 _ nm _ HF.o HH.o.fam hnm HI.o).mono ?_;rintro e w1 ⟨rfl,hb⟩;have hk9:=hb.bMq (.cells #[nmV im,.int .i64 i1,.int .i64 i2,.int .i64 i3,.int .i64 i4] 73);have HH:=hid (HH.o.later hk9);have HT:=hid (IT.new w1 _ rfl ⟨im,i1,i2,i3,i4⟩ 73);clear hb hk9 b0 b1;have b0:=HH.o.b0;have b1:=HH.o.b1;go_wp2_with fail;refine(aBp F mx 0 _ nm _ HF.o HH.o.fam hnm HCL.o).mono ?_;rintro e w2 ⟨rfl,hb⟩;have HH:=hid (HH.o.later hb);have HT:=hid (HT.o.later hb);clear hb b0 b1;go_upto_region 5 with fail;generalize w1.heap.size=T at *;have b0:=HH.o.b0;have b1:=HH.o.b1;have t2:=HT.o.t2;have hw1:IntKind.i64.wrap (i2-mx)=i2-mx:=IntWalk.i64_in _ (by omega);have hw2:IntKind.i64.wrap (rm-(i2-mx))=rm-(i2-mx):=IntWalk.i64_in _ (by omega)
   first
    |have hd:decide (rm-(i2-mx)<0)=true:=decide_eq_true (by omega)
    |have hd:decide (rm-(i2-mx)<0)=false:=decide_eq_false (by omega)
   refine aC (by kernel_rfl) (by kernel_rfl) ?_
   repeat(go_big_quiet_step ((go_at_call 143;exact Calls.bMv (aFx F rm _ _ HF.o (HH.o.fam.keep (World.bMr _ _)) HRM.o))))
   refine wpQuiet_nil ?_;intro _ hw';obtain⟨nq,hw''⟩:=hw';subst hw'';have hB:=HH.o.B.on (World.bMr w2 nq);clear b0 b1 t2 hw1 hw2;go_wp2_with fail;go_ret;exact⟨rfl,hB⟩
theorem bAd (F:Fam) (q:Int) (gv:Value) (nm:List UInt8) (p n:Int) (w:World) (hF:F.ok) (hs:∀ v∈F.vs,v.l.length<=9000) (h:bI w gv F) (hnm:nm.length<=maxLen) (hq:fM F nm p n=q):
  Calls Tryz.prog 103 #[gv,nmV nm,.int .i64 p,.int .i64 n] w fun e w'=>e= .returned (.int .i64 q)/\Below w.heap.size w w':=by
 obtain⟨a,m,c,rfl⟩:=h.form;have HH:=hid (QM.init w _ _ F h);have HF:=hid hF;have HS:=hid hs;have HCB:=hid (aLl hF nm);have HRB:=hid (zZ hF);unfold fM at hq;obtain⟨nd,hnd⟩:∃ nd,lS F nm p n=nd:=⟨_,rfl⟩;obtain⟨nk,e0⟩:=nd;rw[hnd]at hq;simp only at hq;have HN:=hid hnd;clear h hnd hF hs;by_cases he:e0=0
 ·subst he;rw[if_pos rfl]at hq;obtain⟨ck,hck⟩:∃ ck,iC F nm=ck:=⟨_,rfl⟩;obtain⟨cv,ce⟩:=ck;rw[hck]at hq HCB;obtain⟨rm,hrm⟩:∃ rm,cB F=rm:=⟨_,rfl⟩;rw[hrm]at hq HRB;have HC:=hid hck;have HR:=hid hrm;obtain⟨c1,c2⟩:=HCB.o;obtain⟨r1,r2⟩:=HRB.o;simp only at c1 c2;clear hck hrm;have key:(nk>cv+max 0 rm/\q=11)∨(nk<=cv+max 0 rm/\q=0):=by
   rcases uH nk (cv+max 0 rm)with ⟨h1,h2⟩|⟨h1,h2⟩
   ·exact .inl ⟨h1,by rw[<-hq,h2]⟩
   ·exact .inr ⟨h1,by rw[<-hq,h2]⟩
  clear hq;rcases key with ⟨hk,rfl⟩|⟨hk,rfl⟩
  all_goals
   go_enter Tryz.func103,Tryz.ntmps103;have b0:=HH.o.b0;have b1:=HH.o.b1;go_wp2_with fail;refine(aPi F nk 0 _ nm p n _ HF.o HS.o HH.o.fam hnm HN.o).mono ?_;rintro e w1 ⟨rfl,hb⟩;have HH:=hid (HH.o.later hb);clear hb b0 b1;have b0:=HH.o.b0;have b1:=HH.o.b1;go_wp2_with fail;refine(aBp F cv ce _ nm _ HF.o HH.o.fam hnm HC.o).mono ?_;rintro e w2 ⟨rfl,hb⟩;have HH:=hid (HH.o.later hb);clear hb b0 b1;have b0:=HH.o.b0;have b1:=HH.o.b1;go_wp2_with fail;refine(aFx F rm _ _ HF.o HH.o.fam HR.o).mono ?_;rintro e w3 ⟨rfl,hb⟩;have hB:=HH.o.B.on hb;clear hb b0 b1;go_wp2_with fail;go_ret;exact⟨rfl,hB⟩
 ·rw[if_neg he]at hq;subst hq;have hz:(e0==0)=false:=by simpa using he
  clear he;go_enter Tryz.func103,Tryz.ntmps103;have b0:=HH.o.b0;have b1:=HH.o.b1;go_wp2_with fail;refine(aPi F nk e0 _ nm p n _ HF.o HS.o HH.o.fam hnm HN.o).mono ?_;rintro e w1 ⟨rfl,hb⟩;have hB:=HH.o.B.on hb;clear hb b0 b1 HH;go_wp2_with fail;go_ret;exact⟨rfl,hB⟩
theorem newI (W:World) (n:Nat) (hn:n=W.heap.size) (x:Int) (t:TypeId):∀ j u,([Value.int .i64 x]:List Value)[j]? =some u->(W.alloc (.cells #[.int .i64 x] t)).cell? ((⟨n,0,none⟩:Addr).add j)=some u:=by
 subst hn;intro j u hj
 cases j with
 |zero=>simp at hj;subst hj;simp[Addr.add]
 |succ j=>simp at hj
end Go.Proofs.YtaiklhbakldfhaaGreat
