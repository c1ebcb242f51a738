/-
  The plain law of a step of a script; tegulalaw38: note.
  Own rows of slices (notes), and what stays as it was where such a row grows.
  Conditions: as each theorem says.
-/
import Derived.Test.YtaiklhbakldfhaaGreatHO
import Derived.Test.YtaiklhbakldfhaaGreatMpV
import Derived.Test.YtaiklhbakldfhaaGreatHL
namespace Go.Proofs.YtaiklhbakldfhaaGreat
open Go.Lib (hid)
set_option linter.unusedSimpArgs false
set_option linter.unusedVariables false
set_option maxRecDepth 100000
set_option maxHeartbeats 16000000
open Go.RowKit Go.Maps
theorem aGw:aVn []:=fun b c s h=>by cases h
theorem bFm {l:List E} (h:aVn l) {p n m:Int} (hv:aI l=true) (hp:inB p n m=true) (hm:m<=65536):aVn (fV l p n):=fun b c s hb hc=>by
 have h1:=(iN _ _ _).1 hp;have hw:dW p n 65536=true:=by unfold dW;exact decide_eq_true (by omega)
 rw[aFp l p n _ hw hv]at hb hc
 split at hb
 ·cases hb
 split at hc
 ·cases hc
 exact h b c s hb hc
theorem aAf {F:Fam} (h:F.once) {u:Vol} (hu:aVn u.l):Fam.once ⟨F.N,eB F.vs u⟩:=fun v hv=>by
 rcases eF.1 hv with rfl|hv
 ·exact hu
 ·exact h v hv.1
theorem aUx {F:Fam} (hF:F.ok) (h:F.once) {s:aW} (h3:s.k%8<=3) (hk:0<=s.k):(sK F s).once:=by
 unfold sK
 split
 ·rename_i he
  unfold iB at he ⊢;by_cases e0:s.k%8=0
  ·rw[if_pos e0]at he ⊢;revert he;show(aU F (aY s.v) s.n s.a).2=0->(aU F (aY s.v) s.n s.a).1.once;unfold aU
   split
   ·intro h;simp at h
   split
   ·intro h;simp at h
   split
   ·intro h;simp at h
   intro _;exact aAf h aGw
  rw[if_neg e0]at he ⊢;by_cases e1:s.k%8=1
  ·rw[if_pos e1]at he ⊢;revert he;show(bJ F (aY s.v) (aY s.o)).2=0->(bJ F (aY s.v) (aY s.o)).1.once;unfold bJ
   split
   ·intro h;simp at h
   rename_i v hg
   split
   ·intro h;simp at h
   split
   ·intro h;simp at h
   split
   ·intro h;simp at h
   intro _;exact aAf h (h v (aH hg).1)
  rw[if_neg e1]at he ⊢;by_cases e2:s.k%8=2
  ·rw[if_pos e2]at he ⊢;revert he;unfold bC
   split
   ·intro h;simp at h
   intro _ w hw;exact h w (gM.1 hw).1
  rw[if_neg e2]at he ⊢;rw[if_pos (by omega)]at he ⊢;revert he;unfold bY
  split
  ·intro h;simp at h
  rename_i v hg
  split
  ·intro h;simp at h
  rename_i hi
  have hi:inB s.a s.n v.n=true:=by simpa using hi
  intro _;have hv:=hF.vol v (aH hg).1;exact aAf h (bFm (h v (aH hg).1) hv.valid hi hv.n2)
 ·exact h
theorem aOr {F:Fam} (h:F.small) {s:aW} (hs:s.ok):(sK F s).small:=by
 unfold sK
 split
 ·exact aTs h s hs
 ·exact h
theorem WrJ.small {F:Fam} {v:Vol} {p n:Nat} {S:List Int} (h:PW F v p n S) {G:Fam} {L:List E} (hw:WrJ F v p n S n G L) (hs:F.small):G.small:=fun w hwm=>by
 have hg:=iO hw.wi.ok.sorted hwm;by_cases e:w.nm=v.nm
 ·rw[e,hw.get]at hg;rw[<-Option.some.inj hg];exact hs v (aH h.get).1
 ·rw[hw.wi.oth _ e]at hg;exact hs w (aH hg).1
structure Stp (F:Fam) (s:aW) (N:List UInt8) (G:Fam):Prop where
 sound:G.sound
 once:G.once
 N':G.N=F.N
 keeps:aIm F G
 small:F.small->G.small
 note:(N=[]/\G=F)∨(N≠ []/\fO F N=(G,0))
 len:(N.length:Int)<=48+if 3<s.k%8 then 8*(s.n%20)else 0
 max:N.length<=256
theorem Stp.none {F:Fam} (hF:F.sound) (ho:F.once) {s:aW} (hs:s.ok):Stp F s [] F:=
 ⟨hF,ho,rfl,aIm.refl hF.ok,fun h=>h,.inl ⟨rfl,rfl⟩,by have:=hs.n;simp only[List.length_nil];split <;> omega,by simp⟩
def aEf (F:Fam) (s:aW):Int:=
 if s.k%8=0 then crE F (aY s.v) s.n s.a else if s.k%8=1 then clE F (aY s.v) (aY s.o)else if s.k%8=2 then (bC F (aY s.v)).2.2 else (bY F (aY s.v) s.a s.n).2.2
def vV (s:aW):List UInt8:=
 if s.k%8=0 then kE (aY s.v) s.n s.a else if s.k%8=1 then vW (aY s.v) (aY s.o)else if s.k%8=2 then pF (aY s.v)else pE (aY s.v) s.a s.n
def uU (F:Fam) (s:aW):List UInt8:=if aEf F s=0 then vV s else []
theorem aYb {F:Fam} {s:aW} (h3:s.k%8<=3) (hk:0<=s.k):(aEi F s).2=aEf F s:=by
 unfold aEi yE aEf iB;by_cases e0:s.k%8=0
 ·simp only[if_pos e0];unfold crE;by_cases h1:(aU F (aY s.v) s.n s.a).2=0
  ·rw[if_neg (by simpa using h1),if_pos h1];by_cases h2:eQ F s.n s.a=0
   ·rw[if_neg (by simpa using h2),h2]
   ·rw[if_pos h2]
  ·rw[if_pos h1,if_neg h1]
 simp only[if_neg e0];by_cases e1:s.k%8=1
 ·simp only[if_pos e1];unfold clE;by_cases h1:(bJ F (aY s.v) (aY s.o)).2=0
  ·rw[if_neg (by simpa using h1),if_pos h1];by_cases h2:fB F (aY s.v)=0
   ·rw[if_neg (by simpa using h2),h2]
   ·rw[if_pos h2]
  ·rw[if_pos h1,if_neg h1]
 simp only[if_neg e1];by_cases e2:s.k%8=2
 ·simp only[if_pos e2];by_cases h1:(bC F (aY s.v)).2.2=0
  ·rw[if_neg (by simpa using h1),if_neg (by simp),h1]
  ·rw[if_pos h1]
 simp only[if_neg e2,if_pos (show s.k%8=3 by omega)];by_cases h1:(bY F (aY s.v) s.a s.n).2.2=0
 ·rw[if_neg (by simpa using h1),if_neg (by simp),h1]
 ·rw[if_pos h1]
theorem aHn (x:List UInt8) (h:x.length<128):(wN x).length=1+x.length:=by
 unfold wN;rw[List.length_append,yO h]
theorem vU {p n:Int} (hp:0<=p/\p<=65536) (hn:0<=n/\n<=65536):(numsL [p,n]).length<=6:=by
 unfold numsL;simp only[List.flatMap_cons,List.flatMap_nil,List.append_nil,List.length_append];have a:=iA (x:=p) hp.1 (by omega);have b:=iA (x:=n) hn.1 (by omega);omega
theorem xI {s:aW} (hs:s.ok):1<=(vV s).length/\(vV s).length<=48:=by
 have h1:=kP s.v;have h2:=kP s.o;have bn:=hs.n;have ba:=hs.a;unfold vV
 split
 ·unfold kE;rw[List.length_append,sF 3 _ (by omega) (by omega)];have:=vU (p:=s.n) (n:=s.a) (by omega) (by omega);omega
 split
 ·unfold vW;rw[List.length_append,sF 4 _ (by omega) (by omega),aHn _ (by omega)];omega
 split
 ·unfold pF;rw[sF 5 _ (by omega) (by omega)];omega
 ·unfold pE;rw[List.length_append,sF 2 _ (by omega) (by omega)];have:=vU (p:=s.a) (n:=s.n) (by omega) (by omega);omega
theorem oP {F G:Fam} {e:Int} (he:e=0) (hr:0<=cB G):aEg F G e []=(G,0):=by
 unfold aEg;rw[if_neg (by simpa using he),if_neg (by simp),if_neg (by omega)]
theorem aMd {F:Fam} (hF:F.sound) (ho:F.once) {s:aW} (hs:s.ok) (h3:s.k%8<=3):Stp F s (uU F s) (aEi F s).1:=by
 have hk:=hs.k.1;have hsnd:=aYb (F:=F) h3 hk;unfold uU;by_cases he:aEf F s=0
 ·rw [if_pos he];rw[he]at hsnd;have hst:(iB F s).2.2=0/\yE F s=0/\(aEi F s).1=sK F s:=by
   unfold aEi at hsnd ⊢;unfold sK;by_cases h1:(iB F s).2.2=0
   ·rw[if_neg (by simpa using h1)]at hsnd ⊢;by_cases h2:yE F s=0
    ·rw[if_neg (by simpa using h2),if_pos h1];exact⟨h1,h2,rfl⟩
    ·rw[if_pos h2]at hsnd;exact absurd hsnd h2
   ·rw[if_pos h1]at hsnd;exact absurd hsnd h1
  obtain ⟨q1,q2,q3⟩:=hst;have hsd:(sK F s).sound:=aTn hF hs (fun e=>by unfold yE at q2;rw[if_pos e]at q2;exact q2) (fun e=>by unfold yE at q2;rw[if_neg (by omega),if_pos e]at q2;exact q2) h3;have hkp:=aOn hF.ok hs;obtain⟨l1,l2⟩:=xI hs;have hap:fO F (vV s)=(sK F s,0):=by
   have h1:=kP s.v;have h2:=kP s.o;have bn:=hs.n;have ba:=hs.a;have hse:sK F s=(iB F s).1:=if_pos q1;have hrm:=hsd.room;rw[hse]at hrm ⊢;revert l2 hrm q1;unfold vV iB;by_cases e0:s.k%8=0
   ·simp only[if_pos e0];intro l2 hrm q1;rw[aIj F _ _ _ (by omega) (by omega) (by omega) (by omega)];exact oP l2 q1
   simp only[if_neg e0];by_cases e1:s.k%8=1
   ·simp only[if_pos e1];intro l2 hrm q1;rw[bHj F _ _ (by omega) (by omega) (by omega)];exact oP l2 q1
   simp only[if_neg e1];by_cases e2:s.k%8=2
   ·simp only[if_pos e2];intro l2 hrm q1;rw[aSs F _ (by omega) (by omega)];exact oP l2 q1
   simp only[if_neg e2,if_pos (show s.k%8=3 by omega)];intro l2 hrm q1;rw[aSr F _ _ _ (by omega) (by omega) (by omega) (by omega)];exact oP l2 q1
  rw[q3];exact⟨hsd,aUx hF.ok ho h3 hk,hkp.N,hkp,fun h=>aOr h hs,.inr ⟨fun e=>by rw[e]at l1;simp at l1,hap⟩,by rw[if_neg (by omega)];omega,by omega⟩
 ·rw [if_neg he];have hst:(aEi F s).1=F:=by
   unfold aEi at hsnd ⊢;by_cases h1:(iB F s).2.2=0
   ·rw[if_neg (by simpa using h1)]at hsnd ⊢;by_cases h2:yE F s=0
    ·rw[if_neg (by simpa using h2)]at hsnd;exact absurd hsnd.symm he
    ·rw[if_pos h2]
   ·rw[if_pos h1]
  rw[hst];exact Stp.none hF ho hs
theorem aYy {F:Fam} {v:Vol} {p n:Nat} {S:List Int} (h:PW F v p n S) (hn:n<=16) {G:Fam} {L:List E} (hw:WrJ F v p n S n G L) {s:aW} (hs:s.ok) (hk:3<s.k%8) (hv:v.nm=aY s.v) (hsn:s.n%20=n):Stp F s (iU v.nm (joinL (chL F.C v.l p S n))) G:=by
 have hl:=h.note_le hn;refine⟨hw.wi.sound h.sound h.get,hw.once h,hw.wi.N,hw.wi.keeps h.sound.ok (aLz h.sound.ok hs.v.1 (by rw[<-hv];exact h.get)),fun hsm=>hw.small h hsm,.inr ⟨fun e=> ?_,h.apply hw (by omega)⟩,?_,by omega⟩
 ·have hnl:=(jU h.vok.name).2;have:(iU v.nm (joinL (chL F.C v.l p S n))).length=0:=by rw[e];rfl
  unfold iU at this;rw[List.length_append,List.length_append,sF 1 v.nm (by omega) (by omega)]at this;omega
 ·rw[if_pos hk,hsn];omega
theorem aKg (M:Nat) (F:Fam) (s:aW) (w:World) (hF:F.ok) (hsh:∀ v∈F.vs,v.l.length<=9000) (h:dU w M F) (hs:s.ok):
  Calls Tryz.prog 54 #[.pointer (some ⟨M,0,none⟩),s.val] w (aLy w (uU F s) (aEf F s)):=by
 have HX:=hid (SX.new w _ rfl s 66);have HB:=hid ((Below.refl w.heap.size w).bMq (.cells #[.int .u8 s.k,.int .u8 s.v,.int .u8 s.o,.int .u8 s.a,.int .u8 s.n,.int .u8 s.s] 66));have HMB:=hid h;obtain⟨nm,hnm,hnl⟩:∃ nm,aY s.v=nm/\nm.length<=1000000:=⟨_,rfl,Nat.le_trans (kP _) (by omega)⟩;obtain⟨ot,hot,hol⟩:∃ nm,aY s.o=nm/\nm.length<=1000000:=⟨_,rfl,Nat.le_trans (kP _) (by omega)⟩;have HNM:=hid hnm;have HOT:=hid hot;have HS:=hid hs;have bk:=hs.k;have ba:=hs.a;have bn:=hs.n;unfold uU aEf vV;rw[hnm,hot];clear hs h hnm hot;by_cases e0:s.k%8=0
 ·simp only[if_pos e0];obtain⟨x,hx⟩:∃ x,crE F nm s.n s.a=x:=⟨_,rfl⟩;rw[hx];obtain⟨R,hR⟩:∃ R,(if x=0 then kE nm s.n s.a else [])=R:=⟨_,rfl⟩;rw[hR];have HC:=hid (fun W h=>yY M F x nm R s.n s.a W hF hsh h hnl hx hR);have q0:(s.k%8==0)=true:=by simpa using e0
  clear e0 hx hR hF hsh;go_enter Tryz.func54,Tryz.ntmps54;have s0:=HX.o.s0;have s1:=HX.o.s1;have s2:=HX.o.s2;have s3:=HX.o.s3;have s4:=HX.o.s4;go_wp2_with fail;refine(dZ s.v nm _ HS.o.v HNM.o).mono ?_;rintro e w1 ⟨rfl,hb⟩;have HX1:=hid (HX.o.later hb);have HB1:=hid (HB.o.on hb);have HM1:=hid (HMB.o.later HB1.o);clear hb s0 s1 s2 s3 s4 HX HB HMB;have s0:=HX1.o.s0;have s1:=HX1.o.s1;have s2:=HX1.o.s2;have s3:=HX1.o.s3;have s4:=HX1.o.s4;go_wp2_with fail;refine(HC.o _ HM1.o).mono ?_;rintro e w2 ⟨na,nc,rfl,hrd,hb⟩;have HRD:=hid hrd;have HB2:=hid (HB1.o.on hb);clear hb hrd s0 s1 s2 s3 s4 HX1 HM1 HB1;go_wp2_with fail;go_ret2;exact⟨na,nc,rfl,HRD.o,HB2.o⟩
 have q0:(s.k%8==0)=false:=by simpa using e0
 simp only[if_neg e0];by_cases e1:s.k%8=1
 ·simp only[if_pos e1];obtain⟨x,hx⟩:∃ x,clE F nm ot=x:=⟨_,rfl⟩;rw[hx];obtain⟨R,hR⟩:∃ R,(if x=0 then vW nm ot else [])=R:=⟨_,rfl⟩;rw[hR];have HC:=hid (fun W h=>bAv M F x nm ot R W hF hsh h hnl hol hx hR);have q1:(s.k%8==1)=true:=by simpa using e1
  clear e0 e1 hx hR hF hsh;go_enter Tryz.func54,Tryz.ntmps54;have s0:=HX.o.s0;have s1:=HX.o.s1;have s2:=HX.o.s2;have s3:=HX.o.s3;have s4:=HX.o.s4;go_wp2_with fail;refine(dZ s.v nm _ HS.o.v HNM.o).mono ?_;rintro e w1 ⟨rfl,hb⟩;have HX1:=hid (HX.o.later hb);have HB1:=hid (HB.o.on hb);have HM1:=hid (HMB.o.later HB1.o);clear hb s0 s1 s2 s3 s4 HX HB HMB;have s0:=HX1.o.s0;have s1:=HX1.o.s1;have s2:=HX1.o.s2;have s3:=HX1.o.s3;have s4:=HX1.o.s4;go_wp2_with fail;refine(dZ s.o ot _ HS.o.o HOT.o).mono ?_;rintro e w1 ⟨rfl,hb⟩;replace HX1:=hid (HX1.o.later hb);replace HB1:=hid (HB1.o.on hb);replace HM1:=hid (HM1.o.later hb);clear hb;go_wp2_with fail;refine(HC.o _ HM1.o).mono ?_;rintro e w2 ⟨na,nc,rfl,hrd,hb⟩;have HRD:=hid hrd;have HB2:=hid (HB1.o.on hb);clear hb hrd s0 s1 s2 s3 s4 HX1 HM1 HB1;go_wp2_with fail;go_ret2;exact⟨na,nc,rfl,HRD.o,HB2.o⟩
 have q1:(s.k%8==1)=false:=by simpa using e1
 simp only[if_neg e1];by_cases e2:s.k%8=2
 ·simp only[if_pos e2];obtain⟨G,L,x,hx⟩:∃ G L x,bC F nm=(G,L,x):=⟨_,_,_,rfl⟩;rw[hx];simp only;obtain⟨R,hR⟩:∃ R,(if x=0 then pF nm else [])=R:=⟨_,rfl⟩;rw[hR];have HC:=hid (fun W h=>aGl M F G L x nm R W hF hsh h hnl hx hR);have q2:(s.k%8==2)=true:=by simpa using e2
  clear e0 e1 e2 hx hR hF hsh;go_enter Tryz.func54,Tryz.ntmps54;have s0:=HX.o.s0;have s1:=HX.o.s1;have s2:=HX.o.s2;have s3:=HX.o.s3;have s4:=HX.o.s4;go_wp2_with fail;refine(dZ s.v nm _ HS.o.v HNM.o).mono ?_;rintro e w1 ⟨rfl,hb⟩;have HX1:=hid (HX.o.later hb);have HB1:=hid (HB.o.on hb);have HM1:=hid (HMB.o.later HB1.o);clear hb s0 s1 s2 s3 s4 HX HB HMB;have s0:=HX1.o.s0;have s1:=HX1.o.s1;have s2:=HX1.o.s2;have s3:=HX1.o.s3;have s4:=HX1.o.s4;go_wp2_with fail;refine(HC.o _ HM1.o).mono ?_;rintro e w2 ⟨na,nc,rfl,hrd,hb⟩;have HRD:=hid hrd;have HB2:=hid (HB1.o.on hb);clear hb hrd s0 s1 s2 s3 s4 HX1 HM1 HB1;go_wp2_with fail;go_ret2;exact⟨na,nc,rfl,HRD.o,HB2.o⟩
 have q2:(s.k%8==2)=false:=by simpa using e2
 simp only[if_neg e2];obtain⟨G,L,x,hx⟩:∃ G L x,bY F nm s.a s.n=(G,L,x):=⟨_,_,_,rfl⟩;rw[hx];simp only;obtain⟨R,hR⟩:∃ R,(if x=0 then pE nm s.a s.n else [])=R:=⟨_,rfl⟩;rw[hR];have HC:=hid (fun W h=>aQg M F G L x nm R s.a s.n W hF hsh h hnl (by omega) hx hR);clear e0 e1 e2 hx hR hF hsh;go_enter Tryz.func54,Tryz.ntmps54;have s0:=HX.o.s0;have s1:=HX.o.s1;have s2:=HX.o.s2;have s3:=HX.o.s3;have s4:=HX.o.s4;go_wp2_with fail;refine(dZ s.v nm _ HS.o.v HNM.o).mono ?_;rintro e w1 ⟨rfl,hb⟩;have HX1:=hid (HX.o.later hb);have HB1:=hid (HB.o.on hb);have HM1:=hid (HMB.o.later HB1.o);clear hb s0 s1 s2 s3 s4 HX HB HMB;have s0:=HX1.o.s0;have s1:=HX1.o.s1;have s2:=HX1.o.s2;have s3:=HX1.o.s3;have s4:=HX1.o.s4;go_wp2_with fail;refine(HC.o _ HM1.o).mono ?_;rintro e w2 ⟨na,nc,rfl,hrd,hb⟩;have HRD:=hid hrd;have HB2:=hid (HB1.o.on hb);clear hb hrd s0 s1 s2 s3 s4 HX1 HM1 HB1;go_wp2_with fail;go_ret2;exact⟨na,nc,rfl,HRD.o,HB2.o⟩
open Go.RowKit Go.Maps
def Value.isSl (u:Value):Prop:= ∃a l c,u= .slice a l c
structure wW (W:World) (X:Nat):Prop where
 row:∃ cur,W.heap[X]? =some (.cells cur 23 (0,0))/\ ∀u∈cur.toList,Value.isSl u
section
variable {W W':World} {X:Nat}
theorem wW.cell (h:wW W X) {i:Nat} {u:Value} (hc:W.cell? ⟨X,i,none⟩=some u):Value.isSl u:=by
 obtain⟨cur,hr,hs⟩:=h.row;rw[cell_of_row W X i cur _ (0,0) hr]at hc;obtain⟨hi,rfl⟩:=Array.getElem?_eq_some_iff.1 hc;exact hs _ (by simp)
theorem wW.ty (h:wW W X):pO W X 23:=by
 obtain⟨cur,hr,_⟩:=h.row;exact⟨cur,_,hr⟩
theorem wW.int (h:wW W X) {i:Nat} {k:IntKind} {x:Int} (hc:W.cell? ⟨X,i,none⟩=some (.int k x)):False:=by
 obtain⟨a,l,c,e⟩:=h.cell hc;cases e
theorem bMc:3≠23:=by decide
theorem RdY.bNb (hX:wW W X) (hg:W.grownBy W' (some X)) {a:Option Addr} {l:List UInt8} (h:RdY W a l):RdY W' a l:=
 ⟨h.1,h.2.imp id fun⟨b,o,ha,hat⟩=>⟨b,o,ha,fun k c hk=>aZ hg (hat k c hk) fun e=>by
  have:=hat k c hk;simp only at e;subst e
  exact hX.int this⟩⟩
theorem RdI.bNb (hX:wW W X) (hg:W.grownBy W' (some X)) {a:Option Addr} {C:List Int} (h:RdI W a C):RdI W' a C:=by
 refine⟨h.1,h.2.imp id fun⟨b,o,ha,ht,hat⟩=> ?_⟩;have hne:b≠X:=ht.ne hX.ty bMc;exact⟨b,o,ha,ht.grown hg hne,fun k c hk=>aZ hg (hat k c hk) hne⟩
theorem aF.bNb (hX:wW W X) (hg:W.grownBy W' (some X)) (t:Tr):∀ {v:Value},aF W v t->aF W' v t:=by
 induction t with
 |nil=>exact fun hv=>hv
 | node l x r ihl ihr=>
  rintro v ⟨b,vl,vr,hv,hn,hl,hr⟩;have hne:b≠X:=fun e=>by
   subst e;exact hX.int hn.a
  have k:∀ {j u},W.cell? ⟨b,j,none⟩=some u->W'.cell? ⟨b,j,none⟩=some u:=fun h=>aZ hg h hne;exact⟨b,vl,vr,hv,⟨k hn.a,k hn.n,k hn.s,k hn.l,k hn.r,k hn.d,k hn.c,k hn.m⟩,ihl hl,ihr hr⟩
theorem bA.bNb (hX:wW W X) (hg:W.grownBy W' (some X)) {fv:Value} {F:Fam} (hf:bA W fv F):bA W' fv F:=by
 obtain⟨a,c,mb,h1,h2,ts,h3,h4,h5⟩:=hf;refine⟨a,c,mb,h1,h2.bNb hX hg,ts,h3,fun p hp=>(h4 p hp).bNb hX hg,h5.elim .inl fun⟨b,q1,q2⟩=> .inr ⟨b,q1,?_⟩⟩;refine World.ownsMap.kept q2 hg ?_;obtain⟨es,clock,hb,r⟩:=q2;obtain⟨cur,hr,_⟩:=hX.row;intro e;injection e with e;subst e;rw[hb]at hr;cases hr
theorem Rd.bNb (hX:wW W X) (hg:W.grownBy W' (some X)) {a:Option Addr} {l:List E} (h:Rd W a l):Rd W' a l:=by
 refine ⟨h.1,h.2.imp id fun⟨b,o,ha,hat⟩=>⟨b,o,ha,fun k z hk=> ?_⟩⟩;have q:=hat k z hk;have hne:b≠X:=fun e=>by
  subst e;exact hX.int q.a
 exact⟨aZ hg q.a hne,aZ hg q.n hne,aZ hg q.s hne⟩
theorem RdR.bNb (hX:wW W X) (hg:W.grownBy W' (some X)) {a:Option Addr} {ts:List RT} (h:RdR W a ts):RdR W' a ts:=by
 refine ⟨h.1,h.2.imp id fun⟨b,o,ha,hat⟩=>⟨b,o,ha,fun k z hk=> ?_⟩⟩;have q:=hat k z hk;have hne:b≠X:=fun e=>by
  subst e;exact hX.int q.c1
 exact⟨aZ hg q.c0 hne,aZ hg q.c1 hne,aZ hg q.c2 hne,aZ hg q.c3 hne⟩
theorem bI.bNb (hX:wW W X) (hg:W.grownBy W' (some X)) {gv:Value} {F:Fam} (hf:bI W gv F):bI W' gv F:=by
 obtain⟨a,c,ts,h1,h2,h3,h4⟩:=hf;exact⟨a,c,ts,h1,h2.bNb hX hg,fun z hz=>(h3 z hz).bNb hX hg,h4⟩
theorem wW.grown (h:wW W X) {row:Option Nat} (hg:W.grownBy W' row) (hne:row≠some X):wW W' X:=by
 obtain⟨cur,hr,hs⟩:=h.row;exact⟨cur,(hg.block X (Array.getElem?_eq_some_iff.1 hr).1 (fun e=>hne e.symm)).trans hr,hs⟩
end
def mR (w:World) (B:Nat) (v:Value) (xs:List Value):Prop:=
 (xs=[]/\v= .slice none 0 0)∨ ∃g cap cur,v= .slice (some ⟨g,0,none⟩) xs.length cap/\B<=g/\w.heap[g]? =some (.cells cur 23 (0,0))/\xs.length<=cap/\cap<=maxLen/\cur.size=cap/\cur.toList.take xs.length=xs/\ ∀u∈cur.toList,Value.isSl u
theorem mR.nil (w:World) (B:Nat):mR w B (.slice none 0 0) []:= .inl ⟨rfl,rfl⟩
theorem mR.grown {w w':World} {B:Nat} {v:Value} {xs:List Value} {row:Option Nat} (h:mR w B v xs) (hg:w.grownBy w' row) (hne:∀ k,row=some k->k<B):mR w' B v xs:=by
 rcases h with h|⟨g,cap,cur,h1,h2,h3,h4⟩
 ·exact .inl h
 ·exact .inr ⟨g,cap,cur,h1,h2,(hg.block g (Array.getElem?_eq_some_iff.1 h3).1 (fun e=>by have:=hne g e.symm;omega)).trans h3,h4⟩
theorem mR.keep {w w':World} {B:Nat} {v:Value} {xs:List Value} (h:mR w B v xs) (hb:Below w.heap.size w w'):mR w' B v xs:=
 h.grown (bD hb none) (fun k e=>by cases e)
theorem mR.odd {w:World} {B:Nat} {v:Value} {xs:List Value} (h:mR w B v xs) {g:Nat} (hv:v.ownBlock=some g):wW w g/\B<=g:=by
 rcases h with ⟨_,rfl⟩|⟨g',cap,cur,rfl,h2,h3,_,_,_,_,h4⟩
 ·cases hv
 ·injection hv with hv;simp only at hv;subst hv;exact⟨⟨cur,h3,h4⟩,h2⟩
def RdP (w:World) (a:Option Addr) (xs:List Value):Prop:=xs=[]∨ ∃b o,a=some ⟨b,o,none⟩/\ ∀k u,xs[k]? =some u->w.cell? ⟨b,o+k,none⟩=some u
theorem RdP.keep {w w':World} {a:Option Addr} {xs:List Value} (h:RdP w a xs) (hb:Below w.heap.size w w'):RdP w' a xs:=
 h.imp id fun⟨b,o,h1,h2⟩=>⟨b,o,h1,fun k u hk=>hb.keep (h2 k u hk)⟩
theorem mR.rd {w:World} {B:Nat} {v:Value} {xs:List Value} (h:mR w B v xs):∃ a c,v= .slice a xs.length c/\RdP w a xs:=by
 rcases h with ⟨rfl,rfl⟩|⟨g,cap,cur,rfl,h2,h3,_,_,hsz,ht,h4⟩
 ·exact⟨_,_,rfl,.inl rfl⟩
 ·refine⟨_,_,rfl,.inr ⟨g,0,rfl,fun k u hk=> ?_⟩⟩;have hlt:=(List.getElem?_eq_some_iff.1 hk).1;rw[Nat.zero_add,cell_of_row w g k cur _ (0,0) h3,<-hk];have h5:(cur.toList.take xs.length)[k]? =xs[k]? :=by rw[ht]
  rw[<-h5,List.getElem?_take,if_pos hlt];simp
theorem bMh:(Tryz.prog.info? 23).map (fun i=>(i.zero,i.size,i.bytes))=some (some (.slice none 0 0),1,24):=by kernel_rfl
theorem bHy (n:Nat):∀ u∈(Builtin.zeroCells (Value.slice none 0 0).cells n).toList,Value.isSl u:=by
 intro u hu;simp only[Builtin.zeroCells,Value.cells,Array.toList_map,Array.toList_range,List.mem_map,List.mem_range]at hu;obtain⟨a,_,rfl⟩:=hu;have:a%(#[Value.slice none 0 0]:Array Value).size=0:=Nat.mod_one a;rw[this];exact⟨_,_,_,rfl⟩
theorem aMg (t ty:TypeId) (ht:Tryz.prog.underlying t=some (.slice 23)) (w:World) (B:Nat) (v:Value) (xs:List Value) (h:mR w B v xs) (a:Addr) (c:Nat) (u:Value) (hu:Value.isSl u) (hc:w.cell? a=some u) (hn:xs.length<=1000000) (hB:B<=w.heap.size):
    ∃v' w',(Builtin.append_ #[t,t] ty #[v,.slice (some a) 1 c]).run Tryz.prog w= .ok v' w'/\mR w' B v' (xs++[u])/\w.grownBy w' v.ownBlock/\(v'.ownBlock=v.ownBlock∨v'.ownBlock=some w.heap.size):=by
  obtain ⟨i,hi,hz0,hz1,hz2⟩:=info_parts bMh;have hnews:∀ j x,([u]:List Value)[j]? =some x->w.cell? (a.add j)=some x:=by
    intro j x hj
    cases j with
    | zero=>
      simp at hj;subst hj;have:a.add 0=a:=by simp[Addr.add]
      rw[this];exact hc
    |succ j=>simp at hj
  have h1:∀ x∈([u]:List Value),x.oneCell'=true:=by
    intro x hx;simp at hx;subst hx;obtain⟨_,_,_,rfl⟩:=hu;rfl
  have grown:∀ (old:Nat),old<xs.length+1-> ∀(row:Option Nat),
      mR (w.drew.alloc (.cells (xs.toArray++([u]:List Value).toArray++Builtin.zeroCells (Value.slice none 0 0).cells (grownCap w (xs.length+1) old 23-(xs.length+1))) 23)) B (.slice (some ⟨w.heap.size,0,none⟩) (xs.length+1) (grownCap w (xs.length+1) old 23)) (xs++[u])/\
      w.grownBy (w.drew.alloc (.cells (xs.toArray++([u]:List Value).toArray++Builtin.zeroCells (Value.slice none 0 0).cells (grownCap w (xs.length+1) old 23-(xs.length+1))) 23)) row:=by
    intro old ho row;have hge:=grownCap_ge w (xs.length+1) old 23;have hcm:=grownCap_le_maxLen w (xs.length+1) old 23 (by simp only[maxLen];omega);have hxs:∀ x∈xs,Value.isSl x:=by
      intro x hx;rcases h with ⟨rfl,_⟩|⟨g,cap,cur,_,_,_,_,_,_,h5,h6⟩
      · simp at hx
      · rw[<-h5]at hx;exact h6 x (List.mem_of_mem_take hx)
    refine⟨.inr ⟨w.heap.size,_,_,by rw[List.length_append];rfl,hB,heap_alloc_new w.drew _,by simp;omega,hcm,?_,?_,?_⟩,⟨rfl,rfl,rfl,by simp,fun k hk _=>heap_alloc_old w.drew _ hk⟩⟩
    · simp only[Array.size_append,List.size_toArray,size_zeroCells,Value.cells,List.length_cons,List.length_nil];omega
    · simp only[Array.toList_append,List.append_assoc];rw[<-List.append_assoc];exact List.take_left
    · intro x hx;simp only[Array.toList_append,List.mem_append]at hx;rcases hx with (hx|hx)|hx
      · exact hxs x hx
      · simp at hx;subst hx;exact hu
      · exact bHy _ x hx
  rcases h with ⟨rfl,rfl⟩|⟨g,cap,cur,rfl,h2,h3,h4,h5,h6,h7,h8⟩
  · have hr:=run_append_nil (P:=Tryz.prog) w t ty 23 i _ ht hi hz0 a 1 c [u] (by rw[hz1];rfl) hnews (by omega) (by omega) (by rw[hz2];omega);have hgr:=grown 0 (by simp) (Value.ownBlock (.slice none 0 0));simp only[List.length_nil,Nat.zero_add,List.nil_append,Array.empty_append]at hgr ⊢;exact⟨_,_,hr,hgr.1,hgr.2,.inr rfl⟩
  · by_cases hroom:xs.length+1<=cap
    · have hr:=run_append_room (P:=Tryz.prog) w t ty 23 i ht hi g xs.length cap cur h3 a 1 c [u] (by rw[hz1];rfl) hnews h1 hroom (by rw[hz1];simp;omega);rw[hz1,Nat.mul_one]at hr;refine⟨_,_,hr,.inr ⟨g,cap,_,by rw[List.length_append];rfl,h2,setRow_heap w g cur _ _ _ h3,by simp;omega,h5,?_,?_,?_⟩,⟨rfl,rfl,rfl,by simp,fun k hk hne=>setRow_other w g k _ (fun e=>hne (by simp[Value.ownBlock,e]))⟩,.inl rfl⟩
      · simp only[List.size_toArray,List.length_append,List.length_take,List.length_drop,Array.length_toList,List.length_cons,List.length_nil];omega
      · rw[h7];exact List.take_left
      · intro x hx;simp only[List.mem_append]at hx;rcases hx with (hx|hx)|hx
        · exact h8 x (List.mem_of_mem_take hx)
        · simp at hx;subst hx;exact hu
        · exact h8 x (List.mem_of_mem_drop hx)
    · have holds:∀ j x,xs[j]? =some x->w.cell? ((⟨g,0,none⟩:Addr).add j)=some x:=by
        intro j x hj;have hlt:=(List.getElem?_eq_some_iff.1 hj).1;have e1:((⟨g,0,none⟩:Addr).add j)=⟨g,j,none⟩:=by cases j <;> simp[Addr.add]
        rw[e1,cell_of_row w g j cur _ (0,0) h3,<-hj];have e2:(cur.toList.take xs.length)[j]? =xs[j]? :=by rw[h7]
        rw[<-e2,List.getElem?_take,if_pos hlt];simp
      have hr:=run_append_grow (P:=Tryz.prog) w t ty 23 i _ ht hi hz0 ⟨g,0,none⟩ xs.length cap xs (by rw[hz1];omega) holds a 1 c [u] (by rw[hz1];rfl) hnews (by omega) (by omega) (growslice_fits (by omega) (by rw[hz2];omega));have hgr:=grown cap (by omega) (Value.ownBlock (.slice (some ⟨g,0,none⟩) xs.length cap));exact⟨_,_,hr,hgr.1,hgr.2,.inr rfl⟩
theorem oZ {ops:Array Oper} {rest:List Oper} {o:Oper} {a:Act} {w:World} {Q:Exit->Act->World->Prop} (hgd:o.guard=none) (s x:Operand) (t:TypeId)
  (ho:o.op= .call {callee:= .builtin .append,args:= #[s,x],argTypes:= #[t,t]}) (ht:Tryz.prog.underlying t=some (.slice 23)) (B:Nat) (v:Value) (xs:List Value) (hs:a.eval s=v) (h:mR w B v xs) (ad:Addr) (c:Nat) (u:Value) (hx:a.eval x= .slice (some ad) 1 c) (hu:Value.isSl u) (hc:w.cell? ad=some u) (hn:xs.length<=1000000) (hB:B<=w.heap.size)
  (hK:∀ v' w',mR w' B v' (xs++[u])->w.grownBy w' v.ownBlock->(v'.ownBlock=v.ownBlock∨v'.ownBlock=some w.heap.size)->wpList Tryz.prog ops Q rest (a.put o.dst v') w'):wpList Tryz.prog ops Q (o::rest) a w:=by
 refine wpList_plain hgd fun K hK'=> ?_;obtain⟨v',w',hr,h2,h3,h4⟩:=aMg t o.type ht w B v xs h ad c u hu hc hn hB;unfold Oper.wp execOp;simp only[ho,resolve,invoke,builtin,Sem.run_bind,Sem.run_pure,Result.andThen_ok,List.map_toArray,List.map_cons,List.map_nil,hs,hx,hr];exact hK' _ _ (hK v' w' h2 h3 h4)
end Go.Proofs.YtaiklhbakldfhaaGreat
