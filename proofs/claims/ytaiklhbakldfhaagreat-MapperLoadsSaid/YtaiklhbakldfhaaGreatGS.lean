/-
  package family: Name; tegularef36.Name.
  package family: Create, Clone.
  Conditions: as each theorem says.
-/
import Derived.Test.YtaiklhbakldfhaaGreatHV
import Derived.Laws.IdiomStrings
import Derived.Test.YtaiklhbakldfhaaGreatHH
namespace Go.Proofs.YtaiklhbakldfhaaGreat
open Go.Lib (hid)
set_option linter.unusedSimpArgs false
set_option linter.unusedVariables false
set_option maxRecDepth 100000
set_option maxHeartbeats 16000000
open Go.RowKit Go.Maps
theorem jU {s:List UInt8} (h:gK s=true):1<=s.length/\s.length<=16:=by
 unfold gK at h;simp only[Bool.and_eq_true,decide_eq_true_eq]at h;exact h.2
theorem nI {s:List UInt8} (h:gK s=true):s.length<=maxLen:=by have:=(jU h).2;simp only[maxLen];omega
theorem aDj {s:List UInt8} (k:Nat) (h:charsB true (s.take k)=false):gK s=false:=by
 unfold gK;rw[aNp s k h];rfl
theorem aCs (c:UInt8) (k:Nat):(mE c||(decide (0<k)&&qV c))=true↔(97<=(c.toNat:Int)/\(c.toNat:Int)<=122)∨((0:Int)<k/\48<=(c.toNat:Int)/\(c.toNat:Int)<=57):=by
 simp only[mE,qV,Bool.or_eq_true,Bool.and_eq_true,decide_eq_true_eq];omega
theorem aSk (c:UInt8) (k:Nat) (h:¬ ((97<=(c.toNat:Int)/\(c.toNat:Int)<=122)∨((0:Int)<k/\48<=(c.toNat:Int)/\(c.toNat:Int)<=57))):(mE c||(decide (0<k)&&qV c))=false:=by
 cases hb:(mE c||(decide (0<k)&&qV c))
 ·rfl
 ·exact absurd ((aCs c k).1 hb) h
theorem aZt (nm:List UInt8) (w:World) (hn:nm.length<=maxLen):Calls Tryz.prog 197 #[nmV nm] w fun e w'=>e= .returned (.bool (gK nm))/\Below w.heap.size w w':=by
  have hsz:(ByteArray.mk nm.toArray).size=nm.length:=by simp[ByteArray.size]
  have hmax:nm.length<=9223372036854775807:=by simpa only[maxLen]using hn
  go_enter Tryz.func197,Tryz.ntmps197;go_wp2;go_loopw [3] (fun i wr=>∃ k:Nat,k<=nm.length/\i= .int .i64 k/\charsB true (nm.take k)=true/\Below w.heap.size w wr) (fun i _=>nm.length-(intOf i).toNat)
  case atStart=>exact⟨0,Nat.zero_le _,rfl,rfl,Below.refl _ _⟩
  case round=>
    obtain⟨k,hk,rfl,hch,hB⟩:=hrel;have HCH:=hid hch;clear hch;by_cases hlt:k<nm.length
    · have HT:=hid (aDu nm k hlt);have hget:(ByteArray.mk nm.toArray)[k]'(by rw[hsz];exact hlt)=nm[k]:=rfl;generalize nm[k]=c at *;have hc0:c.toNat<256:=c.toNat_lt;have hcs:(97<=(c.toNat:Int)/\(c.toNat:Int)<=122)∨((c.toNat:Int)<97/\(k:Int)<=0)∨((c.toNat:Int)<97/\0<(k:Int)/\(c.toNat:Int)<48)∨((c.toNat:Int)<97/\0<(k:Int)/\48<=(c.toNat:Int)/\(c.toNat:Int)<=57)∨((c.toNat:Int)<97/\0<(k:Int)/\48<=(c.toNat:Int)/\57<(c.toNat:Int))∨(97<=(c.toNat:Int)/\122<(c.toNat:Int)/\(k:Int)<=0)∨(97<=(c.toNat:Int)/\122<(c.toNat:Int)/\0<(k:Int)/\48<=(c.toNat:Int)/\57<(c.toNat:Int)):=by omega
      have HR:Hid (charsB true (nm.take (k+1))=(mE c||(decide (0<k)&&qV c))):=hid (by rw[HT.o,HCH.o,Bool.true_and]);clear HT HCH;rcases hcs with ⟨a1,a2⟩|⟨a1,a2⟩|⟨a1,a2,a3⟩|⟨a1,a2,a3,a4⟩|⟨a1,a2,a3,a4⟩|⟨a1,a2,a3⟩|⟨a1,a2,a3,a4,a5⟩
      all_goals go_wp2
      all_goals first
        |(exfalso;rename_i hx;simp only[Bool.not_eq_false',Bool.not_eq_true',decide_eq_true_eq,decide_eq_false_iff_not]at hx;omega)
        | (go_ret
           have h0:(mE c||(decide (0<k)&&qV c))=false:=aSk c k (by omega);have h1:gK nm=false:=aDj (k+1) (by rw[HR.o,h0]);rw[h1]
           exact⟨rfl,hB⟩)
        | (go_roundw
           case rel=>exact⟨k+1,by omega,by go_num,by rw[HR.o];exact(aCs c k).2 (by omega),hB⟩
           case measure=>simp[intOf];omega)
    · have hk':k=nm.length:=by omega
      subst hk';have h0:charsB true nm=true:=by have:=HCH.o;rwa [List.take_length]at this
      have HN:Hid (gK nm=(decide (1<=nm.length)&&decide (nm.length<=16))):=hid (by unfold gK;rw[h0,Bool.true_and]);clear h0;go_wp2
      all_goals
        go_ret;rw[HN.o];exact⟨bW (by simp only[Bool.and_eq_true,decide_eq_true_eq,Bool.false_eq_true,false_iff];omega),hB⟩
theorem nP (nm:List UInt8) (w:World) (hn:nm.length<=maxLen):Calls Tryz.prog 75 #[nmV nm] w fun e w'=>e= .returned (.bool (gK nm))/\Below w.heap.size w w':=by
  have hsz:(ByteArray.mk nm.toArray).size=nm.length:=by simp[ByteArray.size]
  have hmax:nm.length<=9223372036854775807:=by simpa only[maxLen]using hn
  obtain⟨cap,W1,hconv,hcell,hbel⟩:=aId nm w;have HCELL:=hid hcell;have HBEL:=hid hbel;have HE:Hid (nm=[]↔nm.length=0):=hid (by cases nm <;> simp);have hl1:(ByteArray.mk nm.toArray).toList=nm:=by rw[ByteArray.toList_eq]
  have hl2:(ByteArray.mk #[]).toList=[]:=by rw[ByteArray.toList_eq]
  clear hcell hbel;go_enter Tryz.func75,Tryz.ntmps75;go_wp2;go_loopw [9] (fun i wr=>∃ k:Nat,k<=nm.length/\i= .int .i64 k/\charsB true (nm.take k)=true/\Below W1.heap.size W1 wr) (fun i _=>nm.length-(intOf i).toNat)
  case atStart=>exact⟨0,Nat.zero_le _,rfl,rfl,Below.refl _ _⟩
  case round =>
    obtain⟨k,hk,rfl,hch,hB⟩:=hrel;have HCH:=hid hch;clear hch;by_cases hlt:k<nm.length
    · have HT:=hid (aDu nm k hlt);have hget:=hB.keep (HCELL.o k hlt);generalize nm[k]=c at *;have hc0:c.toNat<256:=c.toNat_lt;have hcs:(97<=(c.toNat:Int)/\(c.toNat:Int)<=122)∨((c.toNat:Int)<97/\(k:Int)<=0)∨((c.toNat:Int)<97/\0<(k:Int)/\(c.toNat:Int)<48)∨((c.toNat:Int)<97/\0<(k:Int)/\48<=(c.toNat:Int)/\(c.toNat:Int)<=57)∨((c.toNat:Int)<97/\0<(k:Int)/\48<=(c.toNat:Int)/\57<(c.toNat:Int))∨(97<=(c.toNat:Int)/\122<(c.toNat:Int)/\(k:Int)<=0)∨(97<=(c.toNat:Int)/\122<(c.toNat:Int)/\0<(k:Int)/\48<=(c.toNat:Int)/\57<(c.toNat:Int)):=by omega
      have HR:Hid (charsB true (nm.take (k+1))=(mE c||(decide (0<k)&&qV c))):=hid (by rw[HT.o,HCH.o,Bool.true_and]);clear HT HCH;rcases hcs with ⟨a1,a2⟩|⟨a1,a2⟩|⟨a1,a2,a3⟩|⟨a1,a2,a3,a4⟩|⟨a1,a2,a3,a4⟩|⟨a1,a2,a3⟩|⟨a1,a2,a3,a4,a5⟩
      all_goals go_wp2
      all_goals first
        |(exfalso;rename_i hx;simp only[Bool.not_eq_false',Bool.not_eq_true',decide_eq_true_eq,decide_eq_false_iff_not]at hx;omega)
        |(exfalso;rename_i _ hx _;simp only[beq_iff_eq]at hx;omega)
        | (go_ret
           have h0:(mE c||(decide (0<k)&&qV c))=false:=aSk c k (by omega);have h1:gK nm=false:=aDj (k+1) (by rw[HR.o,h0]);rw[h1]
           exact⟨rfl,HBEL.o.on hB⟩)
        | (go_roundw
           case rel=>exact⟨k+1,by omega,by go_num,by rw[HR.o];exact(aCs c k).2 (by omega),hB⟩
           case measure=>simp[intOf];omega)
    · have hk':k=nm.length:=by omega
      subst hk';have h0:charsB true nm=true:=by have:=HCH.o;rwa [List.take_length]at this
      have HN:Hid (gK nm=(decide (1<=nm.length)&&decide (nm.length<=16))):=hid (by unfold gK;rw[h0,Bool.true_and]);clear h0;go_wp2
      all_goals
        go_ret;rw[HN.o]
        first
          | (have h6:nm.length=0:=HE.o.1 ‹nm=[]›
             exact⟨bW (by simp only[Bool.and_eq_true,decide_eq_true_eq,Bool.false_eq_true,false_iff];omega),HBEL.o.on hB⟩)
          | (have h6:nm.length≠0:=fun h=>absurd (HE.o.2 h) ‹¬nm=[]›
             have h7:nm.isEmpty=false:=by cases nm with|nil=>exact absurd rfl h6|cons _ _=>rfl
             exact⟨bW (by simp only[h7,Bool.not_false,true_and,Bool.and_eq_true,decide_eq_true_eq,Bool.false_eq_true,false_iff];omega),HBEL.o.on hB⟩)
open Go.RowKit Go.Maps
structure FH (w W:World) (a:Option Addr) (n c:Nat) (mb:Option Nat) (R:Nat):Prop where
 b0:W.cell? ⟨w.heap.size,0,none⟩=some (.slice a n c)
 b1:W.cell? ⟨w.heap.size,1,none⟩=some (.map mb)
 rf:RF w W R
theorem FH.later {w W W':World} {a:Option Addr} {n c:Nat} {mb:Option Nat} {R:Nat} (h:FH w W a n c mb R) (hb:Below W.heap.size W W'):FH w W' a n c mb R:=
 ⟨hb.keep h.b0,hb.keep h.b1,h.rf.later hb⟩
theorem FH.init (w:World) (a:Option Addr) (n c:Nat) (mb:Option Nat):FH w ((w.alloc (.cells #[.slice a n c,.map mb] 46)).alloc (.cells #[.slice none 0 0,.map none] 46)) a n c mb (w.heap.size+1):=by
 have h:=RF.new w (w.alloc (.cells #[.slice a n c,.map mb] 46)) 46 (by(repeat(first|exact Below.refl _ _|assumption|refine Below.bMt ?_ _|refine Below.bMq ?_ _|refine Below.setCell ?_ (by simp) _|refine Below.drew ?_)));rw[show(w.alloc (.cells #[.slice a n c,.map mb] 46)).heap.size=w.heap.size+1 by simp]at h;exact⟨by simp,by simp,h⟩
theorem FH.initE (w:World) (a:Option Addr) (n c:Nat) (mb:Option Nat) (x:E):FH w (((w.alloc (.cells #[.slice a n c,.map mb] 46)).alloc (.cells #[.int .i64 x.a,.int .i64 x.n,.int .i64 x.s] 81)).alloc (.cells #[.slice none 0 0,.map none] 46)) a n c mb (w.heap.size+1+1):=by
 have h:=RF.new w ((w.alloc (.cells #[.slice a n c,.map mb] 46)).alloc (.cells #[.int .i64 x.a,.int .i64 x.n,.int .i64 x.s] 81)) 46 (by(repeat(first|exact Below.refl _ _|assumption|refine Below.bMt ?_ _|refine Below.bMq ?_ _|refine Below.setCell ?_ (by simp) _|refine Below.drew ?_)));rw[show((w.alloc (.cells #[.slice a n c,.map mb] 46)).alloc (.cells #[.int .i64 x.a,.int .i64 x.n,.int .i64 x.s] 81)).heap.size=w.heap.size+1+1 by simp]at h;have k:∀ i,(((w.alloc (.cells #[.slice a n c,.map mb] 46)).alloc (.cells #[.int .i64 x.a,.int .i64 x.n,.int .i64 x.s] 81)).alloc (.cells #[.slice none 0 0,.map none] 46)).cell? ⟨w.heap.size,i,none⟩=(w.alloc (.cells #[.slice a n c,.map mb] 46)).cell? ⟨w.heap.size,i,none⟩:=fun i=>by
  rw[World.cell?_alloc_lt _ _ _ (by simp;omega),World.cell?_alloc_lt _ _ _ (by simp)]
 exact⟨(k 0).trans (by simp),(k 1).trans (by simp),h⟩
theorem bA.mk' {w:World} {a:Option Addr} {c:Nat} {mb:Option Nat} {ts:List VT} {G:Fam} (hr:RdI w a G.C) (hT:RdT w mb ts) (hv:ts.map VT.vol=G.vs):bA w (.agg #[.slice a G.N c,.map mb]) G:=
 ⟨a,c,mb,rfl,hr,ts,hv,hT⟩
def aFa (w:World) (G:Fam) (e0:Int) (e:Ending) (w':World):Prop:= ∃gv,e= .returned (.tuple #[gv,.int .i64 e0])/\bA w' gv G/\Below w.heap.size w w'
theorem aEp (p:VT) (ts:List VT):(aEe p (aAw ts p.nm)).map VT.vol=eB (ts.map VT.vol) p.vol:=by
 rw[bFk,aRy];rfl
theorem bCb (F:Fam) (fv:Value) (nm:List UInt8) (n r:Int) (w:World) (hF:F.ok) (h:bA w fv F) (hnm:nm.length<=maxLen):
    Calls Tryz.prog 28 #[fv,nmV nm,.int .i64 n,.int .i64 r] w (aFa w (aU F nm n r).1 (aU F nm n r).2):=by
  obtain⟨a,c,mb,rfl,hr,ts,hts,hT⟩:=h;have hlen:=aFj hF hts;have H0:=hid (FH.init w a F.N c mb);have HT:=hid hT;have HR:=hid hr;have HTS:=hid hts;have HF:=hid hF;clear hr hT hts hF;cases hnb:gK nm
  · rw[show aU F nm n r=(dR,1) by simp[aU,hnb]];have HN:=hid hnb;clear hnb;go_enter Tryz.func28,Tryz.ntmps28;go_wp2_with fail;refine(nP nm _ hnm).mono ?_;rintro e w1 ⟨rfl,hb⟩;rw[HN.o];have hH:=H0.o.later hb;have r0:=hH.rf.r0;have r1:=hH.rf.r1;have f0:=hH.rf.f0;have f1:=hH.rf.f1;have HH:=hid hH;clear hb hH;go_wp2_with fail;obtain⟨j0,j1⟩:=HH.o.rf.cells (u:= .slice none 0 0) (v:= .map none)
    (try simp only[Exit.inBlock,Exit.then])
    refine bodyPost_ret (v:= .tuple #[.agg #[.slice none 0 0,.map none],.int .i64 1]) (by first|(rw[results_cell_tmp rfl];go_simp;done)|(rw[aB rfl];go_simp;done)|(rw[aA rfl];go_simp;done)) rfl ?_;exact⟨_,rfl,bA.zero _,HH.o.rf.below⟩
  · cases hnn:aMt n r
    · rw [show aU F nm n r=(dR,1) by simp[aU,hnn]];have hq:¬ (1<=n/\n<=65536/\0<=r/\r<=n):=of_decide_eq_false hnn;have HQ:=hid hq;have HN:=hid hnb;clear hnb hnn hq;go_enter Tryz.func28,Tryz.ntmps28;go_wp2_with fail;refine(nP nm _ hnm).mono ?_;rintro e w1 ⟨rfl,hb⟩;rw[HN.o];have hH:=H0.o.later hb;have r0:=hH.rf.r0;have r1:=hH.rf.r1;have f0:=hH.rf.f0;have f1:=hH.rf.f1;have b0:=hH.b0;have b1:=hH.b1;have HH:=hid hH;clear hb hH;go_wp2_with fail
      all_goals first
        |(exfalso;have:=HQ.o;omega)
        | (obtain⟨j0,j1⟩:=HH.o.rf.cells (u:= .slice none 0 0) (v:= .map none)
           (try simp only[Exit.inBlock,Exit.then])
           refine bodyPost_ret (v:= .tuple #[.agg #[.slice none 0 0,.map none],.int .i64 1]) (by first|(rw[results_cell_tmp rfl];go_simp;done)|(rw[aB rfl];go_simp;done)|(rw[aA rfl];go_simp;done)) rfl ?_
           exact⟨_,rfl,bA.zero _,HH.o.rf.below⟩)
    · obtain ⟨q1,q2,q3,q4⟩:1<=n/\n<=65536/\0<=r/\r<=n:=of_decide_eq_true hnn;obtain⟨r1,hr1,hres⟩:∃ r1,aYq (ts.map VT.vol) nm=r1/\((r1≠0/\aU F nm n r=(dR,r1))∨(r1=0/\aP F.vs nm=none/\F.vs.length<32/\aU F nm n r=(⟨F.N,eB F.vs ⟨nm,n,r,[]⟩⟩,0))):=by
        refine⟨_,rfl,?_⟩;rw[HTS.o];unfold aYq aU;simp only[hnb,hnn,Bool.and_self,Bool.true_eq_false,if_false];by_cases g1:(aP F.vs nm).isSome=true
        · rw[if_pos g1,if_pos g1];exact .inl ⟨by decide,rfl⟩
        · rw[if_neg g1,if_neg g1];by_cases g2:32<=F.vs.length
          · rw[if_pos g2,if_pos g2];exact .inl ⟨by decide,rfl⟩
          · rw[if_neg g2,if_neg g2];exact .inr ⟨rfl,by simpa using g1,by omega,rfl⟩
      have HN:=hid hnb;have HV:=hid hr1;clear hnb hnn hr1;rcases hres with ⟨h0,hc⟩|⟨rfl,hg,h32,hc⟩
      · rw[hc];clear hc;go_enter Tryz.func28,Tryz.ntmps28;go_wp2_with fail;refine(nP nm _ hnm).mono ?_;rintro e w1 ⟨rfl,hb⟩;rw[HN.o];have hH:=H0.o.later hb;have b0:=hH.b0;have b1:=hH.b1;have HH:=hid hH;clear hb hH;go_wp2_with fail;refine(wX a F.N c mb ts nm _ (HT.o.keep HH.o.rf.bel) hnm r1 HV.o).mono ?_;rintro e w2 ⟨rfl,hb⟩;have hH:=HH.o.later hb;have r0:=hH.rf.r0;have r1':=hH.rf.r1;have f0:=hH.rf.f0;have f1:=hH.rf.f1;have HH:=hid hH;clear hb hH;go_wp2_with fail;obtain⟨j0,j1⟩:=HH.o.rf.cells (u:= .slice none 0 0) (v:= .map none)
        (try simp only[Exit.inBlock,Exit.then])
        refine bodyPost_ret (v:= .tuple #[.agg #[.slice none 0 0,.map none],.int .i64 r1]) (by first|(rw[results_cell_tmp rfl];go_simp;done)|(rw[aB rfl];go_simp;done)|(rw[aA rfl];go_simp;done)) rfl ?_;exact⟨_,rfl,bA.zero _,HH.o.rf.below⟩
      · rw[hc];have HCC:=hid (aHv HF.o (u:=⟨nm,n,r,[]⟩) hg rfl);clear hc hg;go_enter Tryz.func28,Tryz.ntmps28;go_wp2_with fail;refine(nP nm _ hnm).mono ?_;rintro e w1 ⟨rfl,hb⟩;rw[HN.o];have hH:=H0.o.later hb;have b0:=hH.b0;have b1:=hH.b1;have HH:=hid hH;clear hb hH;go_wp2_with fail;refine(wX a F.N c mb ts nm _ (HT.o.keep HH.o.rf.bel) hnm 0 HV.o).mono ?_;rintro e w2 ⟨rfl,hb⟩;have hH:=HH.o.later hb;have b0:=hH.b0;have b1:=hH.b1;have HH:=hid hH;clear hb hH;go_wp2_with fail;refine(aEm a F.N c a F.N c mb ts ⟨nm,n,r,none,.nil⟩ _ (HT.o.keep HH.o.rf.bel) rfl hnm (by omega)).mono ?_;rintro e w3 ⟨b,rfl,hT3,hb⟩;have hH:=HH.o.later hb;have r0:=hH.rf.r0;have r1':=hH.rf.r1;have f0:=hH.rf.f0;have f1:=hH.rf.f1;have hfam:bA w3 (.agg #[.slice a F.N c,.map (some b)]) ⟨F.N,eB F.vs ⟨nm,n,r,[]⟩⟩:=bA.mk' (by rw[<-HCC.o];exact HR.o.keep hH.rf.bel) hT3 (by rw[aEp,HTS.o];rfl);have HFAM:=hid hfam;have HH:=hid hH;clear hb hH hT3 hfam;go_wp2_with fail;obtain⟨j0,j1⟩:=HH.o.rf.cells (u:= .slice a F.N c) (v:= .map (some b))
        (try simp only[Exit.inBlock,Exit.then])
        refine bodyPost_ret (v:= .tuple #[.agg #[.slice a F.N c,.map (some b)],.int .i64 0]) (by first|(rw[results_cell_tmp rfl];go_simp;done)|(rw[aB rfl];go_simp;done)|(rw[aA rfl];go_simp;done)) rfl ?_;exact⟨_,rfl,HH.o.rf.fam HFAM.o,HH.o.rf.below⟩
end Go.Proofs.YtaiklhbakldfhaaGreat
