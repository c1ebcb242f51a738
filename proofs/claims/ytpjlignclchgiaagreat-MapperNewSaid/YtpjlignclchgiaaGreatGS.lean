/-
  package family: Name; tegularef36.Name.
  package family: Create, Clone.
  Conditions: as each theorem says.
-/
import Derived.Test.YtpjlignclchgiaaGreatHV
import Derived.Laws.IdiomStrings
import Derived.Test.YtpjlignclchgiaaGreatHH
namespace Go.Proofs.YtpjlignclchgiaaGreat
open Go.Lib (hid)
set_option linter.unusedSimpArgs false
set_option linter.unusedVariables false
set_option maxRecDepth 100000
set_option maxHeartbeats 16000000
open Go.RowKit Go.Maps
theorem nameB_len {s:List UInt8} (h:nameB s=true):1≤s.length∧s.length≤16:=by
 unfold nameB at h;simp only[Bool.and_eq_true,decide_eq_true_eq]at h;exact h.2
theorem nameB_max {s:List UInt8} (h:nameB s=true):s.length≤maxLen:=by have:=(nameB_len h).2;simp only[maxLen];omega
theorem nameB_short {s:List UInt8} (k:Nat) (h:charsB true (s.take k)=false):nameB s=false:=by
 unfold nameB;rw[charsB_short s k h];rfl
theorem charB_iff (c:UInt8) (k:Nat):(letterB c||(decide (0<k)&&digitB c))=true↔(97≤(c.toNat:Int)∧(c.toNat:Int)≤122)∨((0:Int)<k∧48≤(c.toNat:Int)∧(c.toNat:Int)≤57):=by
 simp only[letterB,digitB,Bool.or_eq_true,Bool.and_eq_true,decide_eq_true_eq];omega
theorem charB_no (c:UInt8) (k:Nat) (h:¬ ((97≤(c.toNat:Int)∧(c.toNat:Int)≤122)∨((0:Int)<k∧48≤(c.toNat:Int)∧(c.toNat:Int)≤57))):(letterB c||(decide (0<k)&&digitB c))=false:=by
 cases hb:(letterB c||(decide (0<k)&&digitB c))
 ·rfl
 ·exact absurd ((charB_iff c k).1 hb) h
theorem rname_any (nm:List UInt8) (w:World) (hn:nm.length≤maxLen):Calls Tryz.prog 186 #[nmV nm] w fun e w'=>e= .returned (.bool (nameB nm))∧Below w.heap.size w w':=by
  have hsz:(ByteArray.mk nm.toArray).size=nm.length:=by simp[ByteArray.size]
  have hmax:nm.length≤9223372036854775807:=by simpa only[maxLen]using hn
  go_enter Tryz.func186,Tryz.ntmps186;go_wp2;go_loopw [3] (fun i wr=>∃ k:Nat,k≤nm.length∧i= .int .i64 k∧charsB true (nm.take k)=true∧Below w.heap.size w wr) (fun i _=>nm.length-(intOf i).toNat)
  case atStart=>exact⟨0,Nat.zero_le _,rfl,rfl,Below.refl _ _⟩
  case round=>
    obtain⟨k,hk,rfl,hch,hB⟩:=hrel;have HCH:=hid hch;clear hch;by_cases hlt:k<nm.length
    · have HT:=hid (charsB_take nm k hlt);have hget:(ByteArray.mk nm.toArray)[k]'(by rw[hsz];exact hlt)=nm[k]:=rfl;generalize nm[k]=c at *;have hc0:c.toNat<256:=c.toNat_lt;have hcs:(97≤(c.toNat:Int)∧(c.toNat:Int)≤122)∨((c.toNat:Int)<97∧(k:Int)≤0)∨((c.toNat:Int)<97∧0<(k:Int)∧(c.toNat:Int)<48)∨((c.toNat:Int)<97∧0<(k:Int)∧48≤(c.toNat:Int)∧(c.toNat:Int)≤57)∨((c.toNat:Int)<97∧0<(k:Int)∧48≤(c.toNat:Int)∧57<(c.toNat:Int))∨(97≤(c.toNat:Int)∧122<(c.toNat:Int)∧(k:Int)≤0)∨(97≤(c.toNat:Int)∧122<(c.toNat:Int)∧0<(k:Int)∧48≤(c.toNat:Int)∧57<(c.toNat:Int)):=by omega
      have HR:Hid (charsB true (nm.take (k+1))=(letterB c||(decide (0<k)&&digitB c))):=hid (by rw[HT.o,HCH.o,Bool.true_and]);clear HT HCH;rcases hcs with ⟨a1,a2⟩|⟨a1,a2⟩|⟨a1,a2,a3⟩|⟨a1,a2,a3,a4⟩|⟨a1,a2,a3,a4⟩|⟨a1,a2,a3⟩|⟨a1,a2,a3,a4,a5⟩
      all_goals go_wp2
      all_goals first
        |(exfalso;rename_i hx;simp only[Bool.not_eq_false',Bool.not_eq_true',decide_eq_true_eq,decide_eq_false_iff_not]at hx;omega)
        | (go_ret
           have h0:(letterB c||(decide (0<k)&&digitB c))=false:=charB_no c k (by omega);have h1:nameB nm=false:=nameB_short (k+1) (by rw[HR.o,h0]);rw[h1]
           exact⟨rfl,hB⟩)
        | (go_roundw
           case rel=>exact⟨k+1,by omega,by go_num,by rw[HR.o];exact(charB_iff c k).2 (by omega),hB⟩
           case measure=>simp[intOf];omega)
    · have hk':k=nm.length:=by omega
      subst hk';have h0:charsB true nm=true:=by have:=HCH.o;rwa [List.take_length]at this
      have HN:Hid (nameB nm=(decide (1≤nm.length)&&decide (nm.length≤16))):=hid (by unfold nameB;rw[h0,Bool.true_and]);clear h0;go_wp2
      all_goals
        go_ret;rw[HN.o];exact⟨ret_bool (by simp only[Bool.and_eq_true,decide_eq_true_eq,Bool.false_eq_true,false_iff];omega),hB⟩
theorem fname_any (nm:List UInt8) (w:World) (hn:nm.length≤maxLen):Calls Tryz.prog 93 #[nmV nm] w fun e w'=>e= .returned (.bool (nameB nm))∧Below w.heap.size w w':=by
  have hsz:(ByteArray.mk nm.toArray).size=nm.length:=by simp[ByteArray.size]
  have hmax:nm.length≤9223372036854775807:=by simpa only[maxLen]using hn
  obtain⟨cap,W1,hconv,hcell,hbel⟩:=bytes_conv nm w;have HCELL:=hid hcell;have HBEL:=hid hbel;have HE:Hid (nm=[]↔nm.length=0):=hid (by cases nm <;> simp);have hl1:(ByteArray.mk nm.toArray).toList=nm:=by rw[ByteArray.toList_eq]
  have hl2:(ByteArray.mk #[]).toList=[]:=by rw[ByteArray.toList_eq]
  clear hcell hbel;go_enter Tryz.func93,Tryz.ntmps93;go_wp2;go_loopw [9] (fun i wr=>∃ k:Nat,k≤nm.length∧i= .int .i64 k∧charsB true (nm.take k)=true∧Below W1.heap.size W1 wr) (fun i _=>nm.length-(intOf i).toNat)
  case atStart=>exact⟨0,Nat.zero_le _,rfl,rfl,Below.refl _ _⟩
  case round =>
    obtain⟨k,hk,rfl,hch,hB⟩:=hrel;have HCH:=hid hch;clear hch;by_cases hlt:k<nm.length
    · have HT:=hid (charsB_take nm k hlt);have hget:=hB.keep (HCELL.o k hlt);generalize nm[k]=c at *;have hc0:c.toNat<256:=c.toNat_lt;have hcs:(97≤(c.toNat:Int)∧(c.toNat:Int)≤122)∨((c.toNat:Int)<97∧(k:Int)≤0)∨((c.toNat:Int)<97∧0<(k:Int)∧(c.toNat:Int)<48)∨((c.toNat:Int)<97∧0<(k:Int)∧48≤(c.toNat:Int)∧(c.toNat:Int)≤57)∨((c.toNat:Int)<97∧0<(k:Int)∧48≤(c.toNat:Int)∧57<(c.toNat:Int))∨(97≤(c.toNat:Int)∧122<(c.toNat:Int)∧(k:Int)≤0)∨(97≤(c.toNat:Int)∧122<(c.toNat:Int)∧0<(k:Int)∧48≤(c.toNat:Int)∧57<(c.toNat:Int)):=by omega
      have HR:Hid (charsB true (nm.take (k+1))=(letterB c||(decide (0<k)&&digitB c))):=hid (by rw[HT.o,HCH.o,Bool.true_and]);clear HT HCH;rcases hcs with ⟨a1,a2⟩|⟨a1,a2⟩|⟨a1,a2,a3⟩|⟨a1,a2,a3,a4⟩|⟨a1,a2,a3,a4⟩|⟨a1,a2,a3⟩|⟨a1,a2,a3,a4,a5⟩
      all_goals go_wp2
      all_goals first
        |(exfalso;rename_i hx;simp only[Bool.not_eq_false',Bool.not_eq_true',decide_eq_true_eq,decide_eq_false_iff_not]at hx;omega)
        |(exfalso;rename_i _ hx _;simp only[beq_iff_eq]at hx;omega)
        | (go_ret
           have h0:(letterB c||(decide (0<k)&&digitB c))=false:=charB_no c k (by omega);have h1:nameB nm=false:=nameB_short (k+1) (by rw[HR.o,h0]);rw[h1]
           exact⟨rfl,HBEL.o.on hB⟩)
        | (go_roundw
           case rel=>exact⟨k+1,by omega,by go_num,by rw[HR.o];exact(charB_iff c k).2 (by omega),hB⟩
           case measure=>simp[intOf];omega)
    · have hk':k=nm.length:=by omega
      subst hk';have h0:charsB true nm=true:=by have:=HCH.o;rwa [List.take_length]at this
      have HN:Hid (nameB nm=(decide (1≤nm.length)&&decide (nm.length≤16))):=hid (by unfold nameB;rw[h0,Bool.true_and]);clear h0;go_wp2
      all_goals
        go_ret;rw[HN.o]
        first
          | (have h6:nm.length=0:=HE.o.1 ‹nm=[]›
             exact⟨ret_bool (by simp only[Bool.and_eq_true,decide_eq_true_eq,Bool.false_eq_true,false_iff];omega),HBEL.o.on hB⟩)
          | (have h6:nm.length≠0:=fun h=>absurd (HE.o.2 h) ‹¬nm=[]›
             have h7:nm.isEmpty=false:=by cases nm with|nil=>exact absurd rfl h6|cons _ _=>rfl
             exact⟨ret_bool (by simp only[h7,Bool.not_false,true_and,Bool.and_eq_true,decide_eq_true_eq,Bool.false_eq_true,false_iff];omega),HBEL.o.on hB⟩)
open Go.RowKit Go.Maps
structure FH (w W:World) (a:Option Addr) (n c:Nat) (mb:Option Nat) (R:Nat):Prop where
 b0:W.cell? ⟨w.heap.size,0,none⟩=some (.slice a n c)
 b1:W.cell? ⟨w.heap.size,1,none⟩=some (.map mb)
 rf:RF w W R
theorem FH.later {w W W':World} {a:Option Addr} {n c:Nat} {mb:Option Nat} {R:Nat} (h:FH w W a n c mb R) (hb:Below W.heap.size W W'):FH w W' a n c mb R:=
 ⟨hb.keep h.b0,hb.keep h.b1,h.rf.later hb⟩
theorem FH.init (w:World) (a:Option Addr) (n c:Nat) (mb:Option Nat):FH w ((w.alloc (.cells #[.slice a n c,.map mb] 76)).alloc (.cells #[.slice none 0 0,.map none] 76)) a n c mb (w.heap.size+1):=by
 have h:=RF.new w (w.alloc (.cells #[.slice a n c,.map mb] 76)) 76 (by(repeat(first|exact Below.refl _ _|assumption|refine Below.onNext ?_ _|refine Below.onAlloc ?_ _|refine Below.setCell ?_ (by simp) _|refine Below.drew ?_)));rw[show(w.alloc (.cells #[.slice a n c,.map mb] 76)).heap.size=w.heap.size+1 by simp]at h;exact⟨by simp,by simp,h⟩
theorem FH.initE (w:World) (a:Option Addr) (n c:Nat) (mb:Option Nat) (x:E):FH w (((w.alloc (.cells #[.slice a n c,.map mb] 76)).alloc (.cells #[.int .i64 x.a,.int .i64 x.n,.int .i64 x.s] 105)).alloc (.cells #[.slice none 0 0,.map none] 76)) a n c mb (w.heap.size+1+1):=by
 have h:=RF.new w ((w.alloc (.cells #[.slice a n c,.map mb] 76)).alloc (.cells #[.int .i64 x.a,.int .i64 x.n,.int .i64 x.s] 105)) 76 (by(repeat(first|exact Below.refl _ _|assumption|refine Below.onNext ?_ _|refine Below.onAlloc ?_ _|refine Below.setCell ?_ (by simp) _|refine Below.drew ?_)));rw[show((w.alloc (.cells #[.slice a n c,.map mb] 76)).alloc (.cells #[.int .i64 x.a,.int .i64 x.n,.int .i64 x.s] 105)).heap.size=w.heap.size+1+1 by simp]at h;have k:∀ i,(((w.alloc (.cells #[.slice a n c,.map mb] 76)).alloc (.cells #[.int .i64 x.a,.int .i64 x.n,.int .i64 x.s] 105)).alloc (.cells #[.slice none 0 0,.map none] 76)).cell? ⟨w.heap.size,i,none⟩=(w.alloc (.cells #[.slice a n c,.map mb] 76)).cell? ⟨w.heap.size,i,none⟩:=fun i=>by
  rw[World.cell?_alloc_lt _ _ _ (by simp;omega),World.cell?_alloc_lt _ _ _ (by simp)]
 exact⟨(k 0).trans (by simp),(k 1).trans (by simp),h⟩
theorem FamV.mk' {w:World} {a:Option Addr} {c:Nat} {mb:Option Nat} {ts:List VT} {G:Fam} (hr:RdI w a G.C) (hT:RdT w mb ts) (hv:ts.map VT.vol=G.vs):FamV w (.agg #[.slice a G.N c,.map mb]) G:=
 ⟨a,c,mb,rfl,hr,ts,hv,hT⟩
def FamPost (w:World) (G:Fam) (e0:Int) (e:Ending) (w':World):Prop:= ∃gv,e= .returned (.tuple #[gv,.int .i64 e0])∧FamV w' gv G∧Below w.heap.size w w'
theorem put_vol (p:VT) (ts:List VT):(insT p (delT ts p.nm)).map VT.vol=putV (ts.map VT.vol) p.vol:=by
 rw[insT_vol,delT_vol];rfl
theorem create_is (F:Fam) (fv:Value) (nm:List UInt8) (n r:Int) (w:World) (hF:F.ok) (h:FamV w fv F) (hnm:nm.length≤maxLen):
    Calls Tryz.prog 45 #[fv,nmV nm,.int .i64 n,.int .i64 r] w (FamPost w (createF F nm n r).1 (createF F nm n r).2):=by
  obtain⟨a,c,mb,rfl,hr,ts,hts,hT⟩:=h;have hlen:=ts_len hF hts;have H0:=hid (FH.init w a F.N c mb);have HT:=hid hT;have HR:=hid hr;have HTS:=hid hts;have HF:=hid hF;clear hr hT hts hF;cases hnb:nameB nm
  · rw[show createF F nm n r=(zeroF,1) by simp[createF,hnb]];have HN:=hid hnb;clear hnb;go_enter Tryz.func45,Tryz.ntmps45;go_wp2_with fail;refine(fname_any nm _ hnm).mono ?_;rintro e w1 ⟨rfl,hb⟩;rw[HN.o];have hH:=H0.o.later hb;have r0:=hH.rf.r0;have r1:=hH.rf.r1;have f0:=hH.rf.f0;have f1:=hH.rf.f1;have HH:=hid hH;clear hb hH;go_wp2_with fail;obtain⟨j0,j1⟩:=HH.o.rf.cells (u:= .slice none 0 0) (v:= .map none)
    (try simp only[Exit.inBlock,Exit.then])
    refine bodyPost_ret (v:= .tuple #[.agg #[.slice none 0 0,.map none],.int .i64 1]) (by first|(rw[results_cell_tmp rfl];go_simp;done)|(rw[results_cell_tmp2 rfl];go_simp;done)|(rw[results_cell_one rfl];go_simp;done)) rfl ?_;exact⟨_,rfl,FamV.zero _,HH.o.rf.below⟩
  · cases hnn:numB n r
    · rw [show createF F nm n r=(zeroF,1) by simp[createF,hnn]];have hq:¬ (1≤n∧n≤65536∧0≤r∧r≤n):=of_decide_eq_false hnn;have HQ:=hid hq;have HN:=hid hnb;clear hnb hnn hq;go_enter Tryz.func45,Tryz.ntmps45;go_wp2_with fail;refine(fname_any nm _ hnm).mono ?_;rintro e w1 ⟨rfl,hb⟩;rw[HN.o];have hH:=H0.o.later hb;have r0:=hH.rf.r0;have r1:=hH.rf.r1;have f0:=hH.rf.f0;have f1:=hH.rf.f1;have b0:=hH.b0;have b1:=hH.b1;have HH:=hid hH;clear hb hH;go_wp2_with fail
      all_goals first
        |(exfalso;have:=HQ.o;omega)
        | (obtain⟨j0,j1⟩:=HH.o.rf.cells (u:= .slice none 0 0) (v:= .map none)
           (try simp only[Exit.inBlock,Exit.then])
           refine bodyPost_ret (v:= .tuple #[.agg #[.slice none 0 0,.map none],.int .i64 1]) (by first|(rw[results_cell_tmp rfl];go_simp;done)|(rw[results_cell_tmp2 rfl];go_simp;done)|(rw[results_cell_one rfl];go_simp;done)) rfl ?_
           exact⟨_,rfl,FamV.zero _,HH.o.rf.below⟩)
    · obtain ⟨q1,q2,q3,q4⟩:1≤n∧n≤65536∧0≤r∧r≤n:=of_decide_eq_true hnn;obtain⟨r1,hr1,hres⟩:∃ r1,vacC (ts.map VT.vol) nm=r1∧((r1≠0∧createF F nm n r=(zeroF,r1))∨(r1=0∧getV F.vs nm=none∧F.vs.length<32∧createF F nm n r=(⟨F.N,putV F.vs ⟨nm,n,r,[]⟩⟩,0))):=by
        refine⟨_,rfl,?_⟩;rw[HTS.o];unfold vacC createF;simp only[hnb,hnn,Bool.and_self,Bool.true_eq_false,if_false];by_cases g1:(getV F.vs nm).isSome=true
        · rw[if_pos g1,if_pos g1];exact .inl ⟨by decide,rfl⟩
        · rw[if_neg g1,if_neg g1];by_cases g2:32≤F.vs.length
          · rw[if_pos g2,if_pos g2];exact .inl ⟨by decide,rfl⟩
          · rw[if_neg g2,if_neg g2];exact .inr ⟨rfl,by simpa using g1,by omega,rfl⟩
      have HN:=hid hnb;have HV:=hid hr1;clear hnb hnn hr1;rcases hres with ⟨h0,hc⟩|⟨rfl,hg,h32,hc⟩
      · rw[hc];clear hc;go_enter Tryz.func45,Tryz.ntmps45;go_wp2_with fail;refine(fname_any nm _ hnm).mono ?_;rintro e w1 ⟨rfl,hb⟩;rw[HN.o];have hH:=H0.o.later hb;have b0:=hH.b0;have b1:=hH.b1;have HH:=hid hH;clear hb hH;go_wp2_with fail;refine(vacant_is a F.N c mb ts nm _ (HT.o.keep HH.o.rf.bel) hnm r1 HV.o).mono ?_;rintro e w2 ⟨rfl,hb⟩;have hH:=HH.o.later hb;have r0:=hH.rf.r0;have r1':=hH.rf.r1;have f0:=hH.rf.f0;have f1:=hH.rf.f1;have HH:=hid hH;clear hb hH;go_wp2_with fail;obtain⟨j0,j1⟩:=HH.o.rf.cells (u:= .slice none 0 0) (v:= .map none)
        (try simp only[Exit.inBlock,Exit.then])
        refine bodyPost_ret (v:= .tuple #[.agg #[.slice none 0 0,.map none],.int .i64 r1]) (by first|(rw[results_cell_tmp rfl];go_simp;done)|(rw[results_cell_tmp2 rfl];go_simp;done)|(rw[results_cell_one rfl];go_simp;done)) rfl ?_;exact⟨_,rfl,FamV.zero _,HH.o.rf.below⟩
      · rw[hc];have HCC:=hid (chg_create HF.o (u:=⟨nm,n,r,[]⟩) hg rfl);clear hc hg;go_enter Tryz.func45,Tryz.ntmps45;go_wp2_with fail;refine(fname_any nm _ hnm).mono ?_;rintro e w1 ⟨rfl,hb⟩;rw[HN.o];have hH:=H0.o.later hb;have b0:=hH.b0;have b1:=hH.b1;have HH:=hid hH;clear hb hH;go_wp2_with fail;refine(vacant_is a F.N c mb ts nm _ (HT.o.keep HH.o.rf.bel) hnm 0 HV.o).mono ?_;rintro e w2 ⟨rfl,hb⟩;have hH:=HH.o.later hb;have b0:=hH.b0;have b1:=hH.b1;have HH:=hid hH;clear hb hH;go_wp2_with fail;refine(with_is a F.N c a F.N c mb ts ⟨nm,n,r,none,.nil⟩ _ (HT.o.keep HH.o.rf.bel) rfl hnm (by omega)).mono ?_;rintro e w3 ⟨b,rfl,hT3,hb⟩;have hH:=HH.o.later hb;have r0:=hH.rf.r0;have r1':=hH.rf.r1;have f0:=hH.rf.f0;have f1:=hH.rf.f1;have hfam:FamV w3 (.agg #[.slice a F.N c,.map (some b)]) ⟨F.N,putV F.vs ⟨nm,n,r,[]⟩⟩:=FamV.mk' (by rw[←HCC.o];exact HR.o.keep hH.rf.bel) hT3 (by rw[put_vol,HTS.o];rfl);have HFAM:=hid hfam;have HH:=hid hH;clear hb hH hT3 hfam;go_wp2_with fail;obtain⟨j0,j1⟩:=HH.o.rf.cells (u:= .slice a F.N c) (v:= .map (some b))
        (try simp only[Exit.inBlock,Exit.then])
        refine bodyPost_ret (v:= .tuple #[.agg #[.slice a F.N c,.map (some b)],.int .i64 0]) (by first|(rw[results_cell_tmp rfl];go_simp;done)|(rw[results_cell_tmp2 rfl];go_simp;done)|(rw[results_cell_one rfl];go_simp;done)) rfl ?_;exact⟨_,rfl,HH.o.rf.fam HFAM.o,HH.o.rf.below⟩
end Go.Proofs.YtpjlignclchgiaaGreat
