/- package family: Name; tegularef36.Name. Conditions: as each theorem says. -/
import Derived.Test.YtphfgbbbejloaaaGreatDoorHVp
import Derived.Test.YtphfgbbbejloaaaGreatDoorHHp
set_option linter.unusedSimpArgs false
set_option linter.unusedVariables false
set_option linter.unusedSectionVars false
set_option maxRecDepth 100000
set_option maxHeartbeats 16000000
namespace Go.Proofs.YtphfgbbbejloaaaGreatDoor
open Go.RowKit Go.Maps
open Go.Proofs.Tryz
variable[Gst]
theorem aAn{P:Prop}(h:P:=by simp only[Qd,Qc,Bool.false_eq_true,false_iff];omega):P:=h
theorem sh78{P:Prop}(h:P:=by rw[<-HTS.o];exact Yd.2 ⟨v,HVM.o,rfl⟩):P:=h
theorem sh79{P:Prop}(h:P:=by have:=HVK.o.short.1;simp only[VT.vol]at this;omega):P:=h
theorem sh80{P:Prop}(h:P:=by have:=HSL.o;omega):P:=h
theorem sh81{P:Prop}(h:P:=by rw[Fam.aIz];exact HF.o.hN):P:=h
theorem sh82{P:Prop}(h:P:=by first|exact hrd4|exact hrd4.keep (bR.aIw _)):P:=h
theorem sh83{P:Prop}(h:P:=by rw[<-HTS.o];exact Yd.2 ⟨v1,HVM.o,rfl⟩):P:=h
theorem sh67{P:Prop}(h:P:=by
  go_wp2_with fail;refine HFI.o.m ?_;rintro e w1 ⟨rfl,hb⟩;have HH:=hD ((H0.o.aIx hb).aIx (bR.aIw (cq #[v1.n,v1.r,.pointer v1.a] 170)));have b0:=HH.o.b0;have b1:=HH.o.b1;have r0:=HH.o.rf.r0;have r1:=HH.o.rf.r1;have f0:=HH.o.rf.f0;have f1:=HH.o.rf.f1;clear hb;go_wp2_with fail;obtain⟨j0,j1⟩:=HH.o.rf.cells (u:=sn) (v:= .map none);refine br (.tuple #[.agg #[sn,.map none],sn,e1]) ?_;exact⟨_,_,rfl,bG.zero _,aG.nil _ _,HH.o.rf.below⟩
  ):P:=h
theorem sh68{P:Prop}(h:P:=by
  exact⟨_,rfl,bG.zero _,by first|exact HH.o.rf.below|((repeat(first|exact bR|assumption|refine Below.aJd ?_ _|refine Below.aIw ?_ _|refine Below.setCell ?_ sM _|refine Below.drew ?_));done)⟩
  ):P:=h
theorem sh69{P:Prop}(h:P:=by
  have HR5:=hD hR5;clear hb5 hT5 hvol hfam hR5;go_wp2_with fail;obtain⟨j0,j1⟩:=HR5.o.cells (u:= .slice a5 F.N c5) (v:= .map (some b));refine br (.tuple #[.agg #[.slice a5 F.N c5,.map (some b)],.slice fa Lf fc,oo]) ?_;exact⟨_,_,rfl,HQ2.o,aG.mono HQ3.o oM,HQ1.o⟩
  ):P:=h
theorem sh70{P:Prop}(h:P:=by
  rw[Qe g1,Qe g1];by_cases g2:32<=F.vs.length
  ·rw[Qf g2,Qf g2];exact .inl ⟨dE,rfl⟩
  ·rw[Qe g2,Qe g2];exact .inr ⟨rfl,by simpa using g1,oM,rfl⟩
  ):P:=h
theorem sh71{P:Prop}(h:P:=by
  obtain⟨fa,fc,rfl,_⟩:=hf5.rd oM;rw[Fam.aIz,HGN.o];exact⟨a5,c5,fa,fc,rfl,HR.o.mk ho5 hr5 (by rw[Fam.aIz,Fam.aIz,HGN.o]) HHS.o.rf.bel.size (HHS.o.rf.bel.on hb5).size,hf5,hb5⟩
  ):P:=h
theorem sh72{P:Prop}(h:P:=by
  refine br (.tuple #[.agg #[sn,.map none],ol]) ?_;exact⟨_,rfl,bG.zero _,HH.o.rf.below⟩
  ):P:=h
theorem sh73{P:Prop}(h:P:=by
  exact⟨v,0,by simp[hib],.inr ⟨rfl,hm,hvn,hib,by show aN F.vs v.nm=_;rw[hvn,hgv,hg];rfl,rfl⟩⟩
  ):P:=h
theorem aFy{P:Prop}(h:P:=by
  rw[<-HGN.o];exact bG.mk' (HOE.o.up hb5) hT5 (by rw[Jc,HTS.o,hvol,HGV.o])
  ):P:=h
theorem sh75{P:Prop}(h:P:=by
  exact⟨⟨[],0,0,none,.nil⟩,2,by simp[hib],.inl ⟨dE,rfl⟩⟩
  ):P:=h
theorem pV{s:LU}(h:bC s=true):1<=s.length/\s.length<=16:=by
 unfold bC at h;simp only[Qd,Qc]at h;exact h.2
theorem pU{s:LU}(h:bC s=true):s.length<=maxLen:=by have:=(pV h).2;simp only[maxLen];omega
theorem wC{s:LU}(k:Nat)(h:charsB true (s.take k)=false):bC s=false:=by
 unfold bC;rw[JJ s k h];rfl
theorem xR(c:UInt8)(k:Nat):(fJ c||(decide (0<k)&&kZ c))=true↔(97<=(c.toNat:Int)/\(c.toNat:Int)<=122)∨((0:Int)<k/\48<=(c.toNat:Int)/\(c.toNat:Int)<=57):=by
 simp only[fJ,kZ,Bool.or_eq_true,Qd,Qc];omega
theorem Fj(c:UInt8)(k:Nat)(h:¬ ((97<=(c.toNat:Int)/\(c.toNat:Int)<=122)∨((0:Int)<k/\48<=(c.toNat:Int)/\(c.toNat:Int)<=57))):(fJ c||(decide (0<k)&&kZ c))=false:=by
 cases hb:(fJ c||(decide (0<k)&&kZ c))
 ·rfl
 ·exact absurd ((xR c k).1 hb) h
theorem TG(nm:LU)(w:Wd)(hn:nm.length<=maxLen):ep 103 #[nmV nm] w (RB w (.bool (bC nm))):=by
  have hsz:(ByteArray.mk nm.toArray).size=nm.length:=by simp[ByteArray.size]
  have hmax:nm.length<=9223372036854775807:=by simpa only[maxLen]using hn
  go_enter func103,ntmps103;go_wp2;go_loopw [3] (λi wr=>∃k:Nat,k<=nm.length/\i= .int .i64 k/\charsB true (nm.take k)=true/\Below w w wr) (λi _=>nm.length-(intOf i).toNat)
  case atStart=>exact⟨0,Yf _,rfl,rfl,bR⟩
  case round=>
    obtain⟨k,hk,rfl,hch,hB⟩:=hrel;have HCH:=hD hch;clear hch;by_cases hlt:k<nm.length
    · have HT:=hD (wQ nm k hlt);have hget:(ByteArray.mk nm.toArray)[k]'(by rw[hsz];exact hlt)=nm[k]:=rfl;generalize nm[k]=c at *;have hc0:c.toNat<256:=c.toNat_lt;have hcs:(97<=(c.toNat:Int)/\(c.toNat:Int)<=122)∨((c.toNat:Int)<97/\(k:Int)<=0)∨((c.toNat:Int)<97/\0<(k:Int)/\(c.toNat:Int)<48)∨((c.toNat:Int)<97/\0<(k:Int)/\48<=(c.toNat:Int)/\(c.toNat:Int)<=57)∨((c.toNat:Int)<97/\0<(k:Int)/\48<=(c.toNat:Int)/\57<(c.toNat:Int))∨(97<=(c.toNat:Int)/\122<(c.toNat:Int)/\(k:Int)<=0)∨(97<=(c.toNat:Int)/\122<(c.toNat:Int)/\0<(k:Int)/\48<=(c.toNat:Int)/\57<(c.toNat:Int)):=oM
      have HR:Hid (charsB true (nm.take (k+1))=(fJ c||(decide (0<k)&&kZ c))):=hD (by rw[HT.o,HCH.o,Bool.true_and]);clear HT HCH;rcases hcs with ⟨a1,a2⟩|⟨a1,a2⟩|⟨a1,a2,a3⟩|⟨a1,a2,a3,a4⟩|⟨a1,a2,a3,a4⟩|⟨a1,a2,a3⟩|⟨a1,a2,a3,a4,a5⟩
      all_goals go_wp2
      all_goals first
        |(exfalso;rename_i hx;simp only[Bool.not_eq_false',Bool.not_eq_true',Qc,Qy]at hx;omega)
        | (go_ret
           have h0:(fJ c||(decide (0<k)&&kZ c))=false:=Fj c k oM;have h1:bC nm=false:=wC (k+1) (by rw[HR.o,h0]);rw[h1]
           exact⟨rfl,hB⟩)
        | (go_roundw
           case rel=>exact⟨k+1,oM,by go_num,by rw[HR.o];exact(xR c k).2 oM,hB⟩
           case measure=>simp[intOf];omega)
    · have hk':k=nm.length:=oM
      subst hk';have h0:charsB true nm=true:=by have:=HCH.o;rwa [List.take_length]at this
      have HN:Hid (bC nm=(decide (1<=nm.length)&&decide (nm.length<=16))):=hD (by unfold bC;rw[h0,Bool.true_and]);clear h0;go_wp2
      all_goals
        go_ret;rw[HN.o];exact⟨aU aAn,hB⟩
theorem mY(nm:LU)(w:Wd)(hn:nm.length<=maxLen):ep 221 #[nmV nm] w (RB w (.bool (bC nm))):=by
  have hsz:(ByteArray.mk nm.toArray).size=nm.length:=by simp[ByteArray.size]
  have hmax:nm.length<=9223372036854775807:=by simpa only[maxLen]using hn
  obtain⟨cap,W1,hconv,hcell,hbel⟩:=Fw nm w;have HCELL:=hD hcell;have HBEL:=hD hbel;have HE:Hid (nm=[]↔nm.length=0):=hD (by cases nm <;> simp);have hl1:(ByteArray.mk nm.toArray).toList=nm:=by rw[Yx]
  have hl2:(ByteArray.mk #[]).toList=[]:=by rw[Yx]
  clear hcell hbel;go_enter func221,ntmps221;go_wp2;go_loopw [9] (λi wr=>∃k:Nat,k<=nm.length/\i= .int .i64 k/\charsB true (nm.take k)=true/\Below W1 W1 wr) (λi _=>nm.length-(intOf i).toNat)
  case atStart=>exact⟨0,Yf _,rfl,rfl,bR⟩
  case round =>
    obtain⟨k,hk,rfl,hch,hB⟩:=hrel;have HCH:=hD hch;clear hch;by_cases hlt:k<nm.length
    · have HT:=hD (wQ nm k hlt);have hget:=hB.keep (HCELL.o k hlt);generalize nm[k]=c at *;have hc0:c.toNat<256:=c.toNat_lt;have hcs:(97<=(c.toNat:Int)/\(c.toNat:Int)<=122)∨((c.toNat:Int)<97/\(k:Int)<=0)∨((c.toNat:Int)<97/\0<(k:Int)/\(c.toNat:Int)<48)∨((c.toNat:Int)<97/\0<(k:Int)/\48<=(c.toNat:Int)/\(c.toNat:Int)<=57)∨((c.toNat:Int)<97/\0<(k:Int)/\48<=(c.toNat:Int)/\57<(c.toNat:Int))∨(97<=(c.toNat:Int)/\122<(c.toNat:Int)/\(k:Int)<=0)∨(97<=(c.toNat:Int)/\122<(c.toNat:Int)/\0<(k:Int)/\48<=(c.toNat:Int)/\57<(c.toNat:Int)):=oM
      have HR:Hid (charsB true (nm.take (k+1))=(fJ c||(decide (0<k)&&kZ c))):=hD (by rw[HT.o,HCH.o,Bool.true_and]);clear HT HCH;rcases hcs with ⟨a1,a2⟩|⟨a1,a2⟩|⟨a1,a2,a3⟩|⟨a1,a2,a3,a4⟩|⟨a1,a2,a3,a4⟩|⟨a1,a2,a3⟩|⟨a1,a2,a3,a4,a5⟩
      all_goals go_wp2
      all_goals first
        |(exfalso;rename_i hx;simp only[Bool.not_eq_false',Bool.not_eq_true',Qc,Qy]at hx;omega)
        |(exfalso;rename_i _ hx _;simp only[beq_iff_eq]at hx;omega)
        | (go_ret
           have h0:(fJ c||(decide (0<k)&&kZ c))=false:=Fj c k oM;have h1:bC nm=false:=wC (k+1) (by rw[HR.o,h0]);rw[h1]
           exact⟨rfl,HBEL.o.on hB⟩)
        | (go_roundw
           case rel=>exact⟨k+1,oM,by go_num,by rw[HR.o];exact(xR c k).2 oM,hB⟩
           case measure=>simp[intOf];omega)
    · have hk':k=nm.length:=oM
      subst hk';have h0:charsB true nm=true:=by have:=HCH.o;rwa [List.take_length]at this
      have HN:Hid (bC nm=(decide (1<=nm.length)&&decide (nm.length<=16))):=hD (by unfold bC;rw[h0,Bool.true_and]);clear h0;go_wp2
      all_goals
        go_ret;rw[HN.o]
        first
          | (have h6:nm.length=0:=HE.o.1 ‹nm=[]›
             exact⟨aU aAn,HBEL.o.on hB⟩)
          | (have h6:nm.length≠0:=λh=>absurd (HE.o.2 h) ‹¬nm=[]›
             have h7:nm.isEmpty=false:=by cases nm with|nil=>exact absurd rfl h6|cons _ _=>rfl
             exact⟨aU (by simp only[h7,Bool.not_false,true_and,Qd,Qc,Bool.false_eq_true,false_iff];omega),HBEL.o.on hB⟩)
structure FH(w W:Wd)(a:OA)(n c:Nat)(mb:Option Nat)(R:Nat):Prop where
 b0:W (cw w 0)=some (.slice a n c)
 b1:W (cw w 1)=some (.map mb)
 rf:RF w W R
theorem FH.aIx{w W W':Wd}{a:OA}{n c:Nat}{mb:Option Nat}{R:Nat}(h:FH w W a n c mb R)(hb:Below W W W'):FH w W' a n c mb R:=
 ⟨hb.keep h.b0,hb.keep h.b1,h.rf.aIx hb⟩
theorem FH.init(w:Wd)(a:OA)(n c:Nat)(mb:Option Nat):FH w ((w.alloc (cq #[.slice a n c,.map mb] 121)).alloc (cq #[sn,.map none] 121)) a n c mb (w.heap.size+1):=by
 have h:=RF.new w (w.alloc (cq #[.slice a n c,.map mb] 121)) 121 bL;rw[show(w.alloc (cq #[.slice a n c,.map mb] 121)).heap.size=w.heap.size+1 by simp]at h;exact⟨sM,sM,h⟩
theorem FH.initE(w:Wd)(a:OA)(n c:Nat)(mb:Option Nat)(x:E):FH w (((w.alloc (cq #[.slice a n c,.map mb] 121)).alloc (cq #[x.a,x.n,x.s] 128)).alloc (cq #[sn,.map none] 121)) a n c mb (w.heap.size+1+1):=by
 have h:=RF.new w ((w.alloc (cq #[.slice a n c,.map mb] 121)).alloc (cq #[x.a,x.n,x.s] 128)) 121 bL;rw[show((w.alloc (cq #[.slice a n c,.map mb] 121)).alloc (cq #[x.a,x.n,x.s] 128)).heap.size=w.heap.size+1+1 by simp]at h;have k:∀i,(((w.alloc (cq #[.slice a n c,.map mb] 121)).alloc (cq #[x.a,x.n,x.s] 128)).alloc (cq #[sn,.map none] 121)).cell? (cw w i)=(w.alloc (cq #[.slice a n c,.map mb] 121)).cell? (cw w i):=λi=>by
  rw[Ya _ _ _ pO,Ya _ _ _ sM]
 exact⟨(k 0).trans sM,(k 1).trans sM,h⟩
theorem bG.mk'{w:Wd}{a:OA}{c:Nat}{mb:Option Nat}{ts:List VT}{G:Fam}(hr:RdG w a G.C)(hT:RdT w mb ts)(hv:ts.map VT.vol=G.vs):bG w (.agg #[.slice a G.N c,.map mb]) G:=
 ⟨a,c,mb,rfl,hr,ts,hv,hT⟩
def DK(w:Wd)(G:Fam)(e0:Int)(e:Ending)(w':Wd):Prop:= ∃gv,e= .returned (.tuple #[gv,e0])/\bG w' gv G/\Below w w w'
theorem Jc(p:VT)(ts:List VT):(Dj p (AX ts p.nm)).map VT.vol=fV (ts.map VT.vol) p.vol:=by
 rw[Yq,MJ];rfl
theorem Va(F:Fam)(fv:Value)(nm:LU)(n r:Int)(w:Wd)(hF:F.ok)(h:bG w fv F)(hnm:nm.length<=maxLen):
    ep 166 #[fv,nmV nm,n,r] w (DK w (aW F nm n r).1 (aW F nm n r).2):=by
  obtain⟨a,c,mb,rfl,hr,ts,hts,hT⟩:=h;have hlen:=DZ hF hts;have H0:=hD (FH.init w a F.N c mb);have HT:=hD hT;have HR:=hD hr;have HTS:=hD hts;have HF:=hD hF;clear hr hT hts hF;cases hnb:bC nm
  · rw[show aW F nm n r=(eP,1) by simp[aW,hnb]];have HN:=hD hnb;clear hnb;go_enter func166,ntmps166;go_wp2_with fail;refine(mY nm _ hnm).m ?_;rintro e w1 ⟨rfl,hb⟩;rw[HN.o];have hH:=H0.o.aIx hb;have r0:=hH.rf.r0;have r1:=hH.rf.r1;have f0:=hH.rf.f0;have f1:=hH.rf.f1;have HH:=hD hH;clear hb hH;go_wp2_with fail;obtain⟨j0,j1⟩:=HH.o.rf.cells (u:=sn) (v:= .map none);exact sh72
  · cases hnn:BF n r
    · rw [show aW F nm n r=(eP,1) by simp[aW,hnn]];have hq:¬ (1<=n/\n<=65536/\0<=r/\r<=n):=Yh hnn;have HQ:=hD hq;have HN:=hD hnb;clear hnb hnn hq;go_enter func166,ntmps166;go_wp2_with fail;refine(mY nm _ hnm).m ?_;rintro e w1 ⟨rfl,hb⟩;rw[HN.o];have hH:=H0.o.aIx hb;have r0:=hH.rf.r0;have r1:=hH.rf.r1;have f0:=hH.rf.f0;have f1:=hH.rf.f1;have b0:=hH.b0;have b1:=hH.b1;have HH:=hD hH;clear hb hH;go_wp2_with fail
      all_goals first
        |(exfalso;have:=HQ.o;omega)
        | (obtain⟨j0,j1⟩:=HH.o.rf.cells (u:=sn) (v:= .map none)
           exact sh72)
    · obtain ⟨q1,q2,q3,q4⟩:1<=n/\n<=65536/\0<=r/\r<=n:=Qt hnn;obtain⟨r1,hr1,hres⟩:∃r1,SH (ts.map VT.vol) nm=r1/\((r1≠0/\aW F nm n r=(eP,r1))∨(r1=0/\aN F.vs nm=none/\F.vs.length<32/\aW F nm n r=(⟨F.N,fV F.vs ⟨nm,n,r,[]⟩⟩,0))):=by
        refine⟨_,rfl,?_⟩;rw[HTS.o];unfold SH aW;simp only[hnb,hnn,Bool.and_self,Bool.true_eq_false,if_false];by_cases g1:(aN F.vs nm).isSome=true
        · rw[Qf g1,Qf g1];exact .inl ⟨dE,rfl⟩
        · exact sh70
      have HN:=hD hnb;have HV:=hD hr1;clear hnb hnn hr1;rcases hres with ⟨h0,hc⟩|⟨rfl,hg,h32,hc⟩
      · rw[hc];clear hc;go_enter func166,ntmps166;go_wp2_with fail;refine(mY nm _ hnm).m ?_;rintro e w1 ⟨rfl,hb⟩;rw[HN.o];have hH:=H0.o.aIx hb;have b0:=hH.b0;have b1:=hH.b1;have HH:=hD hH;clear hb hH;go_wp2_with fail;refine(wX a F.N c mb ts nm _ (HT.o.keep HH.o.rf.bel) hnm r1 HV.o).m ?_;rintro e w2 ⟨rfl,hb⟩;have hH:=HH.o.aIx hb;have r0:=hH.rf.r0;have r1':=hH.rf.r1;have f0:=hH.rf.f0;have f1:=hH.rf.f1;have HH:=hD hH;clear hb hH;go_wp2_with fail;obtain⟨j0,j1⟩:=HH.o.rf.cells (u:=sn) (v:= .map none);refine br (.tuple #[.agg #[sn,.map none],.int .i64 r1]) ?_;exact⟨_,rfl,bG.zero _,HH.o.rf.below⟩
      · rw[hc];have HCC:=hD (Fe HF.o (u:=⟨nm,n,r,[]⟩) hg rfl);clear hc hg;go_enter func166,ntmps166;go_wp2_with fail;refine(mY nm _ hnm).m ?_;rintro e w1 ⟨rfl,hb⟩;rw[HN.o];have hH:=H0.o.aIx hb;have b0:=hH.b0;have b1:=hH.b1;have HH:=hD hH;clear hb hH;go_wp2_with fail;refine(wX a F.N c mb ts nm _ (HT.o.keep HH.o.rf.bel) hnm 0 HV.o).m ?_;rintro e w2 ⟨rfl,hb⟩;have hH:=HH.o.aIx hb;have b0:=hH.b0;have b1:=hH.b1;have HH:=hD hH;clear hb hH;go_wp2_with fail;refine(Du a F.N c a F.N c mb ts ⟨nm,n,r,none,.nil⟩ _ (HT.o.keep HH.o.rf.bel) rfl hnm oM).m ?_;rintro e w3 ⟨b,rfl,hT3,hb⟩;have hH:=HH.o.aIx hb;have r0:=hH.rf.r0;have r1':=hH.rf.r1;have f0:=hH.rf.f0;have f1:=hH.rf.f1;have hfam:bG w3 (.agg #[.slice a F.N c,.map (some b)]) ⟨F.N,fV F.vs ⟨nm,n,r,[]⟩⟩:=bG.mk' (by rw[<-HCC.o];exact HR.o.up hH.rf.bel) hT3 (by rw[Jc,HTS.o];rfl);have HFAM:=hD hfam;have HH:=hD hH;clear hb hH hT3 hfam;go_wp2_with fail;obtain⟨j0,j1⟩:=HH.o.rf.cells (u:= .slice a F.N c) (v:= .map (some b));refine br (.tuple #[.agg #[.slice a F.N c,.map (some b)],oo]) ?_;exact⟨_,rfl,HH.o.rf.fam HFAM.o,HH.o.rf.below⟩
structure VH(W:Wd)(X:Nat)(n r:Int)(a:OA):Prop where
 x0:W (cw X 0)=n
 x1:W (cw X 1)=r
 x2:W (cw X 2)=some (.pointer a)
 f1:W.frozen? (cw X 1)=false
 f2:W.frozen? (cw X 2)=false
 x7:W (cw X 7)=none
theorem VH.lt{W:Wd}{X:Nat}{n r:Int}{a:OA}(h:VH W X n r a):X<W.heap.size:=Qj W (cw X 0) h.x0
theorem VH.aIx{W W':Wd}{X:Nat}{n r:Int}{a:OA}(h:VH W X n r a)(hb:Below W W W'):VH W' X n r a:=
 ⟨hb.keep h.x0,hb.keep h.x1,hb.keep h.x2,hb.aJc h.x1 h.f1,hb.aJc h.x2 h.f2,(hb.cell (p:=(cw X 7)) h.lt).trans h.x7⟩
theorem VH.new(W:Wd)(n r:Int)(a:OA)(t:TypeId):VH (W.alloc (cq #[n,r,.pointer a] t)) W n r a:=by
 refine⟨sM,sM,sM,sM,sM,sM⟩
theorem AB{w w':Wd}{t:TypeId}{u:Value}(h:Below (w.alloc (cq #[u] t)).heap.size (w.alloc (cq #[u] t)) w'):w' (cw w 0)=some u/\w'.frozen? (cw w 0)=false:=
 ⟨h.keep sM,h.aJc (v:=u) sM sM⟩
theorem LZ{w w':Wd}{t:TypeId}{u:Value}(h:Below ((w.alloc (cq #[u] t)).drew).heap.size (w.alloc (cq #[u] t)).drew w'):w' (cw w 0)=some u/\w'.frozen? (cw w 0)=false:=
 ⟨h.keep sM,h.aJc (v:=u) sM sM⟩
def aHv(w:Wd)(a:OA)(n c:Nat)(mb:Option Nat)(R X:Nat)(p:VT)(C:List Int)(y e0:Value)(W:Wd):Prop:=
 ∃Y a' c',y= .pointer (cw Y 0)/\e0=oo/\FH w W a n c mb R/\VH W X p.n p.r p.a/\Y≠X/\W (cw Y 0)=some (.slice a' n c')/\dG W (X+1) (.slice a' n c') C
theorem ZQ{w W w5:Wd}{a:OA}{n c:Nat}{mb:Option Nat}{R X B:Nat}{p:VT}{C:List Int}{a5:OA}{c5:Nat}{t:TypeId}(hH:FH w W a n c mb R)(hV:VH W X p.n p.r p.a)(hB:Below W.drew.heap.size W.drew w5)(ho:dG w5 B (.slice a5 n c5) C)(hX:X<B):
  aHv w a n c mb R X p C (.pointer (cw w5 0)) oo (w5.alloc (cq #[.slice a5 n c5] t)):=by
 have hb:=((bQ W).drew.on hB).aIw (cq #[.slice a5 n c5] t);have hv:=hV.aIx hb;have hlt:X<w5.heap.size:=Yu hV.lt hB.size;exact⟨_,a5,c5,rfl,rfl,hH.aIx hb,hv,oM,sM,(ho.keep (bR.aIw _)).mono oM⟩
theorem Ns{w W w5:Wd}{a:OA}{n c:Nat}{mb:Option Nat}{R X B Y:Nat}{p:VT}{C:List Int}{a5:OA}{c5:Nat}{u:Value}(hH:FH w W a n c mb R)(hV:VH W X p.n p.r p.a)(hB:Below W.drew.heap.size W.drew w5)(ho:dG w5 B (.slice a5 n c5) C)(hX:X<B)(hY:W.drew.heap.size<=Y)(hYB:Y<B)(hq:w5 (cw Y 0)=some u):
  aHv w a n c mb R X p C (.pointer (cw Y 0)) oo (w5.setCell (cw Y 0) (.slice a5 n c5)):=by
 have hb:=(bQ W).drew.on (hB.setCell (p:=(cw Y 0)) hY (.slice a5 n c5));have hv:=hV.aIx hb;have hlt:=hV.lt;have hY':W.heap.size<=Y:=hY;exact⟨_,a5,c5,rfl,rfl,hH.aIx hb,hv,oM,Qi _ _ _ hq,(ho.away _ _ λh=>by have:=(ho.lt Y h).1;omega).mono oM⟩
theorem Zv(F:Fam)(fv:Value)(nm other:LU)(w:Wd)(hF:F.ok)(hs:∀v∈F.vs,v.l.length<=9000)(h:bG w fv F)(hnm:nm.length<=maxLen)(hot:other.length<=maxLen):
  ep 168 #[fv,nmV nm,nmV other] w (DK w (bJ F nm other).1 (bJ F nm other).2):=by
 obtain⟨a,c,mb,rfl,hr,ts,hts,hT⟩:=h;have hlen:=DZ hF hts;have H0:=hD (FH.init w a F.N c mb);have HT:=hD hT;have HR:=hD hr;have HTS:=hD hts;have HF:=hD hF;have HS:=hD hs;have hl:=Aw (hT.keep H0.o.rf.bel) hnm;have hgv:aN F.vs nm=(mW ts nm).map VT.vol:=by rw[<-hts,oG]
 clear hr hT hts hF hs
 cases hg:mW ts nm with
 | none=>
  rw[uM hg]at hl;rw[show bJ F nm other=(eP,9) by simp[bJ,hgv,hg]];have HH:=hD (H0.o.aIx (bR.aIw (cq #[oo,oo,.pointer none] 170)));have b0:=HH.o.b0;have b1:=HH.o.b1;have r0:=HH.o.rf.r0;have r1:=HH.o.rf.r1;have f0:=HH.o.rf.f0;have f1:=HH.o.rf.f1;clear hg hgv;go_enter func168,ntmps168;go_wp2_with fail;obtain⟨j0,j1⟩:=HH.o.rf.cells (u:=sn) (v:= .map none);refine br (.tuple #[.agg #[sn,.map none],.int .i64 9]) ?_;exact sh68
 | some v=>
  rw[uL hg]at hl;have hvm:=(lX hg).1;have hvk:=RdV.fit HF.o HTS.o v hvm;have HVT:=hD (HT.o.1 v hvm);have HVK:=hD hvk;have HVM:=hD hvm;have hH1:=H0.o.aIx (bR.aIw (cq #[.int .i64 v.n,.int .i64 v.r,.pointer v.a] 170));have hv1:=VH.new ((w.alloc (cq #[.slice a F.N c,.map mb] 121)).alloc (cq #[sn,.map none] 121)) v.n v.r v.a 170;rw[show((w.alloc (cq #[.slice a F.N c,.map mb] 121)).alloc (cq #[sn,.map none] 121)).heap.size=w.heap.size+1+1 by simp]at hv1;have HH:=hD hH1;have HV:=hD hv1;clear hvm hvk hH1 hv1;cases hno:bC other
  ·rw[show bJ F nm other=(eP,1) by simp[bJ,hgv,hg,hno]];have HN:=hD hno;clear hg hgv hno;go_enter func168,ntmps168;go_wp2_with fail;refine(mY other _ hot).m ?_;rintro e w1 ⟨rfl,hb⟩;rw[HN.o];replace HH:=hD (HH.o.aIx hb);have b0:=HH.o.b0;have b1:=HH.o.b1;have r0:=HH.o.rf.r0;have r1:=HH.o.rf.r1;have f0:=HH.o.rf.f0;have f1:=HH.o.rf.f1;clear hb;go_wp2_with fail;obtain⟨j0,j1⟩:=HH.o.rf.cells (u:=sn) (v:= .map none);refine br (.tuple #[.agg #[sn,.map none],ol]) ?_;exact sh68
  ·obtain ⟨ev,hr1,hres⟩:∃ev,SH (ts.map VT.vol) other=ev/\((ev≠0/\bJ F nm other=(eP,ev))∨(ev=0/\aN F.vs other=none/\F.vs.length<32/\bJ F nm other=(⟨F.N,fV F.vs ⟨other,v.n,0,v.t.toL⟩⟩,0))):=by
    refine⟨_,rfl,?_⟩;rw[HTS.o];unfold SH bJ;rw[hgv,hg];simp only[Option.map_some,hno,Bool.true_eq_false,if_false];by_cases g1:(aN F.vs other).isSome=true
    ·rw[Qf g1,Qf g1];exact .inl ⟨dE,rfl⟩
    ·exact sh70
   have HN:=hD hno;have HVC:=hD hr1;clear hg hgv hno hr1;rcases hres with ⟨h0,hc⟩|⟨rfl,hgo,h32,hc⟩
   ·rw[hc];clear hc;go_enter func168,ntmps168;go_wp2_with fail;refine(mY other _ hot).m ?_;rintro e w1 ⟨rfl,hb⟩;rw[HN.o];replace HH:=hD (HH.o.aIx hb);have b0:=HH.o.b0;have b1:=HH.o.b1;have r0:=HH.o.rf.r0;have r1:=HH.o.rf.r1;have f0:=HH.o.rf.f0;have f1:=HH.o.rf.f1;clear hb;go_wp2_with fail;refine(wX a F.N c mb ts other _ (HT.o.keep HH.o.rf.bel) hot ev HVC.o).m ?_;rintro e w2 ⟨rfl,hb⟩;replace HH:=hD (HH.o.aIx hb);have b0:=HH.o.b0;have b1:=HH.o.b1;have r0:=HH.o.rf.r0;have r1:=HH.o.rf.r1;have f0:=HH.o.rf.f0;have f1:=HH.o.rf.f1;clear hb;go_wp2_with fail;obtain⟨j0,j1⟩:=HH.o.rf.cells (u:=sn) (v:= .map none);refine br (.tuple #[.agg #[sn,.map none],.int .i64 ev]) ?_;exact sh68
   ·rw [hc];have HCC:=hD (IB HF.o (v:=v.vol) (u:=⟨other,v.n,0,v.t.toL⟩) sh78 hgo rfl);clear hc hgo;go_enter func168,ntmps168;go_wp2_with fail;refine(mY other _ hot).m ?_;rintro e w1 ⟨rfl,hb⟩;rw[HN.o];replace HV:=hD (HV.o.aIx hb);replace HH:=hD (HH.o.aIx hb);have b0:=HH.o.b0;have b1:=HH.o.b1;have r0:=HH.o.rf.r0;have r1:=HH.o.rf.r1;have f0:=HH.o.rf.f0;have f1:=HH.o.rf.f1;clear hb;go_wp2_with fail;refine(wX a F.N c mb ts other _ (HT.o.keep HH.o.rf.bel) hot 0 HVC.o).m ?_;rintro e w2 ⟨rfl,hb⟩;replace HV:=hD (HV.o.aIx hb);replace HH:=hD (HH.o.aIx hb);have b0:=HH.o.b0;have b1:=HH.o.b1;have r0:=HH.o.rf.r0;have r1:=HH.o.rf.r1;have f0:=HH.o.rf.f0;have f1:=HH.o.rf.f1;have x0:=HV.o.x0;have x1:=HV.o.x1;have x2:=HV.o.x2;clear hb;go_upto_region 9 with fail;have HVL:=hD (λw' (hb:Below w2 w2 w')=>zD v.n v.r v.a v.t w' (aD.keep (HH.o.rf.bel.on hb) v.t HVT.o) sh79);have HWF:=hD (iM (aL HVK.o.valid));have HPM:Hid (aQ F.C.length v.t.toL=true):=hD (by rw[F.aIz];exact HVK.o.perm);have HRG:Hid (inR 0 1000000000 F.C):=hD (gH HF.o.range oM oM);have HRI:=hD (HR.o.keep HH.o.rf.bel);have HSL:Hid (v.t.toL.length<=9000):=hD (HS.o v.vol sh78);have hCl:=F.aIz;have HAD:Hid (∀w' sa sc,Below w2 w2 w'->Rd w' sa v.t.toL->ep 223 #[.agg #[.slice a F.N c],.slice sa v.t.toL.length sc] w' λe w''=>∃a5 c5,e= .returned (.tuple #[.agg #[.slice a5 F.N c5],oo])/\dG w'' w'.heap.size (.slice a5 F.N c5) (⟨F.N,fV F.vs ⟨other,v.n,0,v.t.toL⟩⟩:Fam).C/\Below w' w' w''):=hD (λw' sa sc hb hrd=>by
     have h5:=Sy F.C v.t.toL a sa c sc w' (HRI.o.keep hb) hrd HWF.o HPM.o HRG.o sh80;rw[F.aIz]at h5;refine h5.m ?_;rintro e w'' ⟨v5,rfl,ho5,hb5⟩;rw[show eU F.C v.t.toL 1=_ from HCC.o]at ho5;obtain⟨a5,c5,rfl,_⟩:=ho5.rd sh81;rw[Fam.aIz]at ho5 ⊢
     exact⟨a5,c5,rfl,ho5,hb5⟩)
    have HSK:=hD (λw' (hB:Below w2.drew.heap.size w2.drew w')=>(⟨hB.keep b0,hB.keep x0,hB.keep x1,hB.keep x2,hB⟩:w' (cw w 0)=some (.slice a F.N c)/\w' (cw (ch w) 0)=some (.int .i64 v.n)/\w' (cw (ch w) 1)=some (.int .i64 v.r)/\w' (cw (ch w) 2)=some (.pointer v.a)/\Below w2.drew.heap.size w2.drew w'));clear HWF HPM HRG hCl
    go_cut [11,12] from 11 to 43 (λy e0 wx=>aHv w a F.N c mb (cf w) (w.heap.size+1+1) v (⟨F.N,fV F.vs ⟨other,v.n,0,v.t.toL⟩⟩:Fam).C y e0 wx)
    case first=>
     go_region_held3 (λw'=>w' (cw w 0)=some (.slice a F.N c)/\w' (cw (ch w) 0)=some (.int .i64 v.n)/\w' (cw (ch w) 1)=some (.int .i64 v.r)/\w' (cw (ch w) 2)=some (.pointer v.a)/\Below w2.drew.heap.size w2.drew w')
      (first
       |exact HSK.o _ bR
       |exact HSK.o _ hB5
       |exact HSK.o _ (hB5.aIw _)
       |exact HSK.o _ (hB5.setCell (Ye _) _)
       |exact HSK.o _ (hB5.setCell hz4 _)
       |exact HSK.o _ hB4
       |exact HSK.o _ (hB4.aIw _)
       |exact HSK.o _ (bR.aIw _))
      (first
       |(go_at_call 92;have hH:= ‹_/\_/\_/\_/\Below w2.drew.heap.size w2.drew _›;refine(HVL.o _ ((bQ w2).drew.on hH.2.2.2.2)).m ?_;rintro e w4 ⟨sv,rfl,ho4,hb4⟩;obtain⟨sa,sc,rfl,hrd4⟩:=ho4.rd sh80;have hB4:=hH.2.2.2.2.on hb4;have hz4:=hB4.size;(try(have hq1:=LZ hb4;have q1:=hq1.1;have qf1:=hq1.2;clear hq1));(try(have hq1:=AB hb4;have q1:=hq1.1;have qf1:=hq1.2;clear hq1)))
       |(go_at_call 223;have hH:= ‹_/\_/\_/\_/\Below w2.drew.heap.size w2.drew _›;refine(HAD.o _ sa sc ((bQ w2).drew.on hH.2.2.2.2) sh82).m ?_;rintro e w5 ⟨a5,c5,rfl,ho5,hb5⟩;have hB5:=hH.2.2.2.2.on hb5;(try have q5:=hb5.keep q1);(try have qf5:=hb5.aJc q1 qf1);(try(have hq1:=AB hb5;have q5:=hq1.1;have qf5:=hq1.2;clear hq1))))
     ·have HQ:=hD (ZQ (t:=118) HH.o HV.o hB5 ho5 (Yu HV.o.lt hz4));clear ho5 hB5 hB4 hb5 hb4 ho4 hrd4 hz4;go_wp2_with fail;go_meet;exact HQ.o
     ·have HQ:=hD (Ns HH.o HV.o hB5 ho5 (by have:=HV.o.lt;have h9:w2.heap.size<=w4.heap.size:=hz4;simp;omega) hz4 sM q5);clear ho5 hB5 hB4 hb5 hb4 ho4 hrd4 hz4 q5 qf5;go_wp2_with fail;go_meet;exact HQ.o
     ·have HQ:=hD (Ns HH.o HV.o hB5 ho5 (Yu HV.o.lt hz4) (Ye _) (by have:=Qj w4 _ q1;exact this) q5);clear ho5 hB5 hB4 hb5 hb4 ho4 hrd4 hz4 q5 qf5 q1 qf1;go_wp2_with fail;go_meet;exact HQ.o
    case rest=>
     obtain ⟨Y,a5,c5,rfl,rfl,hH,hV,hYX,hcY,ho5⟩:=hcut;have b0:=hH.b0;have b1:=hH.b1;have x0:=hV.x0;have x1:=hV.x1;have x2:=hV.x2;have f1:=hV.f1;have hbs:=hH.rf.bel.setCell (p:=(cw (ch w) 1)) sO oo;have hoS:=(ho5.away (cw (ch w) 1) oo λh=>by have:w.heap.size+1+1+1<=w.heap.size+1+1:=(ho5.lt (ch w) h).1;omega);have hrfS:RF w (wc.setCell (cw (ch w) 1) oo) (w.heap.size+1):=by
      have hne:w.heap.size+1≠w.heap.size+1+1:=oM
      exact⟨(cell_far hne).trans hH.rf.r0,(cell_far hne).trans hH.rf.r1,by rw[Qb];exact hH.rf.f0,by rw[Qb];exact hH.rf.f1,λi hi=>(cell_far hne).trans (hH.rf.r2 i hi),hH.rf.le,hbs⟩
     have d0:(wc.setCell (cw (ch w) 1) oo).cell? (cw w 0)=some (.slice a F.N c):=(cell_far sO).trans b0;have d1:(wc.setCell (cw (ch w) 1) oo).cell? (cw w 1)=some (.map mb):=(cell_far sO).trans b1;have d2:(wc.setCell (cw (ch w) 1) oo).cell? (cw Y 0)=some (.slice a5 F.N c5):=(cell_far (by simpa using hYX)).trans hcY;have d3:(wc.setCell (cw (ch w) 1) oo).cell? (cw (ch w) 0)=some (.int .i64 v.n):=(Qk _ _ _ _ sM).trans x0;have d4:(wc.setCell (cw (ch w) 1) oo).cell? (cw (ch w) 1)=oo:=Qi _ _ _ x1;have d5:(wc.setCell (cw (ch w) 1) oo).cell? (cw (ch w) 2)=some (.pointer v.a):=(Qk _ _ _ _ sM).trans x2;have HBS:=hD hbs;have HOS:=hD hoS;have HRS:=hD hrfS;clear hbs hoS hrfS hH hV hcY ho5 b0 b1 HVL HAD HSK HRI;go_wp2_with fail;refine(Du a F.N c a5 F.N c5 mb ts ⟨other,v.n,0,v.a,v.t⟩ _ (HT.o.keep HBS.o) (aD.keep HBS.o v.t HVT.o) hot oM).m ?_;rintro e w3 ⟨b,rfl,hT3,hb⟩;have hR3:=HRS.o.aIx hb;have r0:=hR3.r0;have r1':=hR3.r1;have f0':=hR3.f0;have f1':=hR3.f1;obtain⟨a6,c6,he6,hri⟩:=HOS.o.rd sh81;injection he6 with he1 he2 he3;subst he1;have hfam:bG w3 (.agg #[.slice a5 F.N c5,.map (some b)]) ⟨F.N,fV F.vs ⟨other,v.n,0,v.t.toL⟩⟩:=bG.mk' (HR.o.mk HOS.o (hri.keep hb) (by rw[Fam.aIz,Fam.aIz]) oM hR3.bel.size) hT3 (by rw[Jc,HTS.o];rfl);have HFAM:=hD hfam;have HR3:=hD hR3;clear hb hT3 hfam hR3 hri he2 he3;go_wp2_with fail;obtain⟨j0,j1⟩:=HR3.o.cells (u:= .slice a5 F.N c5) (v:= .map (some b));refine br (.tuple #[.agg #[.slice a5 F.N c5,.map (some b)],oo]) ?_;exact⟨_,rfl,HR3.o.fam HFAM.o,HR3.o.below⟩
def tL(w:Wd)(G:Fam)(L:List E)(e0:Int)(e:Ending)(w':Wd):Prop:= ∃gv sv,e= .returned (.tuple #[gv,sv,e0])/\bG w' gv G/\aG w' w sv L/\Below w w w'
theorem BG{hi:Int}{C:List Int}(h:inR 0 hi C):Gb C=false:=by
 unfold Gb;rw[List.any_eq_false];intro x hx;have:=(h x hx).1;simp;omega
theorem uP(F G:Fam):(eY F G).length<=65536:=bE (dX _).1
def aAa(w:Wd)(a:OA)(n c:Nat)(mb:Option Nat)(R:Nat)(C:List Int)(L:List E)(y f e0:Value)(W:Wd):Prop:=
 ∃Y a' c' sa sc,y= .pointer (cw Y 0)/\f= .slice sa L sc/\e0=oo/\FH w W a n c mb R/\Y≠R/\W (cw Y 0)=some (.slice a' n c')/\dG W (R+1) (.slice a' n c') C/\aG W (R+1) (.slice sa L sc) L
theorem UV{w W w5:Wd}{a:OA}{n c:Nat}{mb:Option Nat}{R B:Nat}{C:List Int}{L:List E}{a5:OA}{c5:Nat}{sa:OA}{sc:Nat}{t:TypeId}(hH:FH w W a n c mb R)(hB:Below W.drew.heap.size W.drew w5)(ho:dG w5 B (.slice a5 n c5) C)(hf:aG w5 B (.slice sa L sc) L)(hX:R<B):
  aAa w a n c mb R C L (.pointer (cw w5 0)) (.slice sa L sc) oo (w5.alloc (cq #[.slice a5 n c5] t)):=by
 have hb:=((bQ W).drew.on hB).aIw (cq #[.slice a5 n c5] t);have hlt:R<w5.heap.size:=Yu hH.rf.lt hB.size;have hk:=(bQ w5).aIw (cq #[.slice a5 n c5] t);exact⟨_,a5,c5,sa,sc,rfl,rfl,rfl,hH.aIx hb,oM,sM,(ho.keep hk).mono oM,(hf.keep hk).mono oM⟩
theorem Ir{w W w5:Wd}{a:OA}{n c:Nat}{mb:Option Nat}{R B Y:Nat}{C:List Int}{L:List E}{a5:OA}{c5:Nat}{sa:OA}{sc:Nat}{u:Value}(hH:FH w W a n c mb R)(hB:Below W.drew.heap.size W.drew w5)(ho:dG w5 B (.slice a5 n c5) C)(hf:aG w5 B (.slice sa L sc) L)(hX:R<B)(hY:W.drew.heap.size<=Y)(hYB:Y<B)(hq:w5 (cw Y 0)=some u):
  aAa w a n c mb R C L (.pointer (cw Y 0)) (.slice sa L sc) oo (w5.setCell (cw Y 0) (.slice a5 n c5)):=by
 have hb:=(bQ W).drew.on (hB.setCell (p:=(cw Y 0)) hY (.slice a5 n c5));have hlt:=hH.rf.lt;have hY':W.heap.size<=Y:=hY;exact⟨_,a5,c5,sa,sc,rfl,rfl,rfl,hH.aIx hb,oM,Qi _ _ _ hq,(ho.away _ _ λh=>by have:=(ho.lt Y h).1;omega).mono oM,(aG.far hf _ _ λh=>by have:=(hf.lt Y h).1;omega).mono oM⟩
theorem UW(F:Fam)(fv:Value)(nm:LU)(w:Wd)(hF:F.ok)(hs:∀v∈F.vs,v.l.length<=9000)(h:bG w fv F)(hnm:nm.length<=maxLen):
  ep 171 #[fv,nmV nm] w (tL w (aZ F nm).1 (aZ F nm).2.1 (aZ F nm).2.2):=by
 obtain⟨a,c,mb,rfl,hr,ts,hts,hT⟩:=h;have hlen:=DZ hF hts;have H0:=hD (FH.init w a F.N c mb);have HT:=hD hT;have HR:=hD hr;have HTS:=hD hts;have HF:=hD hF;have HS:=hD hs;have hl:=Aw (hT.keep H0.o.rf.bel) hnm;have hgv:aN F.vs nm=(mW ts nm).map VT.vol:=by rw[<-hts,oG]
 clear hr hT hts hF hs
 cases hg:mW ts nm with
 | none=>
  rw[uM hg]at hl;rw[show aZ F nm=(eP,[],9) by simp[aZ,hgv,hg]];have HH:=hD (H0.o.aIx (bR.aIw (cq #[oo,oo,.pointer none] 170)));have b0:=HH.o.b0;have b1:=HH.o.b1;have r0:=HH.o.rf.r0;have r1:=HH.o.rf.r1;have f0:=HH.o.rf.f0;have f1:=HH.o.rf.f1;clear hg hgv;go_enter func171,ntmps171;go_wp2_with fail;obtain⟨j0,j1⟩:=HH.o.rf.cells (u:=sn) (v:= .map none);refine br (.tuple #[.agg #[sn,.map none],sn,.int .i64 9]) ?_;exact⟨_,_,rfl,bG.zero _,aG.nil _ _,by first|exact HH.o.rf.below|((repeat(first|exact bR|assumption|refine Below.aJd ?_ _|refine Below.aIw ?_ _|refine Below.setCell ?_ sM _|refine Below.drew ?_));done)⟩
 | some v=>
  rw [uL hg]at hl;have hvm:=(lX hg).1;have hvn:=(lX hg).2;have hvk:=RdV.fit HF.o HTS.o v hvm;have HVT:=hD (HT.o.1 v hvm);have HVK:=hD hvk;have HVM:=hD hvm;obtain⟨b,rfl,hmap⟩:∃b,mb=some b/\Av w b ts:=by
   rcases HT.o.2 with ⟨_,h0⟩|h0
   ·rw[h0]at hvm;simp at hvm
   ·exact h0
  have HMAP:=hD hmap;have hgw:aN F.vs v.vol.nm=some v.vol:=by show aN F.vs v.nm=_;rw[hvn,hgv,hg];rfl
  have hnv:nm=v.vol.nm:=hvn.symm;rw[show aZ F nm=(⟨F.N,bZ F.vs nm⟩,eY F ⟨F.N,bZ F.vs nm⟩,0) by simp[aZ,hgv,hg]];have HCD:=hD (Fb HF.o hgw);have HFD:=hD (Jy HF.o hgw);rw[<-hnv]at HCD HFD;have hH1:=H0.o.aIx (bR.aIw (cq #[.int .i64 v.n,.int .i64 v.r,.pointer v.a] 170));have hv1:=VH.new ((w.alloc (cq #[.slice a F.N c,.map (some b)] 121)).alloc (cq #[sn,.map none] 121)) v.n v.r v.a 170;rw[show((w.alloc (cq #[.slice a F.N c,.map (some b)] 121)).alloc (cq #[sn,.map none] 121)).heap.size=w.heap.size+1+1 by simp]at hv1;have HH:=hD hH1;have HV:=hD hv1;have HL2:=hD hl;clear hvm hvk hH1 hv1 hmap hgw hnv hvn hgv hg;go_enter func171,ntmps171;go_upto_region 4 with fail;obtain⟨W,hW⟩:∃W,(((w.alloc (cq #[.slice a F.N c,.map (some b)] 121)).alloc (cq #[sn,.map none] 121)).alloc (cq #[.int .i64 v.n,.int .i64 v.r,.pointer v.a] 170))=W:=⟨_,rfl⟩;rw[hW]at HH HV ⊢;clear hW hl;have b0:=HH.o.b0;have b1:=HH.o.b1;have x0:=HV.o.x0;have x1:=HV.o.x1;have x2:=HV.o.x2;have HVL:=hD (λw' (hb:Below W W w')=>zD v.n v.r v.a v.t w' (aD.keep (HH.o.rf.bel.on hb) v.t HVT.o) sh79);have HWF:=hD (iM (aL HVK.o.valid));have HPM:Hid (aQ F.C.length v.t.toL=true):=hD (by rw[F.aIz];exact HVK.o.perm);have HRG:Hid (inR 0 1000000000 F.C):=hD (gH HF.o.range oM oM);have HRI:=hD (HR.o.keep HH.o.rf.bel);have HSL:Hid (v.t.toL.length<=9000):=hD (HS.o v.vol sh78);have HGO:=hD (HF.o.del nm);have HAD:Hid (∀w' sa sc,Below W W w'->Rd w' sa v.t.toL->ep 219 #[.agg #[.slice a F.N c],.slice sa v.t.toL.length sc] w' λe w''=>∃a5 c5 fa fc,e= .returned (.tuple #[.agg #[.slice a5 F.N c5],.slice fa (eY F ⟨F.N,bZ F.vs nm⟩).length fc,oo])/\dG w'' w'.heap.size (.slice a5 F.N c5) (⟨F.N,bZ F.vs nm⟩:Fam).C/\aG w'' w'.heap.size (.slice fa (eY F ⟨F.N,bZ F.vs nm⟩).length fc) (eY F ⟨F.N,bZ F.vs nm⟩)/\Below w' w' w''):=hD (λw' sa sc hb hrd=>by
   have hcd:eU F.C v.t.toL (-1)=(⟨F.N,bZ F.vs nm⟩:Fam).C:=HCD.o;have hfd:bW (gN (eU F.C v.t.toL (-1)) v.t.toL)=eY F ⟨F.N,bZ F.vs nm⟩:=HFD.o;have h5:=EU F.C v.t.toL a sa c sc w' (HRI.o.keep hb) hrd HWF.o HPM.o HRG.o sh80 (by rw[hcd];exact BG HGO.o.range);rw[F.aIz]at h5;refine h5.m ?_;rintro e w'' ⟨v5,f5,rfl,ho5,hf5,hb5⟩;rw[hfd]at hf5;rw[hcd]at ho5;obtain⟨a5,c5,rfl,_⟩:=ho5.rd sh81;obtain⟨fa,fc,rfl,_⟩:=hf5.rd (by have:=uP F ⟨F.N,bZ F.vs nm⟩;omega);rw[Fam.aIz]at ho5 ⊢
   exact⟨a5,c5,fa,fc,rfl,ho5,hf5,hb5⟩)
  have HSK:=hD (λw' (hB:Below W.drew.heap.size W.drew w')=>(⟨hB.keep b0,hB.keep x0,hB.keep x1,hB.keep x2,hB⟩:w' (cw w 0)=some (.slice a F.N c)/\w' (cw (ch w) 0)=some (.int .i64 v.n)/\w' (cw (ch w) 1)=some (.int .i64 v.r)/\w' (cw (ch w) 2)=some (.pointer v.a)/\Below W.drew.heap.size W.drew w'));clear HWF HPM HRG HCD HFD
  go_cut [9,10,11] from 9 to 31 (λy f e0 wx=>aAa w a F.N c (some b) (cf w) (⟨F.N,bZ F.vs nm⟩:Fam).C (eY F ⟨F.N,bZ F.vs nm⟩) y f e0 wx)
  case first=>
   go_region_held3 (λw'=>w' (cw w 0)=some (.slice a F.N c)/\w' (cw (ch w) 0)=some (.int .i64 v.n)/\w' (cw (ch w) 1)=some (.int .i64 v.r)/\w' (cw (ch w) 2)=some (.pointer v.a)/\Below W.drew.heap.size W.drew w')
    (first
     |exact HSK.o _ bR
     |exact HSK.o _ hB5
     |exact HSK.o _ (hB5.aIw _)
     |exact HSK.o _ (hB5.setCell (Ye _) _)
     |exact HSK.o _ (hB5.setCell hz4 _)
     |exact HSK.o _ hB4
     |exact HSK.o _ (hB4.aIw _)
     |exact HSK.o _ (bR.aIw _))
    (first
     |(go_at_call 92;have hH:= ‹_/\_/\_/\_/\Below W.drew.heap.size W.drew _›;refine(HVL.o _ ((bQ W).drew.on hH.2.2.2.2)).m ?_;rintro e w4 ⟨sv,rfl,ho4,hb4⟩;obtain⟨sa,sc,rfl,hrd4⟩:=ho4.rd sh80;have hB4:=hH.2.2.2.2.on hb4;have hz4:=hB4.size;(try(have hq1:=LZ hb4;have q1:=hq1.1;have qf1:=hq1.2;clear hq1));(try(have hq1:=AB hb4;have q1:=hq1.1;have qf1:=hq1.2;clear hq1)))
     |(go_at_call 219;have hH:= ‹_/\_/\_/\_/\Below W.drew.heap.size W.drew _›;refine(HAD.o _ sa sc ((bQ W).drew.on hH.2.2.2.2) sh82).m ?_;rintro e w5 ⟨a5,c5,fa,fc,rfl,ho5,hf5,hb5⟩;have hB5:=hH.2.2.2.2.on hb5;(try have q5:=hb5.keep q1);(try have qf5:=hb5.aJc q1 qf1);(try(have hq1:=AB hb5;have q5:=hq1.1;have qf5:=hq1.2;clear hq1))))
   ·have HQ:=hD (UV (t:=118) HH.o hB5 ho5 hf5 (Yu HH.o.rf.lt hz4));clear ho5 hf5 hB5 hB4 hb5 hb4 ho4 hrd4 hz4;go_wp2_with fail;go_meet;exact HQ.o
   ·have HQ:=hD (Ir HH.o hB5 ho5 hf5 (by have:=HH.o.rf.lt;have h9:W.heap.size<=w4.heap.size:=hz4;simp;omega) hz4 sM q5);clear ho5 hf5 hB5 hB4 hb5 hb4 ho4 hrd4 hz4 q5 qf5;go_wp2_with fail;go_meet;exact HQ.o
   ·have HQ:=hD (Ir HH.o hB5 ho5 hf5 (Yu HH.o.rf.lt hz4) (Ye _) (by have:=Qj w4 _ q1;exact this) q5);clear ho5 hf5 hB5 hB4 hb5 hb4 ho4 hrd4 hz4 q5 qf5 q1 qf1;go_wp2_with fail;go_meet;exact HQ.o
  case rest=>
   obtain⟨Y,a5,c5,fa,fc,rfl,rfl,rfl,hH,hYR,hcY,ho5,hf5⟩:=hcut;have hB1:=hH.b1;have HM:=hD (BN HMAP.o hH.rf.bel);have HHH:=hD hH;have HCY:=hD hcY;have HO5:=hD ho5;have HF5:=hD hf5;clear hH hcY ho5 hf5 b0 b1 x0 x1 x2 HVL HAD HSK HRI;go_wp2_with fail;refine(Fa b ts _ HM.o).m ?_;rintro e w6 ⟨rfl,hm6,hb6⟩;have HM6:=hD hm6;have HB6:=hD hb6;have hy6:=hb6.keep HCY.o;clear hm6 hb6
   go_wp2_with (at_delete;refine wpList_delete_own _ rfl _ _ 119 9 rfl 170 vK underlying119 lW wc ts.length (jE ts) rfl HM6.o _ (.string nm) rfl (LA hnm) ?_;intro w7 hown7 hturn7;have hb7:Below wc wc w7:=HB6.o.grown hturn7.grown HB6.o.size (λk hk=>by cases hk;exact Ye _);have hy7:=hb7.keep HCY.o;have hR7:=HHH.o.rf.aIx hb7;have r0:=hR7.r0;have r1:=hR7.r1;have f0:=hR7.f0;have f1:=hR7.f1;have HOWN7:=hD hown7;have HR7:=hD hR7;have HB7:=hD hb7;clear hown7 hturn7 hb7 hR7)
   have hm7:=HOWN7.o;rw[aBv]at hm7;have hT7:RdT w7 (some wc.heap.size) (AX ts nm):=⟨λq hq=>aD.keep HR7.o.bel _ (HT.o.1 q (LG.1 hq).1),.inr ⟨_,rfl,Hu hm7⟩⟩;obtain⟨a6,c6,he6,hri⟩:=HO5.o.rd sh81;injection he6 with he1 he2 he3;subst he1;have hfam:bG w7 (.agg #[.slice a5 F.N c5,.map (some wc.heap.size)]) ⟨F.N,bZ F.vs nm⟩:=bG.mk' (HR.o.mk HO5.o (hri.keep HB7.o) (by rw[Fam.aIz,Fam.aIz]) oM HR7.o.bel.size) hT7 (by rw[MJ,HTS.o]);have hfr:=sV (u:= .slice a5 F.N c5) (v:= .map (some wc.heap.size)) (aG.keep HF5.o HB7.o) (Nat.lt_succ_self _);have HQ1:=hD (HR7.o.below (u:= .slice a5 F.N c5) (v:= .map (some wc.heap.size)));have HQ2:=hD (HR7.o.fam (u:= .slice a5 F.N c5) (v:= .map (some wc.heap.size)) hfam);have HQ3:=hD hfr;clear hfam hfr hri hT7 hm7 he2 he3 hlen;obtain⟨j0,j1⟩:=HR7.o.cells (u:= .slice a5 F.N c5) (v:= .map (some wc.heap.size));refine br (.tuple #[.agg #[.slice a5 F.N c5,.map (some wc.heap.size)],.slice fa (eY F ⟨F.N,bZ F.vs nm⟩).length fc,oo]) ?_;exact⟨_,_,rfl,HQ2.o,aG.mono HQ3.o oM,HQ1.o⟩
theorem VH.setp{W:Wd}{X:Nat}{n r:Int}{a:OA}(h:VH W X n r a)(a':OA):VH (W.setCell (cw X 2) (.pointer a')) X n r a':=
 ⟨(Qk _ _ _ _ sM).trans h.x0,(Qk _ _ _ _ sM).trans h.x1,Qi _ _ _ h.x2,by rw[Qb];exact h.f1,by rw[Qb];exact h.f2,dL dE h.x7⟩
theorem FH.aJf{w W:Wd}{a:OA}{n c:Nat}{mb:Option Nat}{R X i:Nat}{u:Value}(h:FH w W a n c mb R)(hX:R<X):FH w (W.setCell (cw X i) u) a n c mb R:=by
 have hle:=h.rf.le;have hne:R≠X:=oM
 have hne2:w.heap.size≠X:=oM
 exact⟨(cell_far hne2).trans h.b0,(cell_far hne2).trans h.b1,(cell_far hne).trans h.rf.r0,(cell_far hne).trans h.rf.r1,by rw[Qb];exact h.rf.f0,by rw[Qb];exact h.rf.f1,λi hi=>(cell_far hne).trans (h.rf.r2 i hi),h.rf.le,h.rf.bel.setCell (p:=(cw X i)) sO u⟩
theorem Vy(F:Fam)(fv:Value)(nm:LU)(p n:Int)(w:Wd)(hF:F.ok)(hs:∀v∈F.vs,v.l.length<=9000)(h:bG w fv F)(hnm:nm.length<=maxLen)(hp: -9223372036854775808<=p/\p<=9223372036854775807):
  ep 165 #[fv,nmV nm,p,n] w (tL w (bS F nm p n).1 (bS F nm p n).2.1 (bS F nm p n).2.2):=by
 obtain⟨a,c,mb,rfl,hr,ts,hts,hT⟩:=h;have hlen:=DZ hF hts;have H0:=hD (FH.init w a F.N c mb);have HFI:=hD (wK a F.N c mb ts nm p n _ (hT.keep H0.o.rf.bel) hnm (rY hF hts) hp);have HT:=hD hT;have HR:=hD hr;have HTS:=hD hts;have HF:=hD hF;have HS:=hD hs;have hgv:aN F.vs nm=(mW ts nm).map VT.vol:=by rw[<-hts,oG]
 obtain ⟨v1,e1,hfc,hres⟩:∃(v1:VT) (e1:Int),lY ts nm p n=(v1.val,e1)/\((e1≠0/\bS F nm p n=(eP,[],e1))∨(e1=0/\v1∈ts/\v1.nm=nm/\inB p n v1.n=true/\aN F.vs v1.vol.nm=some v1.vol/\bS F nm p n=(F.with (v1.vol.set (gD v1.t.toL p n)),eY F (F.with (v1.vol.set (gD v1.t.toL p n))),0))):=by
  unfold bS lY;rw[hgv]
  cases hg:mW ts nm with
  |none=>exact⟨⟨[],0,0,none,.nil⟩,9,rfl,.inl ⟨dE,rfl⟩⟩
  | some v=>
   obtain⟨hm,hvn⟩:=lX hg;cases hib:inB p n v.n
   ·have h1:inB p n v.vol.n=false:=hib;simp only[Option.map_some,h1,if_true];exact sh75
   ·have h1:inB p n v.vol.n=true:=hib;simp only[Option.map_some,h1,Bool.true_eq_false,if_false];exact sh73
 rw[hfc]at HFI;clear hr hT hts hF hs hfc hgv;rcases hres with ⟨h0,hc⟩|⟨rfl,hvm,hvn,hib,hgw,hc⟩
 ·rw[hc];clear hc;go_enter func165,ntmps165;exact sh67
 ·rw [hc];have hvk:=RdV.fit HF.o HTS.o v1 hvm;have hib':inB p n v1.vol.n=true:=hib;obtain⟨G,hG⟩:∃G,F.with (v1.vol.set (gD v1.t.toL p n))=G:=⟨_,rfl⟩;have hGok:=(hvk.cut hib').2;have hGo:G.ok:=by rw[<-hG];exact HF.o.with hGok hgw
  have hGN:G.N=F.N:=by rw[<-hG];rfl
  have hGv:G.vs=fV F.vs (v1.vol.set (gD v1.t.toL p n)):=by rw[<-hG];rfl
  obtain⟨g1,g2,g3⟩:aQ F.N (inL v1.t.toL p n)=true/\eU F.C (inL v1.t.toL p n) (-1)=G.C/\bW (gN (eU F.C (inL v1.t.toL p n) (-1)) (inL v1.t.toL p n))=eY F G:=by rw[<-hG];exact Vf HF.o hgw hib'
  have hfs:=uP F G;rw[hG];obtain⟨Lf,hLf⟩:∃L,eY F G=L:=⟨_,rfl⟩;rw[hLf]at g3 hfs ⊢;rw[g2]at g3;have HGO:=hD hGo;have HGN:=hD hGN;have HGV:=hD hGv;have HG1:=hD g1;have HG2:=hD g2;have HG3:=hD g3;clear hG hGo hGN hGv hLf;have HVT:=hD (HT.o.1 v1 hvm);have HVK:=hD hvk;have HVM:=hD hvm;have HVN:=hD hvn;have HW:=hD (EG hib' hvk.n2);clear hc hvm hvn hib hgw hvk hib' g1 g2 g3 hGok;go_enter func165,ntmps165;go_wp2_with fail;refine HFI.o.m ?_;rintro e w1 ⟨rfl,hb⟩;have HH:=hD ((H0.o.aIx hb).aIx (bR.aIw (cq #[v1.n,v1.r,.pointer v1.a] 170)));have HV:=hD (VH.new w1 v1.n v1.r v1.a 170);have HRX:Hid (w.heap.size+1<w1.heap.size):=hD (H0.o.aIx hb).rf.lt;clear hb;go_wp2_with fail;refine(Iu v1.t p n (.pointer v1.a) _ (aD.keep HH.o.rf.bel v1.t HVT.o) HVK.o.valid HVK.o.norm HW.o).m ?_;rintro e w2 ⟨tv,t2,sv,rfl,ht2,hl2,ho2,hb2⟩;obtain⟨a2,rfl⟩:=ht2.form;have hil:=(mV v1.t.toL p n (aL HVK.o.valid)).1;have hsl:v1.t.toL.length<=9000:=HS.o v1.vol sh83;obtain⟨sa,sc,rfl,_⟩:=ho2.rd oM;have hX0:=HV.o.lt;have HH2:=HH.o.aIx hb2;have HV2:=HV.o.aIx hb2;have x0:=HV2.x0;have x1:=HV2.x1;have x2:=HV2.x2;have fx2:=HV2.f2;have hk3:=(bQ w2).aIw (cq #[.pointer a2] 168);have HHS:=hD ((HH2.aIx hk3).aJf (X:=w1.heap.size) (i:=2) (u:= .pointer a2) HRX.o);have HVS:=hD ((HV2.aIx hk3).setp a2);have HTS2:=hD (aD.away (i:=2) (u:= .pointer a2) (HV2.aIx hk3).x7 t2 (aD.keep hk3 t2 ht2));have hoS:=aG.far (aG.keep ho2 hk3) (cw w1 2) (.pointer a2) (λh=>by have h9:=(ho2.lt w1 h).1;omega);obtain⟨sa',sc',hse,hrd3⟩:=hoS.rd oM;injection hse with hs1 hs2 hs3;subst hs1;have HDR:Hid (ep 219 #[.agg #[.slice a F.N c],.slice sa (inL v1.t.toL p n).length sc] ((w2.alloc (cq #[.pointer a2] 168)).setCell (cw w1 2) (.pointer a2)) λe w''=>∃a5 c5 fa fc,e= .returned (.tuple #[.agg #[.slice a5 F.N c5],.slice fa Lf fc,oo])/\RdG w'' a5 G.C/\aG w'' ((w2.alloc (cq #[.pointer a2] 168)).setCell (cw w1 2) (.pointer a2)).heap.size (.slice fa Lf fc) Lf/\Below ((w2.alloc (cq #[.pointer a2] 168)).setCell (cw w1 2) (.pointer a2)).heap.size ((w2.alloc (cq #[.pointer a2] 168)).setCell (cw w1 2) (.pointer a2)) w''):=hD (by
   have h5:=EU F.C (inL v1.t.toL p n) a sa c sc _ (HR.o.keep HHS.o.rf.bel) hrd3 (iM (aL (xH _ p n HVK.o.valid))) (by rw[F.aIz];exact HG1.o) (gH HF.o.range oM oM) oM (by rw[HG2.o];exact BG HGO.o.range);rw[F.aIz]at h5;refine h5.m ?_;rintro e w'' ⟨v5,f5,rfl,ho5,hf5,hb5⟩;rw[HG2.o]at ho5 hf5;rw[HG3.o]at hf5;obtain⟨a5,c5,rfl,hr5⟩:=ho5.rd (by rw[Fam.aIz];exact HGO.o.hN)
   exact sh71)
  have HL2:=hD hl2;have b0:=HHS.o.b0;have b1:=HHS.o.b1;have HSZ0:Hid (w.heap.size+1<((w2.alloc (cq #[.pointer a2] 168)).setCell (cw w1 2) (.pointer a2)).heap.size):=hD HHS.o.rf.lt;clear ho2 hoS hb2 ht2 hl2 hrd3 hs2 hs3 hil hsl hk3 HH2 HV2 hX0 hfs;go_wp2_with fail;refine HDR.o.m ?_;rintro e w4 ⟨a5,c5,fa,fc,rfl,hr5,hf5,hb4⟩;have hk4:=(bQ w4).aIw (cq #[.slice a5 F.N c5] 118);have HH4:=HHS.o.aIx hb4;have HV4:=HVS.o.aIx hb4;have b0:=HH4.b0;have b1:=HH4.b1;have x0:=HV4.x0;have x1:=HV4.x1;have x2:=HV4.x2;have HHE:=hD (HH4.aIx hk4);have HTE:=hD (aD.keep hk4 t2 (aD.keep hb4 t2 HTS2.o));have HOE:=hD (hr5.up hk4);have HFE:=hD (aG.mono (aG.keep hf5 hk4) HSZ0.o);clear hr5 hf5 hb4 hk4 HH4 HV4 HDR HHS HVS HTS2;go_wp2_with fail;refine(Du a F.N c a5 F.N c5 mb ts ⟨nm,v1.n,v1.r,a2,t2⟩ _ (HT.o.keep HHE.o.rf.bel) HTE.o hnm oM).m ?_;rintro e w5 ⟨b,rfl,hT5,hb5⟩;have hR5:=HHE.o.rf.aIx hb5;have r0:=hR5.r0;have r1':=hR5.r1;have f0':=hR5.f0;have f1':=hR5.f1;have hvol:(⟨nm,v1.n,v1.r,a2,t2⟩:VT).vol=v1.vol.set (gD v1.t.toL p n):=by
   show(⟨nm,v1.n,v1.r,t2.toL⟩:Vol)=⟨v1.nm,v1.n,v1.r,gD v1.t.toL p n⟩;rw[HVN.o,HL2.o]
  have hfam:bG w5 (.agg #[.slice a5 F.N c5,.map (some b)]) G:=by
   exact aFy
  have HQ1:=hD (hR5.below (u:= .slice a5 F.N c5) (v:= .map (some b)));have HQ2:=hD (hR5.fam (u:= .slice a5 F.N c5) (v:= .map (some b)) hfam);have HQ3:=hD (sV (R:=w.heap.size+1) (u:= .slice a5 F.N c5) (v:= .map (some b)) (aG.keep HFE.o hb5) (Nat.lt_succ_self _));exact sh69
theorem RdI.setOther{w:Wd}{a:OA}{C:List Int}(h:RdI w a C){p:Addr}{u y:Value}(hp:w.cell? p=some y)(hy:∀i,y≠ .int .i64 i):RdI (w.setCell p u) a C:=by
 refine ⟨h.1,h.2.imp id λ⟨b,o,ha,ht,hc⟩=>⟨b,o,ha,ht.set _ _,λk x hk=> ?_⟩⟩;have h1:=hc k x hk;have hne:p≠(cw b (o+k)):=λe=>by
  subst e;rw[hp]at h1;exact hy x (Qv h1)
 rw[Qk _ _ _ _ hne,h1]
theorem RdG.setOther{w:Wd}{a:OA}{C:List Int}(h:RdG w a C){p:Addr}{u y:Value}(hp:w.cell? p=some y)(hy:∀i,y≠ .int .i64 i):RdG (w.setCell p u) a C:=⟨h.1.setOther hp hy,h.2.le (by simp)⟩
theorem aD.setOther{w:Wd}{p:Addr}{u y:Value}(hp:w.cell? p=some y)(hy:∀i,y≠ .int .i64 i)(hq:∀a,y≠ .pointer a)(t:Tr):∀{v:Value},aD w v t->aD (w.setCell p u) v t:=by
 induction t with
 |nil=>exactλhv=>hv
 | node l x r ihl ihr=>
  rintro v ⟨b,vl,vr,hv,hn,hl,hr⟩;obtain⟨al,rfl⟩:=hl.form;obtain⟨ar,rfl⟩:=hr.form;have k:∀j z,w (cw b j)=some z->z≠y->(w.setCell p u).cell? (cw b j)=some z:=λj z h1 h2=>by
   have hne:p≠(cw b j):=λe=>by
    subst e;rw[hp]at h1;exact h2 (Qv h1).symm
   rw[Qk _ _ _ _ hne,h1]
  exact⟨b,_,_,hv,⟨k _ _ hn.a (hy _).symm,k _ _ hn.n (hy _).symm,k _ _ hn.s (hy _).symm,k _ _ hn.l (hq _).symm,k _ _ hn.r (hq _).symm,k _ _ hn.d (hy _).symm,k _ _ hn.c (hy _).symm,k _ _ hn.m (hy _).symm⟩,ihl hl,ihr hr⟩
theorem VH.aJf{W:Wd}{X Y i:Nat}{n r:Int}{a:OA}{u:Value}(h:VH W X n r a)(hne:X≠Y):VH (W.setCell (cw Y i) u) X n r a:=
 ⟨(cell_far hne).trans h.x0,(cell_far hne).trans h.x1,(cell_far hne).trans h.x2,by rw[Qb];exact h.f1,by rw[Qb];exact h.f2,(cell_far hne).trans h.x7⟩
structure EH(W:Wd)(X:Nat)(x:E):Prop where
 e0:W (cw X 0)=x.a
 e1:W (cw X 1)=x.n
 e2:W (cw X 2)=x.s
theorem EH.aIx{W W':Wd}{X:Nat}{x:E}(h:EH W X x)(hb:Below W W W'):EH W' X x:=⟨hb.keep h.e0,hb.keep h.e1,hb.keep h.e2⟩
theorem EH.init(w:Wd)(u v:Value)(x:E)(t:TypeId):EH (((w.alloc (cq #[u,v] t)).alloc (cq #[x.a,x.n,x.s] 128)).alloc (cq #[sn,.map none] t)) (cf w) x:=by
 have k:∀i,(((w.alloc (cq #[u,v] t)).alloc (cq #[x.a,x.n,x.s] 128)).alloc (cq #[sn,.map none] t)).cell? (cw (cf w) i)=((w.alloc (cq #[u,v] t)).alloc (cq #[x.a,x.n,x.s] 128)).cell? (cw (cf w) i):=λi=>by
  rw[Ya _ _ _ sM]
 exact⟨(k 0).trans sM,(k 1).trans sM,(k 2).trans sM⟩
theorem Xg(N:Nat)(x:E):aQ N [x]=rA N x:=by simp[aQ,rA]
structure CH(W:Wd)(Y:Nat)(v:Value):Prop where
 c0:W (cw Y 0)=some v
 f0:W.frozen? (cw Y 0)=false
theorem CH.lt{W:Wd}{Y:Nat}{v:Value}(h:CH W Y v):Y<W.heap.size:=Qj W (cw Y 0) h.c0
theorem CH.aIx{W W':Wd}{Y:Nat}{v:Value}(h:CH W Y v)(hb:Below W W W'):CH W' Y v:=⟨hb.keep h.c0,hb.aJc h.c0 h.f0⟩
theorem CH.new(W:Wd)(v:Value)(t:TypeId):CH (W.alloc (cq #[v] t)) W v:=⟨sM,sM⟩
theorem CH.aJf{W:Wd}{X Y i:Nat}{v u:Value}(h:CH W X v)(hne:X≠Y):CH (W.setCell (cw Y i) u) X v:=⟨(cell_far hne).trans h.c0,by rw[Qb];exact h.f0⟩
theorem Ue{C:List Int}{x:E}(hp:aQ C.length [x]=true)(h:inR 0 2097152 C):inR 0 1000000000 (eU C [x] 1):=gH (Zx hp h) oM sM
theorem Vn(F:Fam)(fv:Value)(nm:LU)(x:E)(w:Wd)(hF:F.ok)(hs:∀v∈F.vs,v.l.length<=9000)(h:bG w fv F)(hnm:nm.length<=maxLen)(hx:x.wf):
  ep 178 #[fv,nmV nm,.agg #[x.a,x.n,x.s]] w (tL w (aV F nm x).1 (aV F nm x).2.1 (aV F nm x).2.2):=by
 obtain⟨a,c,mb,rfl,hr,ts,hts,hT⟩:=h;have hlen:=DZ hF hts;have H0:=hD (FH.initE w a F.N c mb x);have HE0:=hD (EH.init w (.slice a F.N c) (.map mb) x 121);have HFI:=hD (wK a F.N c mb ts nm x.a x.n _ (hT.keep H0.o.rf.bel) hnm (rY hF hts) hx.1);have HT:=hD hT;have HR:=hD hr;have HTS:=hD hts;have HF:=hD hF;have HS:=hD hs;have hw1:wfL [x]:=λy hy=>by simp at hy;rw[hy];exact hx
 have HWX:=hD hw1;have hgv:aN F.vs nm=(mW ts nm).map VT.vol:=by rw[<-hts,oG]
 obtain ⟨v1,e1,hfc,hres⟩:∃(v1:VT) (e1:Int),lY ts nm x.a x.n=(v1.val,e1)/\((e1≠0/\aV F nm x=(eP,[],e1))∨(e1=0/\v1∈ts/\v1.nm=nm/\inB x.a x.n v1.n=true/\aN F.vs v1.vol.nm=some v1.vol/\aV F nm x=if rA F.N x=false then (eP,[],2)else (F.with (v1.vol.set (bM v1.t.toL x)),eY F (F.with (v1.vol.set (bM v1.t.toL x))),0))):=by
  unfold aV lY;rw[hgv]
  cases hg:mW ts nm with
  |none=>exact⟨⟨[],0,0,none,.nil⟩,9,rfl,.inl ⟨dE,rfl⟩⟩
  | some v=>
   obtain⟨hm,hvn⟩:=lX hg;cases hib:inB x.a x.n v.n
   ·have h1:inB x.a x.n v.vol.n=false:=hib;simp only[Option.map_some,h1,Bool.false_and,if_true];exact sh75
   ·have h1:inB x.a x.n v.vol.n=true:=hib;simp only[Option.map_some,h1,Bool.true_and];exact sh73
 rw[hfc]at HFI;clear hr hT hts hF hs hfc hgv hw1;have d0:=HE0.o.e0;have d1:=HE0.o.e1;have d2:=HE0.o.e2;rcases hres with ⟨h0,hc⟩|⟨rfl,hvm,hvn,hib,hgw,hc⟩
 ·rw[hc];clear hc;go_enter func178,ntmps178;exact sh67
 ·cases hsl:rA F.N x
  ·rw[hc,hsl,Qf rfl];have hpm:aQ F.C.length [x]=false:=by rw[F.aIz,Xg];exact hsl
   have hAD:=λw' (hr:Rd w' (cw w' 0) [x])=>hr;have HPM:=hD hpm;have hCN:F.C.length<=65536:=by rw[F.aIz];exact HF.o.hN
   have HCN:=hD hCN;clear hc hvm hvn hib hgw hpm hsl hAD hCN;go_enter func178,ntmps178;go_wp2_with fail;refine HFI.o.m ?_;rintro e w1 ⟨rfl,hb⟩;have hbv:=hb.aIw (cq #[v1.n,v1.r,.pointer v1.a] 170);have HH:=hD (H0.o.aIx hbv);have hE:=HE0.o.aIx hbv;have d0:=hE.e0;have d1:=hE.e1;have d2:=hE.e2;have b0:=HH.o.b0;have b1:=HH.o.b1;have r0:=HH.o.rf.r0;have r1:=HH.o.rf.r1;have f0:=HH.o.rf.f0;have f1:=HH.o.rf.f1;clear hb hbv hE;go_wp2_with fail;have HAN:=hD (aHn F.C [x] a (some (cw ((w1.alloc (cq #[v1.n,v1.r,.pointer v1.a] 170)).heap.size) 0)) c 1 ((w1.alloc (cq #[v1.n,v1.r,.pointer v1.a] 170)).alloc (cq #[x.a,x.n,x.s] 128)) HCN.o (Rd.lit _ _ [x] _ rfl rfl sM) HWX.o HPM.o);rw[F.aIz,show(w1.alloc (cq #[v1.n,v1.r,.pointer v1.a] 170)).heap.size=w1.heap.size+1 by simp]at HAN;refine HAN.o.m ?_;rintro e w2 ⟨rfl,hb2⟩;have hk2:=((Below.refl (w1.alloc (cq #[v1.n,v1.r,.pointer v1.a] 170)).heap.size (w1.alloc (cq #[v1.n,v1.r,.pointer v1.a] 170))).aIw (cq #[x.a,x.n,x.s] 128)).on hb2;replace HH:=hD ((HH.o.aIx hk2).aIx ((bQ w2).aIw (cq #[sn] 118)));have b0:=HH.o.b0;have b1:=HH.o.b1;have r0:=HH.o.rf.r0;have r1:=HH.o.rf.r1;have f0:=HH.o.rf.f0;have f1:=HH.o.rf.f1;clear hb2 hk2 HAN;go_wp2_with fail;obtain⟨j0,j1⟩:=HH.o.rf.cells (u:=sn) (v:= .map none);refine br (.tuple #[.agg #[sn,.map none],sn,ow]) ?_;exact⟨_,_,rfl,bG.zero _,aG.nil _ _,HH.o.rf.below⟩
  ·have hxs:(inB x.a x.n v1.vol.n&&rA F.N x)=true:=by rw[hsl];show(inB x.a x.n v1.n&&true)=true;rw[hib];rfl
   rw[hc,hsl,Qe dE];have hvk:=RdV.fit HF.o HTS.o v1 hvm;obtain⟨G,hG⟩:∃G,F.with (v1.vol.set (bM v1.t.toL x))=G:=⟨_,rfl⟩;obtain⟨hxok,hGok⟩:=hvk.put HF.o.hN hxs;have hGo:G.ok:=by rw[<-hG];exact HF.o.with hGok hgw
   have hGN:G.N=F.N:=by rw[<-hG];rfl
   have hGv:G.vs=fV F.vs (v1.vol.set (bM v1.t.toL x)):=by rw[<-hG];rfl
   obtain⟨g0,g1,g2,g3⟩:aQ F.N [x]=true/\aQ F.N (inL v1.t.toL x.a x.n)=true/\eU (eU F.C [x] 1) (inL v1.t.toL x.a x.n) (-1)=G.C/\bW (gN (eU (eU F.C [x] 1) (inL v1.t.toL x.a x.n) (-1)) (inL v1.t.toL x.a x.n))=eY F G:=by rw[<-hG];exact QO HF.o hgw hxs
   have hfs:=uP F G;rw[hG];obtain⟨Lf,hLf⟩:∃L,eY F G=L:=⟨_,rfl⟩;rw[hLf]at g3 hfs ⊢;rw[g2]at g3;obtain⟨C1,hC1⟩:∃C,eU F.C [x] 1=C:=⟨_,rfl⟩;have hC1l:C1.length=F.N:=by rw[<-hC1,eT,F.aIz]
   have hC1r:inR 0 1000000000 C1:=by
    rw[<-hC1];exact Ue (by rw[F.aIz];exact g0) HF.o.range
   rw [hC1]at g2;have HGO:=hD hGo;have HGN:=hD hGN;have HGV:=hD hGv;have HG0:=hD g0;have HG1:=hD g1;have HG2:=hD g2;have HG3:=hD g3;have HC1:=hD hC1;have HCL:=hD hC1l;have HCR:=hD hC1r;have HFS:=hD hfs;have HXO:=hD hxok;have HVT:=hD (HT.o.1 v1 hvm);have HVK:=hD hvk;have HVM:=hD hvm;have HVN:=hD hvn;clear hG hGo hGN hGv hLf hc hvm hvn hib hgw hvk g0 g1 g2 g3 hGok hsl hxs hC1 hC1l hC1r hfs hxok;go_enter func178,ntmps178;go_wp2_with fail;refine HFI.o.m ?_;rintro e w1 ⟨rfl,hb⟩;have hbv:=hb.aIw (cq #[v1.n,v1.r,.pointer v1.a] 170);have HH:=hD (H0.o.aIx hbv);have HV:=hD (VH.new w1 v1.n v1.r v1.a 170);have HRX:Hid (w.heap.size+1+1<w1.heap.size):=hD (H0.o.aIx hb).rf.lt;have hE:=HE0.o.aIx hbv;have HE:=hD hE;have d0:=hE.e0;have d1:=hE.e1;have d2:=hE.e2;have b0:=HH.o.b0;have b1:=HH.o.b1;have r0:=HH.o.rf.r0;have r1:=HH.o.rf.r1;have f0:=HH.o.rf.f0;have f1:=HH.o.rf.f1;clear hb hbv hE;go_wp2_with fail;have hk1:=(Below.refl (w1.alloc (cq #[v1.n,v1.r,.pointer v1.a] 170)).heap.size (w1.alloc (cq #[v1.n,v1.r,.pointer v1.a] 170))).aIw (cq #[x.a,x.n,x.s] 128);have HAY:=hD (Sy F.C [x] a (some (cw ((w1.alloc (cq #[v1.n,v1.r,.pointer v1.a] 170)).heap.size) 0)) c 1 ((w1.alloc (cq #[v1.n,v1.r,.pointer v1.a] 170)).alloc (cq #[x.a,x.n,x.s] 128)) (HR.o.keep (HH.o.aIx hk1).rf.bel) (Rd.lit _ _ [x] _ rfl rfl sM) HWX.o (by rw[F.aIz];exact HG0.o) (gH HF.o.range oM oM) sM);rw[F.aIz,HC1.o,show(w1.alloc (cq #[v1.n,v1.r,.pointer v1.a] 170)).heap.size=w1.heap.size+1 by simp]at HAY;refine HAY.o.m ?_;rintro e w2 ⟨v5,rfl,hoC,hb2⟩;obtain⟨a4,c4,rfl,hrC⟩:=hoC.rd (by rw[HCL.o];exact HF.o.hN);rw[HCL.o];have hk2:=((hk1).on hb2).aIw (cq #[.slice a4 F.N c4] 118);have hk2':=(bQ w2).aIw (cq #[.slice a4 F.N c4] 118);have HRC:=hD (hrC.keep hk2');replace HH:=hD (HH.o.aIx hk2);replace HV:=hD (HV.o.aIx hk2);replace HE:=hD (HE.o.aIx hk2);have HY:=hD (CH.new w2 (.slice a4 F.N c4) 118);have HYX:Hid (w1.heap.size<w2.heap.size):=hD (Yu sM (hk1.on hb2).size);have d0:=HE.o.e0;have d1:=HE.o.e1;have d2:=HE.o.e2;have x2:=HV.o.x2;have b0:=HH.o.b0;have b1:=HH.o.b1;have r0:=HH.o.rf.r0;have r1:=HH.o.rf.r1;have f0:=HH.o.rf.f0;have f1:=HH.o.rf.f1;clear hb2 hk2 HAY hk1 hk2' hrC hoC;go_wp2_with fail;refine(TR v1.t x (.pointer v1.a) _ (aD.keep HH.o.rf.bel v1.t HVT.o) HVK.o.valid HVK.o.norm HXO.o).m ?_;rintro e w3 ⟨tv,t2,sv,rfl,ht2,hl2,ho2,hb3⟩;obtain⟨a2,rfl⟩:=ht2.form;have hil:=(mV v1.t.toL x.a x.n (aL HVK.o.valid)).1;have hsl:v1.t.toL.length<=9000:=HS.o v1.vol sh83;obtain⟨sa,sc,rfl,_⟩:=ho2.rd oM;have hk3:=(bQ w3).aIw (cq #[.pointer a2] 168);have HH3:=HH.o.aIx hb3;have HV3:=HV.o.aIx hb3;have HY3:=HY.o.aIx hb3;have x0:=HV3.x0;have x1:=HV3.x1;have x2:=HV3.x2;have fx2:=HV3.f2;have y0:=HY3.c0;have yf:=HY3.f0;have hX0:=HV3.lt;have hY0:=HY3.lt;have HHS:=hD ((HH3.aIx hk3).aJf (X:=w1.heap.size) (i:=2) (u:= .pointer a2) (by have:=HRX.o;omega));have HVS:=hD ((HV3.aIx hk3).setp a2);have HYS:=hD ((HY3.aIx hk3).aJf (Y:=w1.heap.size) (i:=2) (u:= .pointer a2) (by have:=HYX.o;omega));have HTS2:=hD (aD.away (i:=2) (u:= .pointer a2) (HV3.aIx hk3).x7 t2 (aD.keep hk3 t2 ht2));have hoS:=aG.far (aG.keep ho2 hk3) (cw w1 2) (.pointer a2) (λh=>by have h9:=(ho2.lt w1 h).1;have h8:=HYX.o;simp only[World.size_alloc]at h9;omega);obtain⟨sa',sc',hse,hrd3⟩:=hoS.rd oM;injection hse with hs1 hs2 hs3;subst hs1;have HDR:Hid (ep 219 #[.agg #[.slice a4 F.N c4],.slice sa (inL v1.t.toL x.a x.n).length sc] ((w3.alloc (cq #[.pointer a2] 168)).setCell (cw w1 2) (.pointer a2)) λe w''=>∃a5 c5 fa fc,e= .returned (.tuple #[.agg #[.slice a5 F.N c5],.slice fa Lf fc,oo])/\RdG w'' a5 G.C/\aG w'' ((w3.alloc (cq #[.pointer a2] 168)).setCell (cw w1 2) (.pointer a2)).heap.size (.slice fa Lf fc) Lf/\Below ((w3.alloc (cq #[.pointer a2] 168)).setCell (cw w1 2) (.pointer a2)).heap.size ((w3.alloc (cq #[.pointer a2] 168)).setCell (cw w1 2) (.pointer a2)) w''):=hD (by
    have h5:=EU C1 (inL v1.t.toL x.a x.n) a4 sa c4 sc _ (((HRC.o.keep hb3).keep hk3).setOther (u:= .pointer a2) (HV3.aIx hk3).x2 sM) hrd3 (iM (aL (xH _ x.a x.n HVK.o.valid))) (by rw[HCL.o];exact HG1.o) HCR.o oM (by rw[HG2.o];exact BG HGO.o.range);rw[HCL.o]at h5;refine h5.m ?_;rintro e w'' ⟨v5,f5,rfl,ho5,hf5,hb5⟩;rw[HG2.o]at ho5 hf5;rw[HG3.o]at hf5;obtain⟨a5,c5,rfl,hr5⟩:=ho5.rd (by rw[Fam.aIz];exact HGO.o.hN);have hff:=HFS.o
    exact sh71)
   have HL2:=hD hl2;have b0:=HHS.o.b0;have b1:=HHS.o.b1;have y0':=HYS.o.c0;have HSZ0:Hid (w.heap.size+1+1<((w3.alloc (cq #[.pointer a2] 168)).setCell (cw w1 2) (.pointer a2)).heap.size):=hD HHS.o.rf.lt;clear ho2 hoS hb3 ht2 hl2 hrd3 hs2 hs3 hil hsl hk3 HH3 HV3 HY3 hX0 hY0;go_wp2_with fail;refine HDR.o.m ?_;rintro e w4 ⟨a5,c5,fa,fc,rfl,hr5,hf5,hb4⟩;have HH4:=HHS.o.aIx hb4;have HV4:=HVS.o.aIx hb4;have HY4:=HYS.o.aIx hb4;have b0:=HH4.b0;have b1:=HH4.b1;have x0:=HV4.x0;have x1:=HV4.x1;have x2:=HV4.x2;have y0:=HY4.c0;have yf:=HY4.f0;have HHE:=hD (HH4.aJf (X:=w2.heap.size) (i:=0) (u:= .slice a5 F.N c5) (by have:=HYX.o;have:=HRX.o;omega));have HVE:=hD (HV4.aJf (Y:=w2.heap.size) (i:=0) (u:= .slice a5 F.N c5) (by have:=HYX.o;omega));have HTE:=hD (aD.setOther (u:= .slice a5 F.N c5) y0 sM sM t2 (aD.keep hb4 t2 HTS2.o));have HOE:=hD (hr5.setOther (u:= .slice a5 F.N c5) y0 sM);have HFE:=hD (aG.mono (aG.far hf5 (cw w2 0) (.slice a5 F.N c5) (λh=>by have h9:=(hf5.lt w2 h).1;have h8:=HYS.o.lt;omega)) HSZ0.o);have y1:=Qi w4 (cw w2 0) (.slice a5 F.N c5) y0;have e0:=HHE.o.b0;have e1:=HHE.o.b1;have v0:=HVE.o.x0;have v1':=HVE.o.x1;have v2:=HVE.o.x2;clear hr5 hf5 hb4 HH4 HV4 HY4 HDR HHS HVS HTS2 HYS;go_wp2_with fail;refine(Du a F.N c a5 F.N c5 mb ts ⟨nm,v1.n,v1.r,a2,t2⟩ _ (HT.o.keep HHE.o.rf.bel) HTE.o hnm oM).m ?_;rintro e w5 ⟨b,rfl,hT5,hb5⟩;have hR5:=HHE.o.rf.aIx hb5;have r0:=hR5.r0;have r1':=hR5.r1;have f0':=hR5.f0;have f1':=hR5.f1;have hvol:(⟨nm,v1.n,v1.r,a2,t2⟩:VT).vol=v1.vol.set (bM v1.t.toL x):=by
    show(⟨nm,v1.n,v1.r,t2.toL⟩:Vol)=⟨v1.nm,v1.n,v1.r,bM v1.t.toL x⟩;rw[HVN.o,HL2.o]
   have hfam:bG w5 (.agg #[.slice a5 F.N c5,.map (some b)]) G:=by
    exact aFy
   have HQ1:=hD (hR5.below (u:= .slice a5 F.N c5) (v:= .map (some b)));have HQ2:=hD (hR5.fam (u:= .slice a5 F.N c5) (v:= .map (some b)) hfam);have HQ3:=hD (sV (R:=w.heap.size+1+1) (u:= .slice a5 F.N c5) (v:= .map (some b)) (aG.keep HFE.o hb5) (Nat.lt_succ_self _));exact sh69
end Go.Proofs.YtphfgbbbejloaaaGreatDoor
