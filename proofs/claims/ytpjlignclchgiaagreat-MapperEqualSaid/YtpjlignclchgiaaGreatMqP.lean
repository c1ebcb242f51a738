/-
  The walk of MapperEqual.
  Conditions: as the theorem says.
-/
import Derived.Test.YtpjlignclchgiaaGreatMqQ
namespace Go.Proofs.YtpjlignclchgiaaGreat
open Go.Lib (hid)
set_option linter.unusedSimpArgs false
set_option linter.unusedVariables false
set_option maxRecDepth 100000
set_option maxHeartbeats 16000000
open Go.RowKit Go.Maps
theorem small_few38 {F:Fam} (hF:F.ok) (h:F.small):F.vs.length≤5:=by
 have key:∀ (vs:List Vol) (lo:Nat),sortedV vs→(∀v∈vs,∃j,lo≤j∧j<5∧v.nm=[UInt8.ofNat (97+j)])→lo≤5→vs.length+lo≤5:=by
  intro vs
  induction vs with
  |nil=>intro lo _ _ hl;simpa using hl
  | cons v r ih=>
   intro lo hs hv hl;obtain⟨h1,h2⟩:=List.pairwise_cons.1 hs;obtain⟨j,hj1,hj2,hj3⟩:=hv v (by simp);have:=ih (j+1) h2 (fun w hw=>by
    obtain⟨i,hi1,hi2,hi3⟩:=hv w (by simp[hw]);refine⟨i,?_,hi2,hi3⟩;have hb:=h1 w hw;rw[hj3,hi3]at hb;rcases(by omega:j+1≤i∨i≤j)with h|h
    ·exact h
    ·exfalso;rcases(by omega:j=0∨j=1∨j=2∨j=3∨j=4)with rfl|rfl|rfl|rfl|rfl <;>
      rcases(by omega:i=0∨i=1∨i=2∨i=3∨i=4)with rfl|rfl|rfl|rfl|rfl <;> first|omega|(revert hb;decide)) (by omega)
   simp only[List.length_cons];omega
 have:=key F.vs 0 hF.sorted (fun v hv=>by obtain⟨j,h1,h2⟩:=(h v hv).2;exact⟨j,Nat.zero_le _,h1,h2⟩) (by omega);omega
def nw:List UInt8:=[110,101,119]
theorem nw_name:nameB nw=true:=by decide
def nwV:Vol:=⟨nw,5,0,[]⟩
def nwF (F:Fam):Fam:=⟨F.N,putV F.vs nwV⟩
theorem nw_none {F:Fam} (hs:F.small):getV F.vs nw=none:=getV_none.2 fun w hw e=>by
 obtain⟨j,_,h⟩:=(hs w hw).2;rw[e]at h;have:=congrArg List.length h;simp[nw]at this
theorem nw_create {F:Fam} (hF:F.sound) (hs:F.small):createF F nw 5 0=(nwF F,0):=by
 have h5:=small_few38 hF.ok hs;unfold createF;rw[if_neg (by rw[nw_name];decide),if_neg (by rw[nw_none hs];decide),if_neg (by omega)];rfl
theorem nw_can {F:Fam} (hF:F.sound):canCreateF F 5 0=0:=by
 have:=hF.room;unfold canCreateF enoughN;rw[if_neg (by decide),if_neg (by omega)]
theorem nw_crE {F:Fam} (hF:F.sound) (hs:F.small):crE F nw 5 0=0:=by
 unfold crE;rw[nw_create hF hs,if_pos rfl,nw_can hF]
theorem nw_sound {F:Fam} (hF:F.sound) (hs:F.small):(nwF F).sound:=by
 have:=create_sound hF (nm:=nw) (n:=5) (r:=0) (by omega) (nw_can hF) (by rw[nw_create hF hs])
 rwa [nw_create hF hs]at this
theorem nw_once {F:Fam} (ho:F.once):(nwF F).once:=once_put ho injS_nil
theorem nw_get {F:Fam} (hF:F.ok) (nm:List UInt8):getV (nwF F).vs nm=if nm=nw then some nwV else getV F.vs nm:=getV_put hF.sorted _ _
theorem nw_notes:(noteCr nw 5 0).length≤256∧(noteUn nw 0 5).length≤256∧(noteDe nw).length≤256:=by
 have h1:=nums2_le (p:=5) (n:=0) (by omega) (by omega);have h2:=nums2_le (p:=0) (n:=5) (by omega) (by omega);have h3:nw.length=3:=rfl;unfold noteCr noteUn noteDe;rw[List.length_append,List.length_append,hdr_le 3 _ (by omega) (by omega),hdr_le 2 _ (by omega) (by omega),hdr_le 5 _ (by omega) (by omega)];omega
theorem nw_apply {F:Fam} (hF:F.sound) (hs:F.small):applyP F (noteCr nw 5 0)=(nwF F,0):=by
 rw[apply_cr _ _ _ _ nw_notes.1 (by decide) (by omega) (by omega),nw_create hF hs];exact endP_yes rfl (nw_sound hF hs).room
structure NwF (F G:Fam):Prop where
 sound:G.sound
 once:G.once
 N:G.N=F.N
 get:∃ l,getV G.vs nw=some (nwV.set l)
 oth:∀ nm,nm≠nw→getV G.vs nm=getV F.vs nm
theorem NwF.start {F:Fam} (hF:F.sound) (ho:F.once) (hs:F.small):NwF F (nwF F):=
 ⟨nw_sound hF hs,nw_once ho,rfl,⟨[],by rw[nw_get hF.ok,if_pos rfl];rfl⟩,fun nm h=>by rw[nw_get hF.ok,if_neg h]⟩
theorem NwF.write {F:Fam} (hF:F.sound) (ho:F.once) (hs:F.small) {v:Vol} {p n:Nat} {S:List Int} (h:PW (nwF F) v p n S) (hv:v.nm=nw) {G:Fam} {L:List E} (hw:WrJ (nwF F) v p n S n G L):NwF F G:=by
 have hg:=h.get;rw[hv,nw_get hF.ok,if_pos rfl]at hg;have hv2:=Option.some.inj hg;refine⟨hw.wi.sound (nw_sound hF hs) h.get,hw.once h,hw.wi.N,⟨L,?_⟩,fun nm hne=> ?_⟩
 ·have:=hw.get;rw[←hv2]at this;exact this
 ·rw[hw.wi.oth nm (by rw[hv];exact hne),nw_get hF.ok,if_neg hne]
theorem NwF.trim {F G:Fam} (hF:F.sound) (hs:F.small) (h:NwF F G):(unmapF G nw 0 5).1=nwF F∧(unmapF G nw 0 5).2.2=0:=by
 obtain⟨l,hl⟩:=h.get;have hv:=h.sound.ok.vol _ (getV_mem hl).1;have hin:inB 0 5 (nwV.set l).n=true:=by show inB 0 5 5=true;decide
 have hw:=(hv.cut hin).1;have hun:unmapF G nw 0 5=(G.with ((nwV.set l).set (cutL l 0 5)),freedF G (G.with ((nwV.set l).set (cutL l 0 5))),0):=by
  unfold unmapF;rw[hl];show(if inB 0 5 (nwV.set l).n=false then _ else _)=_;rw[if_neg (by rw[hin];decide)];rfl
 have hok:=ok_unmap h.sound.ok nw 0 5;rw[hun]at hok ⊢;refine⟨fam_ext hok (nw_sound hF hs).ok h.N fun nm=> ?_,rfl⟩;rw[nw_get hF.ok];show getV (putV G.vs ((nwV.set l).set (cutL l 0 5))) nm=_;rw[getV_put h.sound.ok.sorted];by_cases e:nm=nw
 ·rw [if_pos e,if_pos (show nm=((nwV.set l).set (cutL l 0 5)).nm from e)];have hnew:=hok.vol ((nwV.set l).set (cutL l 0 5)) (mem_putV.2 (.inl rfl));have hl0:cutL l 0 5=[]:=list_ext hnew.valid hnew.norm rfl rfl fun b=>by
   show slotAt (cutL l 0 5) b=none;rw[slotAt_cut l 0 5 b hw hv.valid]
   split
   ·rfl
   ·refine slotAt_none l b fun x hx=> ?_;have h1:=hv.ins x hx;obtain⟨c1,c2,_⟩:=(okB_iff x).1 (validB_ok hv.valid x hx);have h2:(nwV.set l).n=5:=rfl;unfold hits;rw[Bool.and_eq_false_iff,decide_eq_false_iff_not,decide_eq_false_iff_not];omega
  rw[hl0];rfl
 ·rw[if_neg e,if_neg (show ¬nm=((nwV.set l).set (cutL l 0 5)).nm from e),h.oth nm e]
theorem NwF.apply {F G:Fam} (hF:F.sound) (hs:F.small) (h:NwF F G):applyP G (noteUn nw 0 5)=(nwF F,0):=by
 obtain⟨h1,h2⟩:=h.trim hF hs;rw[apply_un _ _ _ _ nw_notes.2.1 (by decide) (by omega) (by omega),h1,h2];exact endP_yes rfl (nw_sound hF hs).room
theorem nw_delete {F:Fam} (hF:F.sound) (hs:F.small):(deleteF (nwF F) nw).1=F∧(deleteF (nwF F) nw).2.2=0:=by
 have hok:=ok_delete (nw_sound hF hs).ok nw;have hd:deleteF (nwF F) nw=(⟨F.N,delV (nwF F).vs nw⟩,freedF (nwF F) ⟨F.N,delV (nwF F).vs nw⟩,0):=by
  unfold deleteF;rw[nw_get hF.ok,if_pos rfl];rfl
 rw[hd]at hok ⊢;refine⟨fam_ext hok hF.ok rfl fun nm=> ?_,rfl⟩;show getV (delV (nwF F).vs nw) nm=_;rw[getV_del (nw_sound hF hs).ok.sorted,nw_get hF.ok];by_cases e:nm=nw
 ·rw[if_pos e,e,nw_none hs]
 ·rw[if_neg e,if_neg e]
theorem nw_undo {F:Fam} (hF:F.sound) (hs:F.small):applyP (nwF F) (noteDe nw)=(F,0):=by
 obtain⟨h1,h2⟩:=nw_delete hF hs;rw[apply_de _ _ nw_notes.2.2 (by decide),h1,h2];exact endP_yes rfl hF.room
theorem put_length38 {vs:List Vol} {v:Vol} (h:getV vs v.nm=none):(putV vs v).length=vs.length+1:=by
 have hd:delV vs v.nm=vs:=by
  unfold delV;rw[List.filter_eq_self];intro w hw;have:=getV_none.1 h w hw
  simpa using this
 unfold putV;rw[length_insV,hd]
open Go.Lib (uvarint uvarint_small) in
theorem state_head (F:Fam) (h:F.vs.length<128):(stateP F).head? =some F.vs.length.toUInt8:=by
 unfold stateP;rw[encI_nat _ (by omega),uvarint_small h];rfl
theorem nw_differs {F:Fam} (hF:F.sound) (hs:F.small):stateP (nwF F)≠stateP F:=fun e=>by
 have h5:=small_few38 hF.ok hs;have hl:(nwF F).vs.length=F.vs.length+1:=put_length38 (nw_none hs);have h1:=state_head F (by omega);have h2:=state_head (nwF F) (by omega);rw[e,h1,hl]at h2;have h3:=congrArg (Option.map UInt8.toNat) h2;simp only[Option.map_some,Option.some.injEq]at h3;rw[toUInt8_nat (by omega),toUInt8_nat (by omega)]at h3;omega
theorem law_equal38 (i:Int) (S:List Step36) (x:Int) (a:Option Addr) (c:Nat) (w:World) (hi:0≤i∧i≤255) (hr:RdS36 w a S):
  Calls Tryz.prog 5 #[.int .u8 i,.slice a S.length c,.int .u8 x] w fun e w'=>e= .returned (.bool true)∧Below w.heap.size w w':=by
 obtain⟨n,rfl⟩:=Int.eq_ofNat_of_zero_le hi.1;have hn:n≤255:=by omega
 have hlen:=hr.1;by_cases h25:20<S.length
 ·go_enter Tryz.func5,Tryz.ntmps5;go_wp2_with fail;refine(awake38_is _).mono ?_;rintro e w1 ⟨rfl,hb1⟩;go_wp2_with fail;go_ret;exact⟨rfl,by first|exact hb1|exact HK0.o.on hb1⟩
 have hS20:S.length≤1000:=by omega
 go_enter Tryz.func5,Tryz.ntmps5;go_wp2_with fail;refine(awake38_is _).mono ?_;rintro e w1 ⟨rfl,hb1⟩;go_wp2_with fail;refine(build38_is n S a c _ hn hS20 (hr.keep hb1)).mono ?_;rintro e w2 ⟨M,F,gv,ns,na,nc,rfl,hsd,hon,hsm,hFN,hmb,hfr,hnr,hns,hfw,hch,hMw,hb2⟩;obtain⟨ra,rn,rc,rfl⟩:=hfr.form;have HL:=hid (LM.new hmb hfr (hb1.on hb2) (by have h2:=hb1.size;omega));have hrn5:rn<32:=by
  have h1:=FamR.len hfr;have h2:=small_few38 hsd.ok hsm;omega
 have HSD:=hid hsd;have HON:=hid hon;have HSM:=hid hsm;have HS1F:=hid (nw_sound hsd hsm);have hdf:=nw_differs hsd hsm;obtain⟨P0,hP0⟩:∃ P,stateP F=P:=⟨_,rfl⟩;obtain⟨P1,hP1⟩:∃ P,stateP (nwF F)=P:=⟨_,rfl⟩;have HS0:=hid (fun W (h:MapB W M F)=>mstate_is M F W HSD.o.ok HSD.o.short h);have HS1:=hid (fun W (h:MapB W M (nwF F))=>mstate_is M (nwF F) W HS1F.o.ok HS1F.o.short h);rw[hP0]at HS0 hdf;rw[hP1]at HS1 hdf;have hne:(P1==P0)=false:=by simpa using hdf
 obtain⟨N1,hN1⟩:∃ N,noteCr nw 5 0=N:=⟨_,rfl⟩;have HCR:=hid (fun W (h:MapB W M F)=>mcreate_is M F 0 nw N1 5 0 W HSD.o.ok HSD.o.short h (by decide) (nw_crE HSD.o HSM.o) (by rw[if_pos rfl,hN1]));have ha1:=nw_apply hsd hsm;rw[hN1]at ha1;have HA1:=hid ha1;obtain⟨N4,hN4⟩:∃ N,noteDe nw=N:=⟨_,rfl⟩;obtain⟨D4,L4,e4,hd4⟩:∃ D L e,deleteF (nwF F) nw=(D,L,e):=⟨_,_,_,rfl⟩;obtain rfl:e4=0:=by have:=(nw_delete hsd hsm).2;rw[hd4]at this;exact this
 have HDE:=hid (fun W (h:MapB W M (nwF F))=>mdelete_is M (nwF F) D4 L4 0 nw N4 W HS1F.o.ok HS1F.o.short h (by decide) hd4 (by rw[if_pos rfl,hN4]));have ha4:=nw_undo hsd hsm;rw[hN4]at ha4;have HA4:=hid ha4;obtain⟨N3,hN3⟩:∃ N,noteUn nw 0 5=N:=⟨_,rfl⟩;have HN3:=hid hN3;have key:∃ G,NwF F G∧((planE (nwF F) nw 1 2≠0∧G=nwF F)∨(planE (nwF F) nw 1 2=0∧ ∃WL N2,WL.length=2∧applyP (nwF F) N2=(G,0)∧ ∀W (ad:Option Addr) cd,MapB W M (nwF F)→RdB W ad (List.replicate 2 Bk.zero)→Calls Tryz.prog 21 #[.pointer (some ⟨M,0,none⟩),nmV nw,.int .i64 1,.slice ad 2 cd] W (PlanP W WL N2))):=by
  by_cases he:planE (nwF F) nw 1 2=0
  ·obtain⟨v,p0,n0,k,hv,hvn,hp0,hn0,g1,g2,hk,hf,hpw⟩:=pw_of HS1F.o (nw_once hon) he;obtain rfl:p0=1:=by omega
   obtain rfl:n0=2:=by omega
   obtain⟨G,L,hwj⟩:=hpw.at 2 (Nat.le_refl _);refine⟨G,NwF.write hsd hon hsm hpw hvn hwj,.inr ⟨he,wrL (nwF F).C v.l 1 (planS (nwF F) v.nm ((1:Nat):Int) k) (List.replicate 2 Bk.zero) 2,noteAs v.nm (joinL (chL (nwF F).C v.l 1 (planS (nwF F) v.nm ((1:Nat):Int) k) 2)),wrL_len _,hpw.apply hwj (by have:=hpw.note_le (by omega);omega),fun W ad cd h hrd=> ?_⟩⟩;have:=mplan_yes M (nwF F) v 1 2 cd k (List.replicate 2 Bk.zero) _ ad W HS1F.o.ok HS1F.o.short h hv (by simp) hpw.le hrd (by rw[hvn];exact he) hk hf rfl;rw[hvn]at this ⊢;exact this
  ·exact⟨nwF F,NwF.start hsd hon hsm,.inl ⟨he,rfl⟩⟩
 obtain⟨G,hng,hcase⟩:=key;have HSG:=hid hng.sound;have ha3:=hng.apply hsd hsm;rw[hN3]at ha3;have HA3:=hid ha3;obtain⟨D3,L3,e3,hd3⟩:∃ D L e,unmapF G nw 0 5=(D,L,e):=⟨_,_,_,rfl⟩;obtain rfl:e3=0:=by have:=(hng.trim hsd hsm).2;rw[hd3]at this;exact this
 have HTR:=hid (fun W (h:MapB W M G)=>mtrim_is M G D3 L3 0 nw N3 0 5 W HSG.o.ok HSG.o.short h (by decide) (by omega) hd3 (by rw[if_pos rfl,HN3.o]));clear hsd hon hsm hFN hmb hfr hnr hns hfw hch hMw hb1 hb2 hdf hP0 hP1 hN1 hN3 hN4 ha1 ha3 ha4 hd3 hd4 hng;go_wp2_with fail;generalize w2.alloc (.cells #[.int .i64 F.N,.slice ra rn rc] 30)=W0 at *;generalize w2.heap.size=T at *;refine(HS0.o _ HL.o.map).mono ?_;rintro e w6 ⟨sa,sc,rfl,hrd,hb⟩;have hcv:=hrd.conv_any (c:=sc);replace HL:=hid (HL.o.later hb);clear hb hrd;go_wp2_with fail;clear hcv;refine(HCR.o _ HL.o.map).mono ?_;rintro e w4 ⟨na,nc,rfl,hrn,hb⟩;replace HL:=hid (HL.o.later hb);have HRN:=hid hrn;clear hb hrn;have b0:=HL.o.fb.c0;have b1:=HL.o.fb.c1;go_wp2_with fail;refine(mapply_is M F (nwF F) 0 N1 na nc _ HSD.o.ok HSD.o.short8 HL.o.map HRN.o HA1.o).mono ?_;rintro e w5 ⟨rfl,hm5,hg5⟩;replace HL:=hid (HL.o.went hm5 hg5);clear hm5 hg5 HRN;clear b0 b1;go_wp2_with fail;refine(HS1.o _ HL.o.map).mono ?_;rintro e w6 ⟨sa,sc,rfl,hrd,hb⟩;have hcv2:=hrd.conv_any (c:=sc);replace HL:=hid (HL.o.later hb);clear hb hrd;have hsz:=HL.o.B.size
 go_wp2_with (at_make;(refine wpList_make_B _ rfl _ _ 38 rfl Tryz.underlying38 _ _ 2 rfl rfl (by omega) w.heap.size w6.heap.size rfl hsz ?_);intro w7 ho7 hb7 hz7)
 have HD:=hid (OwnB.rd' ho7 (by simp));replace HL:=hid (HL.o.later hb7);clear ho7 hb7 hz7 hsz hcv2;rcases hcase with ⟨hq,hG⟩|⟨hq,WL,N2,hwl,ha2,hpl⟩
 ·obtain⟨q,hqe⟩:∃ q,planE (nwF F) nw 1 2=q:=⟨_,rfl⟩;rw[hqe]at hq;have hqb:(q==0)=false:=by simpa using hq
  have HMN:=hid (fun W (ad:Option Addr) cd h=>mplan_no M (nwF F) q nw 1 2 cd ad W HS1F.o.ok HS1F.o.short h (by decide) (by omega) (by omega) hqe hq);clear hq hqe;refine(HMN.o _ _ _ HL.o.map).mono ?_;rintro e w8 ⟨rfl,hb⟩;replace HL:=hid (HL.o.later hb);rw[←hG]at HL;clear hb HD hG;go_wp2_with fail;refine(HTR.o _ HL.o.map).mono ?_;rintro e w4 ⟨na,nc,rfl,hrn,hb⟩;replace HL:=hid (HL.o.later hb);have HRN:=hid hrn;clear hb hrn;go_wp2_with fail;refine(mapply_is M G (nwF F) 0 N3 na nc _ HSG.o.ok HSG.o.short8 HL.o.map HRN.o HA3.o).mono ?_;rintro e w5 ⟨rfl,hm5,hg5⟩;replace HL:=hid (HL.o.went hm5 hg5);clear hm5 hg5 HRN;go_wp2_with fail;refine(HS1.o _ HL.o.map).mono ?_;rintro e w6 ⟨sa,sc,rfl,hrd,hb⟩;have hcv3:=hrd.conv_any (c:=sc);replace HL:=hid (HL.o.later hb);clear hb hrd;go_wp2_with fail;clear hcv3;refine(HDE.o _ HL.o.map).mono ?_;rintro e w4 ⟨na,nc,rfl,hrn,hb⟩;replace HL:=hid (HL.o.later hb);have HRN:=hid hrn;clear hb hrn;go_wp2_with fail;refine(mapply_is M (nwF F) F 0 N4 na nc _ HS1F.o.ok HS1F.o.short8 HL.o.map HRN.o HA4.o).mono ?_;rintro e w5 ⟨rfl,hm5,hg5⟩;replace HL:=hid (HL.o.went hm5 hg5);clear hm5 hg5 HRN;go_wp2_with fail;refine(HS0.o _ HL.o.map).mono ?_;rintro e w6 ⟨sa,sc,rfl,hrd,hb⟩;have hcv4:=hrd.conv_any (c:=sc);replace HL:=hid (HL.o.later hb);clear hb hrd;have b0:=HL.o.fb.c0;have b1:=HL.o.fb.c1;go_wp2_with fail;refine(same38_is M F _ _ HSD.o.ok HSD.o.short HL.o.map HL.o.fam).mono ?_;rintro e w10 ⟨rfl,hb⟩;have HZ:=HL.o.B.on hb;clear hb b0 b1 hcv4;go_wp2_with fail;go_ret;exact⟨rfl,HZ⟩
 ·have HPL:=hid hpl;have HA2:=hid ha2;have HWL:=hid hwl;clear hq hpl ha2 hwl;refine(HPL.o _ _ _ HL.o.map HD.o).mono ?_;rintro e w8 ⟨wa,wc,na,nc,rfl,_,hrn,hb⟩;replace HL:=hid (HL.o.later hb);have HRN:=hid hrn;clear hb hrn HD;go_wp2_with fail;refine(mapply_is M (nwF F) G 0 N2 na nc _ HS1F.o.ok HS1F.o.short8 HL.o.map HRN.o HA2.o).mono ?_;rintro e w5 ⟨rfl,hm5,hg5⟩;replace HL:=hid (HL.o.went hm5 hg5);clear hm5 hg5 HRN;go_wp2_with fail;refine(HTR.o _ HL.o.map).mono ?_;rintro e w4 ⟨na,nc,rfl,hrn,hb⟩;replace HL:=hid (HL.o.later hb);have HRN:=hid hrn;clear hb hrn;go_wp2_with fail;refine(mapply_is M G (nwF F) 0 N3 na nc _ HSG.o.ok HSG.o.short8 HL.o.map HRN.o HA3.o).mono ?_;rintro e w5 ⟨rfl,hm5,hg5⟩;replace HL:=hid (HL.o.went hm5 hg5);clear hm5 hg5 HRN;go_wp2_with fail;refine(HS1.o _ HL.o.map).mono ?_;rintro e w6 ⟨sa,sc,rfl,hrd,hb⟩;have hcv3:=hrd.conv_any (c:=sc);replace HL:=hid (HL.o.later hb);clear hb hrd;go_wp2_with fail;clear hcv3;refine(HDE.o _ HL.o.map).mono ?_;rintro e w4 ⟨na,nc,rfl,hrn,hb⟩;replace HL:=hid (HL.o.later hb);have HRN:=hid hrn;clear hb hrn;go_wp2_with fail;refine(mapply_is M (nwF F) F 0 N4 na nc _ HS1F.o.ok HS1F.o.short8 HL.o.map HRN.o HA4.o).mono ?_;rintro e w5 ⟨rfl,hm5,hg5⟩;replace HL:=hid (HL.o.went hm5 hg5);clear hm5 hg5 HRN;go_wp2_with fail;refine(HS0.o _ HL.o.map).mono ?_;rintro e w6 ⟨sa,sc,rfl,hrd,hb⟩;have hcv4:=hrd.conv_any (c:=sc);replace HL:=hid (HL.o.later hb);clear hb hrd;have b0:=HL.o.fb.c0;have b1:=HL.o.fb.c1;go_wp2_with fail;refine(same38_is M F _ _ HSD.o.ok HSD.o.short HL.o.map HL.o.fam).mono ?_;rintro e w10 ⟨rfl,hb⟩;have HZ:=HL.o.B.on hb;clear hb b0 b1 hcv4;go_wp2_with fail;go_ret;exact⟨rfl,HZ⟩
end Go.Proofs.YtpjlignclchgiaaGreat
