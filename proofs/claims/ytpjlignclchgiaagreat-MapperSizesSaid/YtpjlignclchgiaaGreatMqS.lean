/-
  The walk of MapperSizes.
  Conditions: as the theorem says.
-/
import Derived.Test.YtpjlignclchgiaaGreatMqQ
namespace Go.Proofs.YtpjlignclchgiaaGreat
open Go.Lib (hid)
set_option linter.unusedSimpArgs false
set_option linter.unusedVariables false
set_option maxRecDepth 100000
set_option maxHeartbeats 16000000
open Go.RowKit Go.Maps
theorem encX_nine {N:Nat} {x:E} (hx:okB x=true):(encX x).length≤9:=by
 obtain⟨c1,c2,c3,c4,c5⟩:=(okB_iff x).1 hx;unfold encX numsL;simp only[List.flatMap_cons,List.flatMap_nil,List.append_nil,List.length_append];have a:=encI_three (x:=x.a) c2 (by omega);have b:=encI_three (x:=x.n) (by omega) (by omega);have c:=encI_three (x:=x.s) c3 (by omega);omega
theorem encV_le {N:Nat} {v:Vol} (hv:v.ok N):(encV v).length≤48+16*v.l.length:=by
 have h1:=(nameB_len hv.name).2;have h2:=encXs_le 9 v.l fun x hx=>encX_nine (N:=N) (validB_ok hv.valid x hx);have n1:=hv.n1;have n2:=hv.n2;have r0:=hv.r0;have r1:=hv.r1;have hs:=hv.short.1;have a:=encI_three (x:=v.n) (by omega) (by omega);have b:=encI_three (x:=v.r) (by omega) (by omega);have c:=encI_three (x:=(v.l.length:Int)) (by omega) (by omega);unfold encV numsL;simp only[List.flatMap_cons,List.flatMap_nil,List.append_nil,List.length_append];rw[encB_short _ (by omega)];omega
def extN (vs:List Vol):Nat:=(vs.map fun v=>v.l.length).sum
theorem state_le {F:Fam} (hF:F.ok):(stateP F).length≤16+48*F.vs.length+16*extN F.vs:=by
 have hfew:=hF.few;have a:=encI_three (x:=(F.vs.length:Int)) (by omega) (by omega);have key:∀ (vs:List Vol),(∀v∈vs,v.ok F.N)→(vs.flatMap encV).length≤48*vs.length+16*extN vs:=by
  intro vs
  induction vs with
  |nil=>intro _;simp[extN]
  | cons v r ih=>
   intro h;have h1:=ih fun u hu=>h u (by simp[hu]);have h2:=encV_le (h v (by simp));unfold extN at h1 ⊢;rw[List.flatMap_cons,List.length_append,List.length_cons,List.map_cons,List.sum_cons];omega
 have:=key F.vs hF.vol;unfold stateP;rw[List.length_append];omega
theorem ext_small {F:Fam} (hF:F.ok):extN F.vs≤65536*F.vs.length:=by
 have key:∀ (vs:List Vol),(∀v∈vs,v.ok F.N)→extN vs≤65536*vs.length:=by
  intro vs
  induction vs with
  |nil=>intro _;simp[extN]
  | cons v r ih=>
   intro h;have h1:=ih fun u hu=>h u (by simp[hu]);have h2:=(h v (by simp)).short.1;unfold extN at h1 ⊢;rw[List.map_cons,List.sum_cons,List.length_cons];omega
 exact key F.vs hF.vol
theorem ext_take (vs:List Vol) (k:Nat) (h:k<vs.length):extN (vs.take (k+1))=extN (vs.take k)+vs[k].l.length:=by
 unfold extN;rw[List.take_succ_eq_append_getElem h,List.map_append,List.sum_append];simp
theorem LM.stored {w0 W W':World} {M T:Nat} {F G:Fam} {u v x' y':Value} (h:LM w0 W M T F F u v) (hm:MapB W' M G) (hg:W.grownBy W' (some M)) (hf:FamR W' (.agg #[x',y']) G):LM w0 (fam2 W' T x' y') M T G G x' y':=by
 have q1:=h.o1;have q2:=h.o2;have hfb:=h.fb.grown hg (fun e=>by injection e with e;omega);have hg2:=grown_fam2 W' T x' y';have hB:Below w0.heap.size w0 W':=h.B.onGrow hg fun j e=>by injection e with e;omega
 obtain⟨p,q,m1,m2⟩:=hm;exact⟨⟨p,q,m1.far (by omega) x' y',hfb.famV refTy m2⟩,hfb.put x' y',hfb.famR hf,q1,q2,hB.onGrow hg2 fun j e=>by injection e with e;omega⟩
theorem ext_mono (vs:List Vol) (k:Nat):extN (vs.take k)≤extN vs:=by
 have:extN vs=extN (vs.take k)+extN (vs.drop k):=by
  unfold extN;rw[←List.sum_append,←List.map_append,List.take_append_drop]
 omega
theorem law_sizes38 (i:Int) (S:List Step36) (a:Option Addr) (c:Nat) (w:World) (hi:0≤i∧i≤255) (hr:RdS36 w a S):
  Calls Tryz.prog 3 #[.int .u8 i,.slice a S.length c] w fun e w'=>e= .returned (.bool true)∧Below w.heap.size w w':=by
 obtain⟨n,rfl⟩:=Int.eq_ofNat_of_zero_le hi.1;have hn:n≤255:=by omega
 have hlen:=hr.1;by_cases h25:20<S.length
 ·go_enter Tryz.func3,Tryz.ntmps3;go_wp2_with fail;refine(awake38_is _).mono ?_;rintro e w1 ⟨rfl,hb1⟩;go_wp2_with fail;go_ret;exact⟨rfl,hb1⟩
 have hm0:n%50≤65536:=by omega
 have hmod:((n:Int)%50)=((n%50:Nat):Int):=by omega
 obtain⟨m,hm⟩:∃ m,m=n%50:=⟨_,rfl⟩;have HM:=hid hmod;rw[←hm]at hm0 HM;obtain⟨F0,hF0⟩:∃ F,F=(⟨m,[]⟩:Fam):=⟨_,rfl⟩;have HF0:=hid hF0;have HRS:=hid hr;clear hm hmod hF0 hr;go_enter Tryz.func3,Tryz.ntmps3;go_wp2_with fail;refine(awake38_is _).mono ?_;rintro e w0 ⟨rfl,hb0⟩;have HB0:=hid hb0;clear hb0;go_wp2_with fail;rw[HM.o];refine(mnew_yes m _ hm0).mono ?_;rintro e w1 ⟨M,rfl,hM1,hmb,hb⟩;have HMB:=hid hmb;have HB1:=hid (HB0.o.on hb);have hM2:w.heap.size≤M:=by have:=HB0.o.size;omega
 clear hM1 hmb hb HB0;go_wp2_with fail;rw[HM.o];refine(rfnew_is m _ hm0).mono ?_;rintro e w2 ⟨gv,rfl,hg,hb⟩;obtain⟨ra,rn,rc,rfl⟩:=hg.form;have HI:Hid (LM w (w2.alloc (.cells #[.int .i64 m,.slice ra rn rc] 30)) M w2.heap.size F0 F0 (.int .i64 m) (.slice ra rn rc)):=hid (by
  rw[HF0.o]
  exact LM.new (HMB.o.later hb) hg (HB1.o.on hb) hM2)
 have HFS:Hid (F0.sound∧F0.once):=hid (by rw[HF0.o];exact⟨new_sound m hm0,once_new m⟩);clear hg hb hM2 HMB HB1;go_wp2_with fail;generalize w2.alloc (.cells #[.int .i64 m,.slice ra rn rc] 30)=w3 at *;generalize w2.heap.size=T at *;go_loopw [9] (fun i wr=>∃ (k:Nat) (F:Fam) (x y:Value),k≤S.length∧i= .int .i64 k∧F.sound∧F.once∧LM w wr M T F F x y) (fun i _=>S.length-(intOf i).toNat)
 case atStart=>exact⟨0,F0,_,_,Nat.zero_le _,rfl,HFS.o.1,HFS.o.2,HI.o⟩
 case round=>
  clear HI HFS;obtain⟨k,F,x,y,hk,rfl,hsd,hon,hi⟩:=hrel;obtain⟨ra,rn,rc,rfl,rfl⟩:=fam_xy hi.fam;have HI:=hid hi;have HSD:=hid hsd;have HON:=hid hon;clear hi hsd hon;by_cases hlt:k<S.length
  ·obtain ⟨sb,so,rfl,hat⟩:=HRS.o.at (by omega);have hst:=hat k _ (List.getElem?_eq_getElem hlt);generalize S[k]=s at *;have HST:=hid hst;have HSV:=hid (hst.keep HI.o.B);have bk:=hst.ok.k;have bn:=hst.ok.n;have hk0:(0:Int)≤k:=by omega
   have hk1:(k:Int)<S.length:=by omega
   clear hst hat;go_upto_region 14 with fail;have HV:=hid (HI.o.later (Below.refl _ _).drew);have p0:=HI.o.fb.c0;have p1:=HI.o.fb.c1;have s0:=HSV.o.c0;have s1:=HSV.o.c1;have s2:=HSV.o.c2;have s3:=HSV.o.c3;have s4:=HSV.o.c4;have s5:=HSV.o.c5;clear HSV
   go_region_law ((go_simp;go_at_call 15;refine(step38_is M F _ s _ HSD.o HON.o HV.o.map HV.o.fam HST.o.ok).mono ?_;rintro e w5 ⟨gv,N,G,na,nc,rfl,hsp,hg,_,hm5,hg5⟩;obtain⟨ga,gn,gc,rfl⟩:=hg.form;have HSP:=hid hsp;have HBS:=hid (HV.o.stored hm5 hg5 hg);have hTM:T≠M:=(fun e=>by have:=HV.o.o2;omega);have HP5:=hid (HV.o.fb.grown hg5 (fun e=>by injection e with e;exact hTM e.symm));clear hsp hg hm5 hg5;have q0:=HP5.o.c0;have q1:=HP5.o.c1;have q2:=HP5.o.f0;have q3:=HP5.o.f1))
   all_goals
    clear p0 p1 s0 s1 s2 s3 s4 s5 q0 q1 q2 q3 HP5 hTM HI HV;generalize hW9:(w5.setCell ⟨T,0,none⟩ (.int .i64 G.N)).setCell ⟨T,1,none⟩ (.slice ga gn gc)=W9;rw[show fam2 w5 T (.int .i64 G.N) (.slice ga gn gc)=W9 from hW9]at HBS;clear hW9;have hgn:=FamR.len HBS.o.fam;have hfam:=HBS.o.fam;obtain⟨ta,tc,ts,hte,htr,htl,hts,_⟩:=hfam;obtain⟨rfl,rfl,rfl⟩:ga=ta∧gn=ts.length∧gc=tc:=by
     injection hte with hte;have h1:=congrArg Array.toList hte;simp at h1;exact h1
    have hfew:=HSP.o.sound.ok.few;have hex:=ext_small HSP.o.sound.ok;have hst:=state_le HSP.o.sound.ok;have hnl:=HSP.o.len;have h32:ts.length≤32:=by omega
    rw[←hts]at hex hst hgn;have hvl:(ts.map RT.vol).length=ts.length:=List.length_map ..;have HTR:=hid htr;have HGS:=hid HSP.o.sound;have HGO:=hid HSP.o.once;have hs9:=(HST.o.keep HBS.o.B);obtain⟨P,hP⟩:∃ P,stateP G=P:=⟨_,rfl⟩;have HSTT:=hid (fun W (h:MapB W M G)=>mstate_is M G W HGS.o.ok HGS.o.short h);rw[hP]at hst HSTT;obtain⟨vs,hvs⟩:∃ vs,ts.map RT.vol=vs:=⟨_,rfl⟩;rw[hvs]at hex hst hvl hgn;have HVS:=hid hvs;clear hte htr htl hts hfew hP hvs hgn HSP;have s0:=hs9.c0;by_cases h3:3<s.k%8
    ·rw [if_pos h3]at hnl;obtain⟨D,hD⟩:∃ D,dataL s=D:=⟨_,rfl⟩;obtain⟨dm,hdm⟩:∃ m,D.length=m:=⟨_,rfl⟩;have hdn:(dm:Int)=s.n%20:=by rw[←hdm,←hD,dataL_len];omega
     rw[←hdn]at hnl;have hd20:dm<20:=by omega
     have HDA:=hid (fun W=>data38_is s W HST.o.ok);rw[hD,hdm]at HDA;obtain⟨most,hmost⟩:∃ most:Int,48+8*(dm:Int)=most:=⟨_,rfl⟩;rw[hmost]at hnl;have hm0:0≤most∧most≤300:=by omega
     have HMO:=hid hmost;have s1:=hs9.c1;have s2:=hs9.c2;have s3:=hs9.c3;have s4:=hs9.c4;have s5:=hs9.c5;clear hs9 hD hdm hdn hmost;go_wp2_with fail;refine(HDA.o _).mono ?_;rintro e w6 ⟨da,dc,rfl,_,hb⟩;replace HBS:=hid (HBS.o.later hb);replace HTR:=hid (HTR.o.keep hb);clear hb s0 s1 s2 s3 s4 s5 HDA;go_upto_region 18 with fail;rw[HMO.o];generalize w6=W6 at *;clear h3 HMO;generalize wr=wo at *;go_wp2_with fail;go_loopw [13,14] (fun e k wr=>∃ j:Nat,j≤ts.length∧k= .int .i64 j∧e= .int .i64 (extN (vs.take j):Nat)∧Below W6.heap.size W6 wr) (fun _ k _=>ts.length-(intOf k).toNat)
     case atStart=>exact⟨0,Nat.zero_le _,rfl,by simp[extN],Below.refl _ _⟩
     case round=>
      obtain⟨j,hj,rfl,rfl,hBj⟩:=hrel;by_cases hjl:j<ts.length
      ·have HJ:=hid (HBS.o.later hBj);have HBJ:=hid hBj;obtain⟨rb,ro,rfl,hat⟩:=(HTR.o.keep hBj).at (by omega);have q3:=(hat j _ (List.getElem?_eq_getElem hjl)).c3;have he:=ext_take vs j (by omega);have hm:=ext_mono vs (j+1);have hvj:vs[j].l.length=ts[j].l.length:=by
        have:vs[j]? =some ts[j].vol:=by rw[←HVS.o,List.getElem?_map,List.getElem?_eq_getElem hjl];rfl
        rw[List.getElem?_eq_getElem (by omega)]at this;rw[Option.some.inj this];rfl
       rw[hvj]at he;generalize ts[j]=z at *;obtain⟨e1,he1⟩:∃ e,extN (vs.take j)=e:=⟨_,rfl⟩;obtain⟨e2,he2⟩:∃ e,extN (vs.take (j+1))=e:=⟨_,rfl⟩;rw[he1]at he ⊢;rw[he2]at he hm;have HE:=hid he;have HE2:=hid he2;have hj0:(0:Int)≤j:=by omega
       have hj1:(j:Int)<ts.length:=by omega
       have hb9:e1+z.l.length≤3000000:=by omega
       have t1:=HJ.o.fb.c1;clear hat hvj he he1 he2 hm hBj;go_wp2_with fail;go_roundw
       case rel=>exact⟨j+1,by omega,by go_num,by rw[HE2.o,HE.o];go_num,HBJ.o⟩
       case measure=>simp[intOf];omega
      ·have hjn:j=ts.length:=by omega
       subst hjn;have htk:vs.take ts.length=vs:=List.take_of_length_le (by omega);rw[htk];obtain⟨Ex,hEx⟩:∃ E,extN vs=E:=⟨_,rfl⟩;rw[hEx]at hex hst ⊢;have HL:=hid (HBS.o.later hBj);clear hBj htk hEx;have t1:=HL.o.fb.c1;go_upto_region 23 with fail;clear t1;have HLd:=hid (HL.o.later (Below.refl _ _).drew);have hw1:IntKind.i64.wrap (48*(ts.length:Int))=48*(ts.length:Int):=IntWalk.i64_in _ (by omega);have hw2:IntKind.i64.wrap (16+48*(ts.length:Int))=16+48*(ts.length:Int):=IntWalk.i64_in _ (by omega);have hw3:IntKind.i64.wrap (16*(Ex:Int))=16*(Ex:Int):=IntWalk.i64_in _ (by omega);have hw4:IntKind.i64.wrap (16+48*(ts.length:Int)+16*(Ex:Int))=16+48*(ts.length:Int)+16*(Ex:Int):=IntWalk.i64_in _ (by omega);have hd1:decide (most<(N.length:Int))=false:=decide_eq_false (by omega);have hd2:decide (16+48*(ts.length:Int)+16*(Ex:Int)<(P.length:Int))=false:=decide_eq_false (by omega);have hnd1:¬ (most<(N.length:Int)):=by omega
       have hnd2:¬ (16+48*(ts.length:Int)+16*(Ex:Int)<(P.length:Int)):=by omega
       clear HL
       go_region_held3 (fun w'=>w'.cell? ⟨T,1,none⟩=some (.slice ga ts.length gc))
        (first
         |with_reducible exact HLd.o.fb.c1
         |with_reducible exact HL9.o.fb.c1)
        ((go_at_call 17;(with_reducible refine(HSTT.o _ HLd.o.map).mono ?_);rintro e w9 ⟨sa,sc,rfl,_,hb9⟩;have HL9:=hid (HLd.o.later hb9);clear hb9))
       all_goals
        clear hw1 hw2 hw3 hw4 HLd;go_wp2_with fail;go_roundw
        case rel=>exact⟨k+1,G,_,_,by omega,by go_num,HGS.o,HGO.o,HL9.o⟩
        case measure=>simp[intOf];omega
    ·rw [if_neg h3]at hnl;obtain⟨most,hmost⟩:∃ most:Int,48=most:=⟨_,rfl⟩;have hnl2:(N.length:Int)≤most:=by omega
     have hm0:0≤most∧most≤300:=by omega
     have HMO:=hid hmost;clear hs9 hmost hnl;have hnl:=hnl2;clear hnl2;go_upto_region 18 with fail;rw[HMO.o];generalize W9=W6 at *;clear s0;clear h3 HMO;generalize wr=wo at *;go_wp2_with fail;go_loopw [13,14] (fun e k wr=>∃ j:Nat,j≤ts.length∧k= .int .i64 j∧e= .int .i64 (extN (vs.take j):Nat)∧Below W6.heap.size W6 wr) (fun _ k _=>ts.length-(intOf k).toNat)
     case atStart=>exact⟨0,Nat.zero_le _,rfl,by simp[extN],Below.refl _ _⟩
     case round=>
      obtain⟨j,hj,rfl,rfl,hBj⟩:=hrel;by_cases hjl:j<ts.length
      ·have HJ:=hid (HBS.o.later hBj);have HBJ:=hid hBj;obtain⟨rb,ro,rfl,hat⟩:=(HTR.o.keep hBj).at (by omega);have q3:=(hat j _ (List.getElem?_eq_getElem hjl)).c3;have he:=ext_take vs j (by omega);have hm:=ext_mono vs (j+1);have hvj:vs[j].l.length=ts[j].l.length:=by
        have:vs[j]? =some ts[j].vol:=by rw[←HVS.o,List.getElem?_map,List.getElem?_eq_getElem hjl];rfl
        rw[List.getElem?_eq_getElem (by omega)]at this;rw[Option.some.inj this];rfl
       rw[hvj]at he;generalize ts[j]=z at *;obtain⟨e1,he1⟩:∃ e,extN (vs.take j)=e:=⟨_,rfl⟩;obtain⟨e2,he2⟩:∃ e,extN (vs.take (j+1))=e:=⟨_,rfl⟩;rw[he1]at he ⊢;rw[he2]at he hm;have HE:=hid he;have HE2:=hid he2;have hj0:(0:Int)≤j:=by omega
       have hj1:(j:Int)<ts.length:=by omega
       have hb9:e1+z.l.length≤3000000:=by omega
       have t1:=HJ.o.fb.c1;clear hat hvj he he1 he2 hm hBj;go_wp2_with fail;go_roundw
       case rel=>exact⟨j+1,by omega,by go_num,by rw[HE2.o,HE.o];go_num,HBJ.o⟩
       case measure=>simp[intOf];omega
      ·have hjn:j=ts.length:=by omega
       subst hjn;have htk:vs.take ts.length=vs:=List.take_of_length_le (by omega);rw[htk];obtain⟨Ex,hEx⟩:∃ E,extN vs=E:=⟨_,rfl⟩;rw[hEx]at hex hst ⊢;have HL:=hid (HBS.o.later hBj);clear hBj htk hEx;have t1:=HL.o.fb.c1;go_upto_region 23 with fail;clear t1;have HLd:=hid (HL.o.later (Below.refl _ _).drew);have hw1:IntKind.i64.wrap (48*(ts.length:Int))=48*(ts.length:Int):=IntWalk.i64_in _ (by omega);have hw2:IntKind.i64.wrap (16+48*(ts.length:Int))=16+48*(ts.length:Int):=IntWalk.i64_in _ (by omega);have hw3:IntKind.i64.wrap (16*(Ex:Int))=16*(Ex:Int):=IntWalk.i64_in _ (by omega);have hw4:IntKind.i64.wrap (16+48*(ts.length:Int)+16*(Ex:Int))=16+48*(ts.length:Int)+16*(Ex:Int):=IntWalk.i64_in _ (by omega);have hd1:decide (most<(N.length:Int))=false:=decide_eq_false (by omega);have hd2:decide (16+48*(ts.length:Int)+16*(Ex:Int)<(P.length:Int))=false:=decide_eq_false (by omega);have hnd1:¬ (most<(N.length:Int)):=by omega
       have hnd2:¬ (16+48*(ts.length:Int)+16*(Ex:Int)<(P.length:Int)):=by omega
       clear HL
       go_region_held3 (fun w'=>w'.cell? ⟨T,1,none⟩=some (.slice ga ts.length gc))
        (first
         |with_reducible exact HLd.o.fb.c1
         |with_reducible exact HL9.o.fb.c1)
        ((go_at_call 17;(with_reducible refine(HSTT.o _ HLd.o.map).mono ?_);rintro e w9 ⟨sa,sc,rfl,_,hb9⟩;have HL9:=hid (HLd.o.later hb9);clear hb9))
       all_goals
        clear hw1 hw2 hw3 hw4 HLd;go_wp2_with fail;go_roundw
        case rel=>exact⟨k+1,G,_,_,by omega,by go_num,HGS.o,HGO.o,HL9.o⟩
        case measure=>simp[intOf];omega
  ·have hkn:k=S.length:=by omega
   have HZ:=hid HI.o.B;clear HI;go_wp2_with fail;go_ret;exact⟨rfl,HZ.o⟩
end Go.Proofs.YtpjlignclchgiaaGreat
