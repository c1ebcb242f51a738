/- tegulalaw48: what a write or a trim leaves as it was. Conditions: as each theorem says. -/
import Derived.Test.YtphfgbbbejloaaaGreatDoorMgD
set_option linter.unusedSimpArgs false
set_option linter.unusedVariables false
set_option maxRecDepth 100000
set_option maxHeartbeats 16000000
namespace Go.Proofs.YtphfgbbbejloaaaGreatDoor
open Go.RowKit Go.Maps
open Go.Proofs.Tryz
section
variable {α:Type} {z:α} {c:Cmd α} {m m':Mo α}
theorem get_insN (v:OV α) {nm:LU} (h:v.nm≠nm):∀ L:List (OV α),xZ (aBh v L) nm=xZ L nm
 | []=>by simp[aBh,xZ,h]
 | w::r=>by
  have ih:=get_insN v h r;unfold xZ at ih ⊢;unfold aBh
  split
  ·simp[h]
  ·rw[List.find?_cons,List.find?_cons,ih]
theorem get_insE (v:OV α):∀ L:List (OV α),(∀w∈L,w.nm≠v.nm)->xZ (aBh v L) v.nm=some v
 | [],_=>by simp[aBh,xZ]
 | w::r,h=>by
  have ih:=get_insE v r fun x hx=>h x (List.mem_cons_of_mem _ hx);have hw:=h w List.mem_cons_self;unfold xZ at ih ⊢;unfold aBh
  split
  ·simp
  ·rw[List.find?_cons,ih,show(w.nm==v.nm)=false by simpa using hw]
theorem get_putO (vs:List (OV α)) (v:OV α) (nm:LU):xZ (KV vs v) nm=if nm=v.nm then some v else xZ vs nm:=by
 unfold KV
 split
 ·rename_i e
  rw[e];exact get_insE v _ fun w hw=>by simpa [aBy]using (List.mem_filter.1 hw).2
 ·rename_i e
  rw[get_insN v (fun q=>e q.symm)];unfold xZ aBy
  induction vs with
  |nil=>rfl
  | cons w r ih=>
   have hb:(v.nm==nm)=false:=by simpa using fun x=>e (Eq.symm x)
   by_cases q:w.nm=v.nm
   ·simp[List.find?_cons,q,ih,hb]
   ·simp[List.find?_cons,q,ih]
theorem valid_range (h:c.valid=true) (k:c.kind=2∨c.kind=3):0<=c.p/\1<=c.n/\c.p+c.n<=65536:=by
 unfold Cmd.valid at h;simp only[Qd]at h;have hk:=h.2.2;unfold Cmd.aJj at hk;rw[Qe oM]at hk;rcases k with k|k
 ·rw[Qf k]at hk;simp only[Qd,lK,Qc]at hk;omega
 ·rw[Qe oM,Qf k]at hk;simp only[Qd,lK,Qc]at hk;omega
theorem keep_other (hm:m.fine) (h:Ap z m c m') (hk:c.kind=2∨c.kind=3) (nm:LU) (p:Int) (he:(aX m.cur.F nm p).2.2=0):
    (aX m'.cur.F nm p).2.2=0/\(vF z m'.cur nm p=vF z m.cur nm p∨(nm=c.vol/\0<=c.p/\c.p<=p/\p<c.p+c.n/\c.p+c.n<=65536)):=by
  unfold Ap at h
  split at h
  · rename_i q
    rw [Qe oM]at h;have hF:=hm.cur.sound.ok;have hF':=(h.1.fine hm.cur (fun k=>by omega)).sound.ok;have hO:=Jj hF h.1 q.2.1;have hl:=Ay m.cur nm p;rw[he]at hl;obtain⟨v,hv,hin⟩:∃ v,xZ (obS m.cur) nm=some v/\inB p 1 v.n=true:=by
      cases hv:xZ (obS m.cur) nm with
      |none=>rw[hv]at hl;cases hl
      | some v=>
        rw[hv]at hl;simp only at hl;refine⟨v,rfl,?_⟩;cases hq:inB p 1 v.n
        · rw[Qf hq]at hl;cases hl
        · rfl
    have hp:=(iK _ _ _).1 hin;obtain⟨g,hg⟩:∃ g:Nat->Option α,zW z (obS m.cur) c=match xZ (obS m.cur) c.vol with
        |none=>obS m.cur
        |some v=>KV (obS m.cur) ⟨v.nm,v.n,v.r,fun i=>if c.p<=i/\(i:Int)<c.p+c.n then g i else v.c i⟩:=by
      rcases hk with k|k
      · exact⟨fun i=>some (c.data.getD (i-c.p.toNat) z),by unfold zW;exact Qf k⟩
      · exact⟨fun _=>none,by unfold zW;exact(Qe oM).trans (Qf k)⟩
    rw[hg]at hO;have hr:=valid_range q.1 hk;rw[Ay,JO hF' _ _ hp.1,JO hF _ _ hp.1,hv]
    cases hu:xZ (obS m.cur) c.vol with
    | none=>
      rw[hu]at hO;simp only at hO;rw[hO,hv];exact⟨by simp[hin],.inl rfl⟩
    | some u=>
      rw[hu]at hO;simp only at hO;have hn:u.nm=c.vol:=by simpa using List.find?_some hu
      rw[hO,get_putO,hv];simp only;by_cases e:nm=u.nm
      · rw [Qf e];obtain rfl:u=v:=by rw[e,hn,hu]at hv;exact Qv hv
        refine⟨by simp[hin],?_⟩;by_cases hq:c.p<=p/\p<c.p+c.n
        · exact .inr ⟨e.trans hn,hr.1,hq.1,hq.2,hr.2.2⟩
        · left
          simp only;rw[Qe oM]
      · rw[Qe e];exact⟨by simp[hin],.inl rfl⟩
  · rw[h];exact⟨he,.inl rfl⟩
end
structure CkB4 (w W:Wd) (X:Nat) (m:Mo Bk) (T:Nat) (s:MSt Bk) (va:OA) (vn vc:Nat) (da:OA) (dc:Nat) (pa:OA) (pn pc:Nat) (c:Cmd Bk) (ca:OA) (ck:Nat):Prop where
 mo:MoB W X m
 bx:Bx4 W T 34 (.int .i64 s.F.N) (.slice va vn vc) (.slice da s.F.N dc) (.slice pa pn pc)
 st:RSt W va vn vc da s
 cb:CB W w.heap.size c ca ck
 g:Below w.heap.size w W
section
variable {w W W':Wd} {X:Nat} {m m':Mo Bk} {T:Nat} {s:MSt Bk} {va:OA} {vn vc:Nat} {da:OA} {dc:Nat} {pa:OA} {pn pc:Nat} {c:Cmd Bk} {ca:OA} {ck:Nat}
theorem CkB4.aIx (h:CkB4 w W X m T s va vn vc da dc pa pn pc c ca ck) (hb:Below W.heap.size W W'):CkB4 w W' X m T s va vn vc da dc pa pn pc c ca ck:=
 ⟨h.mo.aIx hb,h.bx.aIx hb,h.st.keep hb,h.cb.aIx hb,h.g.on hb⟩
theorem CkB4.went (h:CkB4 w W X m T s va vn vc da dc pa pn pc c ca ck) (hm:MoB W' X m') (hg:W.grownBy W' (some X)) (hT:T≠X) (hX:w.heap.size<X):CkB4 w W' X m' T s va vn vc da dc pa pn pc c ca ck:=
 ⟨hm,h.bx.grown hg (fun e=>hT (Qv e).symm),h.st.grown h.mo.mx hg,h.cb.grown hg oM,h.g.aJa hg (fun j e=>by injection e with e;omega)⟩
theorem CkB4.fam (h:CkB4 w W X m T s va vn vc da dc pa pn pc c ca ck):∃ ts:List RT,ts.length=vn/\RdR W va ts/\ts.map RT.vol=s.F.vs:=by
 obtain⟨_,_,hf,_⟩:=h.st;obtain⟨a,c,ts,he,hr,_,hts,_⟩:=hf;injection he with he;have he:=congrArg Array.toList he;simp at he;obtain⟨rfl,rfl,rfl⟩:=he;exact⟨ts,rfl,hr,hts⟩
end
theorem clones_law {m g m':Mo Bk} {c:Cmd Bk} (hs:FL m g) (fm:m.fine) (fg:g.fine) (h:Ap Bk.zero m c m') (hk:c.kind=2∨c.kind=3) {v:Vol} (hv:v∈g.cur.F.vs) (q:Nat) (hq:(q:Int)<v.n):
  (aX m'.cur.F v.nm q).2.2=0/\(aX g.cur.F v.nm q).2.2=0/\(vF Bk.zero m'.cur v.nm q=vF Bk.zero g.cur v.nm q∨(v.nm=c.vol/\0<=c.p/\c.p<=q/\(q:Int)<c.p+c.n/\c.p+c.n<=65536)):=by
 obtain⟨σ,hσ⟩:=hs.cur;have hg:(aX g.cur.F v.nm q).2.2=0:=by rw[Uq (rH fg.cur.sound.ok.sorted hv) oM hq]
 have hm:(aX m.cur.F v.nm q).2.2=0:=by rw[<-(hσ.a.lookup v.nm q).1];exact hg
 obtain⟨h1,h2⟩:=keep_other fm h hk v.nm q hm;exact⟨h1,hg,by rw[Nf hσ];exact h2⟩
theorem in16 {nm vol:LU} {q:Nat} {cp cn d:Int} {u1 u2 u3:Bool} (h:(nm==vol)=u1/\decide ((q:Int)>=cp)=u2/\decide (d<cn)=u3/\IntKind.i64.wrap ((q:Int)-cp)=d/\q<=65536) (r:nm=vol/\0<=cp/\cp<=q/\(q:Int)<cp+cn/\cp+cn<=65536):(u1&&(u2&&u3))=true:=by
 obtain⟨h1,h2,h3,hd,hq⟩:=h;obtain⟨r1,r2,r3,r4,r5⟩:=r;have hw:=hd.symm.trans (IntWalk.i64_in _ oM);rw[<-h1,<-h2,<-h3,r1,Qo (show(q:Int)>=cp by omega),Qo (show d<cn by omega)];simp
theorem law_clones48 (n:Nat) (L:List CV) (a:OA) (c:Nat) (x:CV) (w:Wd) (hn:n<=255) (hr:FM w a L) (hx:x.fit w):
  Calls prog 5 #[.int .u8 n,.slice a L.length c,cmV x.c x.a x.k] w (RB w (.bool true)):=by
 obtain ⟨⟨tag,kind,order,force,vol,oth,cp,cn,data⟩,xa,xk⟩:=x;have hk0:=(bQ w).aIw (.cells (bB ⟨tag,kind,order,force,vol,oth,cp,cn,data⟩ xa xk) 48);have HC0:=hD (CB.new w _ rfl ⟨tag,kind,order,force,vol,oth,cp,cn,data⟩ xa xk 48);have HR0:=hD (hr.keep hk0);have HB0:=hD hk0;have HXF:=hD hx;clear hx hk0 hr;unfold cmV;unfold bB at HC0 HR0 HB0;simp only at HC0 HR0 HB0 ⊢;obtain⟨q,hq⟩:∃ q,(Dk L&&decide (L.length<=20))=q:=⟨_,rfl⟩;have HQ:=hD hq;clear hq;have hcase:q=false∨(q=true/\ ¬kind=2/\ ¬kind=3)∨(q=true/\(kind=2∨kind=3)/\40<data.length)∨(q=true/\(kind=2∨kind=3)/\data.length<=40):=by
  cases q
  ·exact .inl rfl
  ·by_cases h2:kind=2∨kind=3
   ·by_cases h3:40<data.length
    ·exact .inr (.inr (.inl ⟨rfl,h2,h3⟩))
    ·exact .inr (.inr (.inr ⟨rfl,h2,oM⟩))
   ·exact .inr (.inl ⟨rfl,oM,oM⟩)
 go_enter func5,ntmps5;go_upto_region 1 with fail;generalize w.alloc (.cells #[.int .i64 tag,.int .i64 kind,.int .i64 order,.bool force,nmV vol,nmV oth,.int .i64 cp,.int .i64 cn,.slice xa data.length xk] 48)=W0 at HC0 HR0 HB0 ⊢;go_wp2_with fail;refine(Fz _).m ?_;rintro e w1 ⟨rfl,hb⟩;have HC1:=hD (HC0.o.aIx hb);have HR1:=hD (HR0.o.keep hb);have HB1:=hD (HB0.o.on hb);clear hb HC0 HR0 HB0;go_upto_region 3 with fail;rcases hcase with rfl|⟨rfl,h2,h3⟩|⟨rfl,h2,h3⟩|⟨rfl,h2,h3⟩
 ·go_wp2_with fail;refine(GM L a c 20 _ HR1.o oM _ HQ.o).m ?_;rintro e w2 ⟨rfl,hb⟩;have HB2:=hD (HB1.o.on hb);clear hb;go_wp2_with fail;go_ret;exact⟨rfl,HB2.o⟩
 ·have h2':(kind != 2)=true:=by simpa using h2
  have h3':(kind != 3)=true:=by simpa using h3
  clear h2 h3;go_wp2_with fail;refine(GM L a c 20 _ HR1.o oM _ HQ.o).m ?_;rintro e w2 ⟨rfl,hb⟩;have HB2:=hD (HB1.o.on hb);have c1:=(HC1.o.aIx hb).c1;simp only at c1;clear hb;go_wp2_with fail;go_ret;exact⟨rfl,HB2.o⟩
 ·have h4:((40:Int)<(data.length:Int)):=oM
  clear h3;rcases h2 with rfl|rfl
  all_goals
   go_wp2_with fail;refine(GM L a c 20 _ HR1.o oM _ HQ.o).m ?_;rintro e w2 ⟨rfl,hb⟩;have HB2:=hD (HB1.o.on hb);have c1:=(HC1.o.aIx hb).c1;have c8:=(HC1.o.aIx hb).c8;simp only at c1 c8;clear hb;go_wp2_with fail;go_ret;exact⟨rfl,HB2.o⟩
 ·have h4 :¬ ((40:Int)<(data.length:Int)):=oM
  have HD40:=hD h3;clear h3;have hf3:=Bool.and_eq_true_iff.1 HQ.o;have HFEW:=hD hf3.1;have HL:Hid (L.length<=20):=hD (Qt hf3.2);clear hf3;rcases h2 with rfl|rfl
  all_goals
   go_wp2_with fail;refine(GM L a c 20 _ HR1.o oM _ HQ.o).m ?_;rintro e w2 ⟨rfl,hb⟩;have HC2:=hD (HC1.o.aIx hb);have HR2:=hD (HR1.o.keep hb);have HB2:=hD (HB1.o.on hb);have c1:=HC2.o.c1;have c8:=HC2.o.c8;simp only at c1 c8;clear hb HC1 HR1 HB1 HQ;go_upto_region 5 with fail;clear c1 c8 h4
   as_aux_lemma=>
   go_wp2_with fail;refine(Ic n L a c _ hn HR2.o HFEW.o (by have:=HL.o;omega)).m ?_;rintro e w3 ⟨X,m,g,p,pa,pc,ps,rfl,hm,hg,hs,fm,fg,hpl,hx,hb⟩;obtain⟨va,vn,vc,da,dc,s⟩:=p;obtain rfl:s=g.cur:=hg.cur;have hk4:=(bQ w3).aIw (.cells #[.int .i64 g.cur.F.N,.slice va vn vc,.slice da g.cur.F.N dc,.slice pa ps.length pc] 34);have HKC:=hD (CkB4.mk (w:=w) (pn:=ps.length) (hm.aIx hk4) (Bx4.new w3 _ rfl (.int .i64 g.cur.F.N) (.slice va vn vc) (.slice da g.cur.F.N dc) (.slice pa ps.length pc) 34) (RSt.keep hg.st hk4) ((HC2.o.aIx hb).aIx hk4) ((HB2.o.on hb).on hk4));have HX:Hid (w.heap.size<X):=hD (by have:=HC2.o.lt;omega);have HXT:Hid (w3.heap.size≠X):=hD (by have:=hm.lt;omega);have HPL:Hid (m.past.length<=10000):=hD (by have:=HL.o;omega);have HSIM:=hD hs;have HFM:=hD fm;have HFG:=hD fg;clear hb hk4 hm hg hs fm fg hpl hx HC2 HR2 HB2;unfold rmV;simp only;go_upto_region 8 with fail;generalize w3.alloc (.cells #[.int .i64 g.cur.F.N,.slice va vn vc,.slice da g.cur.F.N dc,.slice pa ps.length pc] 34)=W3 at HKC ⊢;generalize w3.heap.size=T3 at HKC HXT ⊢;obtain⟨c0,c1,c2,c3,c4,c5,c6,c7,c8⟩:=HKC.o.cb;simp only at c0 c1 c2 c3 c4 c5 c6 c7 c8;have HAP:=hD (fun W h1 h2=>yX X m ⟨tag,_,order,force,vol,oth,cp,cn,data⟩ xa xk W h1 HFM.o HPL.o HXF.o.fit h2 (fun e=>by simp at e));unfold JY cmV at HAP;simp only at HAP;go_wp2_with fail;refine(HAP.o _ HKC.o.mo (RdB.keep (HXF.o.dat (by have:=HD40.o;simp only;omega)) HKC.o.g)).m ?_;rintro e w4 ⟨a3,k3,m',rfl,hap,hmo,_,hgr⟩;have HAPM:=hD hap;have HK4:=hD (HKC.o.went hmo hgr HXT.o HX.o);clear hap hmo hgr HKC HAP c0 c1 c2 c3 c4 c5 c6 c7 c8 HXT HX HPL;obtain⟨ts,hvn,hrow,hts⟩:=HK4.o.fam;subst hvn;have h32:=(kE HFG.o.cur.sound.ok hts).2;have HROW:=hD hrow;have HTS:=hD hts;clear hrow hts;have HLAW:=hD (fun v (hv:v∈g.cur.F.vs) q hq=>clones_law HSIM.o HFM.o HFG.o HAPM.o sM hv q hq);have HFM':Hid m'.fine:=hD (HAPM.o.fine HFM.o (fun e=>by simp at e));clear HSIM HAPM HFM
   as_aux_lemma=>
   go_wp2_with fail;go_loopw [10] (fun i wr=>∃ k:Nat,k<=ts.length/\i= .int .i64 k/\Below w4.heap.size w4 wr) (fun i _=>ts.length-(intOf i).toNat)
   case atStart=>exact⟨0,Yf _,rfl,bR⟩
   case round=>
    obtain⟨k,hk,rfl,hB⟩:=hrel;have HM:=hD (HK4.o.aIx hB);have HRW:=hD (HROW.o.keep hB);have HBL:=hD hB;clear hB;have b0:=HM.o.bx.c0;have b1:=HM.o.bx.c1;by_cases hlt:k<ts.length
    ·obtain ⟨b,o,rfl,hat⟩:=HRW.o.at oM;have hat2:=hat k _ (Qa hlt);have hmem:ts[k].vol∈g.cur.F.vs:=by rw[<-HTS.o];exact Yr (Qm hlt)
     generalize ts[k]=z at *;obtain⟨nm,nn,r,za,zc,l⟩:=z;obtain⟨e0,e1,e2,e3⟩:=hat2;have hok:=HFG.o.cur.sound.ok.vol _ hmem;have HNL:Hid (nm.length<=maxLen):=hD (pU hok.name);have HLW:=hD (fun q hq=>HLAW.o _ hmem q hq);obtain⟨nz,hnn⟩:=Qr (show 0<=nn by have:1<=nn:=hok.n1;omega);have hnn2:nz<=65536:=by have:nn<=65536:=hok.n2;omega
     subst hnn;have HNN:=hD hnn2;clear hok hmem hat hnn2;have hk0:(0:Int)<=k:=oM
     have hk1:(k:Int)<ts.length:=oM
     have HX:=hD (VX.new wr _ rfl ⟨nm,nz,r,za,zc,l⟩ 54);have hkv:=(bQ wr).aIw (.cells #[nmV nm,.int .i64 nz,.int .i64 r,.slice za l.length zc] 54);go_upto_region 13 with fail;have HM7:=hD (HM.o.aIx hkv);have HBK:=hD (HBL.o.on hkv);clear e0 e1 e2 e3 b0 b1 hkv HM HBL HRW;generalize wr.alloc (.cells #[nmV nm,.int .i64 nz,.int .i64 r,.slice za l.length zc] 54)=W7 at *;generalize wr.heap.size=T7 at*
     as_aux_lemma=>
     go_wp2_with fail;go_loopw [12] (fun i wx=>∃ q:Nat,q<=nz/\i= .int .i64 q/\Below W7.heap.size W7 wx) (fun i _=>nz-(intOf i).toNat)
     case atStart=>exact⟨0,oM,rfl,bR⟩
     case round=>
      obtain⟨q,hq,rfl,hB2⟩:=hrel;have HMA:=hD (HM7.o.aIx hB2);have HXA:=hD (HX.o.aIx hB2);have HBA:=hD hB2;clear hB2;have x0:=HXA.o.x0;have x1:=HXA.o.x1;by_cases hlt2:q<nz
      ·as_aux_lemma=>
       have HNUM:Hid (q+1<=nz/\k<ts.length/\nz<=65536):=hD ⟨hlt2,hlt,HNN.o⟩;have hl:(aX m'.cur.F nm q).2.2=0/\(aX g.cur.F nm q).2.2=0/\(vF Bk.zero m'.cur nm q=vF Bk.zero g.cur nm q∨(nm=vol/\0<=cp/\cp<=q/\(q:Int)<cp+cn/\cp+cn<=65536)):=HLW.o q (by show(q:Int)<nz;omega);obtain⟨y,hy⟩:∃ y,vF Bk.zero m'.cur nm q=y:=⟨_,rfl⟩;obtain⟨z,hz⟩:∃ z,vF Bk.zero g.cur nm q=z:=⟨_,rfl⟩;rw[hy,hz]at hl;have HD:=hD hl.2.2;have HRA:=hD (fun W (h:MoB W X m')=>BI X m' nm q W h HFM'.o.cur.sound.ok HNL.o (by have:=HNUM.o;unfold gJ;omega) y hy 0 hl.1);have HRB:=hD (fun W (h:RSt W (some ⟨b,o,none⟩) ts.length vc da g.cur)=>GJ (rsV g.cur.F.N (some ⟨b,o,none⟩) ts.length vc da dc) g.cur nm q W HFG.o.cur.sound.ok ⟨some ⟨b,o,none⟩,ts.length,vc,da,dc,rfl,h⟩ HNL.o z hz 0 hl.2.1);clear hy hz hl;obtain⟨y0,y1,y2,y3,y4,y5,y6,y7⟩:=y;obtain⟨z0,z1,z2,z3,z4,z5,z6,z7⟩:=z;unfold Rh at HRA HRB;unfold Bk.v at HRA HRB;simp only at HRA HRB;go_upto_region 16 with fail
       go_cut [13] from 73 to 93 (fun v wz=>∃ u:Bool,v= .bool u/\wr=wz/\Hid ((⟨y0,y1,y2,y3,y4,y5,y6,y7⟩:Bk)=⟨z0,z1,z2,z3,z4,z5,z6,z7⟩∨u=true))
       case first=>
        have c4:=HMA.o.cb.c4;have c6:=HMA.o.cb.c6;have c7:=HMA.o.cb.c7;simp only at c4 c6 c7;obtain⟨d,hd⟩:∃ d,IntKind.i64.wrap ((q:Int)-cp)=d:=⟨_,rfl⟩;obtain⟨u1,h1⟩:∃ u,(nm==vol)=u:=⟨_,rfl⟩;obtain⟨u2,h2⟩:∃ u,decide ((q:Int)>=cp)=u:=⟨_,rfl⟩;obtain⟨u3,h3⟩:∃ u,decide (d<cn)=u:=⟨_,rfl⟩;have HU:=hD (And.intro h1 (And.intro h2 (And.intro h3 (And.intro hd (show q<=65536 by have:=HNUM.o;omega)))));clear HRA HRB HMA HXA hq hk0 hk1 hlt hk hlt2;cases u1 <;> cases u2 <;> cases u3
        all_goals
         go_wp2_with fail;go_meet;exact⟨_,rfl,rfl,hD (HD.o.imp id fun r=>in16 HU.o r)⟩
       case rest=>
        obtain⟨u,rfl,rfl,HU⟩:=hcut;go_wp2_with fail;refine(HRA.o _ HMA.o.mo).m ?_;rintro e wa ⟨rfl,hb⟩;have hka:=hb.aIw (.cells (iW ⟨y0,y1,y2,y3,y4,y5,y6,y7⟩) 56);have HYA:=hD (RB8.new wa wa ⟨y0,y1,y2,y3,y4,y5,y6,y7⟩ 56 bR);have HMB:=hD (HMA.o.aIx hka);have HXB:=hD (HXA.o.aIx hka);have HBB:=hD (HBA.o.on hka);clear hb hka x0 x1 HMA HXA HBA HRA;clear hlt2 hq hk0 hk1 hlt hk;go_upto_region 18 with fail;generalize wa.alloc (.cells #[.int .u8 y0,.int .u8 y1,.int .u8 y2,.int .u8 y3,.int .u8 y4,.int .u8 y5,.int .u8 y6,.int .u8 y7] 56)=WA at HYA HMB HXB HBB ⊢;generalize wa.heap.size=TA at HYA ⊢;have x0:=HXB.o.x0;have b0:=HMB.o.bx.c0;have b1:=HMB.o.bx.c1;have b2:=HMB.o.bx.c2;go_wp2_with fail;refine(HRB.o _ HMB.o.st).m ?_;rintro e wb ⟨rfl,hb⟩;have hkb:=hb.aIw (.cells (iW ⟨z0,z1,z2,z3,z4,z5,z6,z7⟩) 56);have HYB:=hD (RB8.new wb wb ⟨z0,z1,z2,z3,z4,z5,z6,z7⟩ 56 bR);have HYC:=hD (HYA.o.aIx hkb);have HBC:=hD (HBB.o.on hkb);clear hb hkb x0 b0 b1 b2 HMB HXB HBB HRB HYA;go_upto_region 19 with fail;generalize wb.alloc (.cells #[.int .u8 z0,.int .u8 z1,.int .u8 z2,.int .u8 z3,.int .u8 z4,.int .u8 z5,.int .u8 z6,.int .u8 z7] 56)=WB at HYB HYC HBC ⊢;generalize wb.heap.size=TB at HYB ⊢;cases u
        case' false=>
         obtain⟨rfl,rfl,rfl,rfl,rfl,rfl,rfl,rfl⟩:=Bk.mk.inj (HU.o.resolve_right sM);obtain⟨g0,g1,g2,g3,g4,g5,g6,g7⟩:=HYC.o.at';obtain⟨h0,h1,h2,h3,h4,h5,h6,h7⟩:=HYB.o.at';simp only[Nat.zero_mul,Nat.zero_add]at g0 g1 g2 g3 g4 g5 g6 g7 h0 h1 h2 h3 h4 h5 h6 h7;have hneq:=fun W=>uY ⟨y0,y1,y2,y3,y4,y5,y6,y7⟩ ⟨y0,y1,y2,y3,y4,y5,y6,y7⟩ 9998 W;unfold Bk.v at hneq;simp only[Nat.reduceAdd,decide_true]at hneq
        all_goals
         go_wp2_with fail;go_roundw
         all_goals
          obtain⟨hn1,hn2,hn3⟩:=HNUM.o;have hw9:wrap64 ((q:Int)+1)=q+1:=by unfold wrap64;omega
         case rel=>exact⟨q+1,hn1,by rw[hw9];rfl,HBC.o⟩
         case measure=>rw[hw9];simp[intOf];omega
      ·obtain rfl:q=nz:=oM
       go_wp2_with fail;go_roundw
       case rel=>exact⟨k+1,oM,by go_num,HBK.o.on HBA.o⟩
       case measure=>simp[intOf];omega
    ·obtain rfl:k=ts.length:=oM
     go_wp2_with fail;go_ret;exact⟨rfl,HM.o.g⟩
end Go.Proofs.YtphfgbbbejloaaaGreatDoor
