/-
  tegulalaw38: same, build.
  Conditions: as the theorems say.
-/
import Derived.Test.YtaiklhbakldfhaaGreatMqJ
import Derived.Test.YtaiklhbakldfhaaGreatHS
import Derived.Test.YtaiklhbakldfhaaGreatMqG
namespace Go.Proofs.YtaiklhbakldfhaaGreat
open Go.Lib (hid)
set_option linter.unusedSimpArgs false
set_option linter.unusedVariables false
set_option maxRecDepth 100000
set_option maxHeartbeats 16000000
open Go.RowKit Go.Maps
theorem mX (M:Nat) (F:Fam) (gv:Value) (w:World) (hF:F.ok) (hs:∀ v∈F.vs,v.l.length<=9000) (hm:dU w M F) (hg:bI w gv F):
  Calls Tryz.prog 8 #[.pointer (some ⟨M,0,none⟩),gv] w fun e w'=>e= .returned (.bool true)/\Below w.heap.size w w':=by
 obtain⟨ra,rn,rc,rfl⟩:=hg.form;have hk:=(Below.refl w.heap.size w).bMq (.cells #[.int .i64 F.N,.slice ra rn rc] 31);have HX:=hid ((Bx.new w _ rfl (.int .i64 F.N) (.slice ra rn rc) 31).later (Below.refl _ _).drew);have HM:=hid ((hm.later hk).later (Below.refl _ _).drew);have HG:=hid ((hg.keep hk).keep (Below.refl _ _).drew);have HB:=hid (hk.drew);have HF:=hid hF;have HS:=hid hs;clear hk hm hg hF hs;go_enter Tryz.func8,Tryz.ntmps8;go_upto_region 1 with fail
 go_region_held3 (fun w'=>w'.cell? ⟨w.heap.size,0,none⟩=some (.int .i64 F.N)/\w'.cell? ⟨w.heap.size,1,none⟩=some (.slice ra rn rc))
  (first
   |with_reducible exact⟨HX.o.c0,HX.o.c1⟩
   |with_reducible exact⟨HX1.o.c0,HX1.o.c1⟩
   |with_reducible exact⟨HX2.o.c0,HX2.o.c1⟩)
  (first
   |(go_at_call 10;(with_reducible refine(nJ M F _ HM.o).mono ?_);rintro e w1 ⟨fv,rfl,hf1,hb1⟩;have HX1:=hid (HX.o.later hb1);have HF1:=hid hf1;have HG1:=hid (HG.o.keep hb1);have HB1:=hid (HB.o.on hb1);clear hf1 hb1)
   |(go_at_call 25;(with_reducible refine(aWc F _ _ _ HF.o HS.o HF1.o HG1.o).mono ?_);rintro e w2 ⟨rfl,hb2⟩;have HX2:=hid (HX1.o.later hb2);have HB2:=hid (HB1.o.on hb2);clear hb2))
 all_goals
  go_wp2_with fail;go_ret;exact⟨rfl,HB2.o⟩
structure NS where
 a:Option Addr
 c:Nat
 N:List UInt8
abbrev NS.v (x:NS):Value:= .slice x.a x.N.length x.c
theorem NS.sl (x:NS):Value.isSl x.v:=⟨_,_,_,rfl⟩
def uR (w:World) (ns:List NS):Prop:= ∀x∈ns,RdY w x.a x.N
theorem uR.keep {w w':World} {ns:List NS} (h:uR w ns) (hb:Below w.heap.size w w'):uR w' ns:=fun x hx=>(h x hx).keep hb
inductive yN:Fam->List (List UInt8)->Fam->Prop
 |nil (F:Fam):yN F [] F
 |snoc {F G H:Fam} {Ns:List (List UInt8)} {N:List UInt8}:yN F Ns G->G.sound->G.once->G.N=F.N->N≠ []->N.length<=256->fO G N=(H,0)->yN F (Ns++[N]) H
structure BI (w W:World) (M T B0 m k:Nat) (C F:Fam) (x y:Value) (ns:List NS) (nv:Value):Prop where
 sound:F.sound
 once:F.once
 small:F.small
 N:F.N=m
 map:dU W M F
 fb:Bx W T 31 x y
 fam:bI W (.agg #[x,y]) F
 rb:Bx W w.heap.size 31 (.int .i64 0) (.slice none 0 0)
 own:mR W B0 nv (ns.map NS.v)
 notes:uR W ns
 few:ns.length<=k
 chain:yN ⟨m,[]⟩ (ns.map NS.N) C
 o1:w.heap.size<M
 o2:M<T
 o3:T<B0
 o4:B0<=W.heap.size
 B:Below w.heap.size w W
theorem aVz {W:World} {x y:Value} {F:Fam} (h:bI W (.agg #[x,y]) F):∃ a n c,x= .int .i64 F.N/\y= .slice a n c:=by
 obtain⟨a,n,c,he⟩:=h.form;injection he with he;have h1:=congrArg Array.toList he;simp at h1;exact⟨a,n,c,h1.1,h1.2⟩
section
variable {w W W':World} {M T B0 m k:Nat} {C F G:Fam} {x y x' y' nv nv':Value} {ns:List NS} {s:aW} {N:List UInt8}
theorem BI.later (h:BI w W M T B0 m k C F x y ns nv) (hb:Below W.heap.size W W'):BI w W' M T B0 m k C F x y ns nv:=
 ⟨h.sound,h.once,h.small,h.N,h.map.later hb,h.fb.later hb,h.fam.keep hb,h.rb.later hb,h.own.keep hb,h.notes.keep hb,h.few,h.chain,h.o1,h.o2,h.o3,Nat.le_trans h.o4 hb.size,h.B.on hb⟩
theorem BI.stored (h:BI w W M T B0 m k C F x y ns nv) (hm:dU W' M G) (hg:W.grownBy W' (some M)) (hf:bI W' (.agg #[x',y']) G) (hs:Stp F s N G):BI w (dN W' T x' y') M T B0 m (k+1) C G x' y' ns nv:=by
 have q1:=h.o1;have q2:=h.o2;have q3:=h.o3;have ho:=h.map.odd;have hfb:=h.fb.grown hg (fun e=>by injection e with e;omega);obtain⟨a,n,c,rfl,rfl⟩:=aVz h.fam;have hT:Odd W' T:=hfb.odd vI (fun c e=>by cases e) (fun c e=>by cases e);have hg2:=gY W' T x' y';have hB:Below w.heap.size w W':=h.B.bMu hg fun j e=>by injection e with e;omega
 obtain ⟨p,q,m1,m2⟩:=hm;exact⟨hs.sound,hs.once,hs.small h.small,by rw[hs.N',h.N],⟨p,q,m1.far (by omega) x' y',hfb.famV vI m2⟩,hfb.put x' y',hfb.famR hf,(h.rb.grown hg (fun e=>by injection e with e;omega)).far (by omega) x' y',
  (h.own.grown hg (fun j e=>by injection e with e;omega)).grown hg2 (fun j e=>by injection e with e;omega),fun z hz=>((h.notes z hz).grown ho hg).grown hT hg2,Nat.le_trans h.few (Nat.le_succ k),h.chain,q1,q2,q3,
  Nat.le_trans h.o4 (Nat.le_trans hg.size hg2.size),hB.bMu hg2 fun j e=>by injection e with e;omega⟩
theorem BI.idle (h:BI w W M T B0 m k F G x y ns nv) (hs:Stp F s [] G):BI w W M T B0 m k G G x y ns nv:=by
 rcases hs.note with ⟨_,e⟩|⟨e,_⟩
 ·rw[<-e]at h;rw[e]at h ⊢;exact h
 ·exact absurd rfl e
theorem BI.added (h:BI w W M T B0 m k F G x y ns nv) (hF:F.sound) (ho:F.once) (hs:Stp F s N G) (hN:N≠ []) {a:Option Addr} {c:Nat} (hr:RdY W a N) (hk:ns.length+1<=k) (hown:mR W' B0 nv' (ns.map NS.v++[NS.v ⟨a,c,N⟩])) (hg:W.grownBy W' nv.ownBlock):
  BI w W' M T B0 m k G G x y (ns++[(⟨a,c,N⟩:NS)]) nv':=by
 have q1:=h.o1;have q2:=h.o2;have q3:=h.o3;have q4:=h.o4;have hap:fO F N=(G,0):=by
  rcases hs.note with ⟨e,_⟩|⟨_,e⟩
  ·exact absurd e hN
  ·exact e
 have hch:yN ⟨m,[]⟩ ((ns++[(⟨a,c,N⟩:NS)]).map NS.N) G:=by
  rw[List.map_append];exact yN.snoc h.chain hF ho (hs.N'.symm.trans h.N) hN hs.max hap
 have hkeep:dU W' M G/\Bx W' T 31 x y/\bI W' (.agg #[x,y]) G/\Bx W' w.heap.size 31 (.int .i64 0) (.slice none 0 0)/\uR W' (ns++[(⟨a,c,N⟩:NS)])/\Below w.heap.size w W':=by
  cases hv:nv.ownBlock with
  | none=>
   rw[hv]at hg;have hb:=lT hg;refine⟨h.map.later hb,h.fb.later hb,h.fam.keep hb,h.rb.later hb,fun z hz=> ?_,h.B.on hb⟩;rcases List.mem_append.1 hz with hz|hz
   ·exact(h.notes z hz).keep hb
   ·simp at hz;subst hz;exact hr.keep hb
  | some g=>
   rw[hv]at hg;obtain⟨hod,hgB⟩:=h.own.odd hv;obtain⟨p,q,m1,m2⟩:=h.map;refine⟨⟨p,q,m1.grown hg (fun e=>by injection e with e;omega),m2.bNb hod hg⟩,h.fb.grown hg (fun e=>by injection e with e;omega),h.fam.bNb hod hg,h.rb.grown hg (fun e=>by injection e with e;omega),fun z hz=> ?_,h.B.bMu hg fun j e=>by injection e with e;omega⟩;rcases List.mem_append.1 hz with hz|hz
   ·exact(h.notes z hz).bNb hod hg
   ·simp at hz;subst hz;exact hr.bNb hod hg
 obtain⟨k1,k2,k3,k4,k5,k6⟩:=hkeep;refine⟨h.sound,h.once,h.small,h.N,k1,k2,k3,k4,?_,k5,by rw[List.length_append];exact hk,hch,q1,q2,q3,Nat.le_trans q4 hg.size,k6⟩;rw[List.map_append];exact hown
end
theorem BI.result {w W:World} {M T B0 m k:Nat} {C F:Fam} {x y nv:Value} {ns:List NS} (h:BI w W M T B0 m k C F x y ns nv):dU (dN W w.heap.size x y) M F/\bI (dN W w.heap.size x y) (.agg #[x,y]) F/\uR (dN W w.heap.size x y) ns/\Below w.heap.size w (dN W w.heap.size x y):=by
 have q1:=h.o1;obtain⟨p,q,m1,m2⟩:=h.map;have hR:Odd W w.heap.size:=h.rb.odd vI (fun c e=>by cases e) (fun c e=>by cases e);exact⟨⟨p,q,m1.far (by omega) x y,h.rb.famV vI m2⟩,h.rb.famR h.fam,fun z hz=>(h.notes z hz).grown hR (gY _ _ _ _),(h.B.setCell (by simp only;omega) _).setCell (by simp only;omega) _⟩
theorem mR.rd' {w:World} {B n c:Nat} {a:Option Addr} {xs:List Value} (h:mR w B (.slice a n c) xs):RdP w a xs:=by
 obtain⟨a',c',he,hr⟩:=h.rd;injection he with he;rw[he];exact hr
def bHx (m q:Nat) (w:World) (e:Ending) (w':World):Prop:=
 ∃M F gv ns a c,e= .returned (.tuple #[.pointer (some ⟨M,0,none⟩),gv,.slice a (ns:List NS).length c,.bool true])/\F.sound/\F.once/\F.small/\F.N=m/\dU w' M F/\bI w' gv F/\RdP w' a (ns.map NS.v)/\uR w' ns/\ns.length<=q/\yN ⟨m,[]⟩ (ns.map NS.N) F/\w.heap.size<M/\Below w.heap.size w w'
theorem aZc (m:Nat):(⟨m,[]⟩:Fam).small:=fun v hv=>by simp at hv
theorem aPz (m:Nat):(⟨m,[]⟩:Fam).once:=fun v hv=>by simp at hv
theorem qZ (n:Nat) (S:List aW) (a:Option Addr) (c:Nat) (w:World) (hn:n<=255) (hS:S.length<=1000) (hr:mQ w a S):
  Calls Tryz.prog 5 #[.int .u8 n,.slice a S.length c] w (bHx (n%50) S.length w):=by
 have hm0:n%50<=65536:=by omega
 have hmod:((n:Int)%50)=((n%50:Nat):Int):=by omega
 obtain⟨m,hm⟩:∃ m,m=n%50:=⟨_,rfl⟩;have HM:=hid hmod;rw[<-hm]at hm0 HM ⊢;have hm50:m<50:=by omega
 obtain⟨F0,hF0⟩:∃ F,F=(⟨m,[]⟩:Fam):=⟨_,rfl⟩;have HF0:=hid hF0;have HRS:=hid hr;clear hm hmod hF0 hr;have HR:=hid (Bx.new w _ rfl (.int .i64 0) (.slice none 0 0) 31);have HBW:=hid ((Below.refl w.heap.size w).bMq (.cells #[.int .i64 0,.slice none 0 0] 31));go_enter Tryz.func5,Tryz.ntmps5;go_wp2_with fail;rw[HM.o];refine(aAl m _ hm0).mono ?_;rintro e w1 ⟨M,rfl,hM1,hmb,hb⟩;have hM1':w.heap.size<M:=by simp only[World.size_alloc]at hM1;omega
 have HMB:=hid hmb;have HR1:=hid (HR.o.later hb);have HB1:=hid (HBW.o.on hb);have hMs:M<w1.heap.size:=by
  obtain⟨_,_,hb1,_⟩:=hmb;exact hb1.lt
 clear hM1 hmb hb HR HBW;go_wp2_with fail;rw[HM.o];refine(aFv m _ hm0).mono ?_;rintro e w2 ⟨gv,rfl,hg,hb⟩;obtain⟨ra,rn,rc,rfl⟩:=hg.form;have hk:=(Below.refl w2.heap.size w2).bMq (.cells #[.int .i64 m,.slice ra rn rc] 31);have hT:M<w2.heap.size:=by have:=hb.size;omega
 have HI:Hid (BI w (w2.alloc (.cells #[.int .i64 m,.slice ra rn rc] 31)) M w2.heap.size (w2.heap.size+1) m 0 F0 F0 (.int .i64 m) (.slice ra rn rc) [] (.slice none 0 0)):=hid (by
  rw[HF0.o]
  exact⟨xJ m hm0,aPz m,aZc m,rfl,(HMB.o.later hb).later hk,Bx.new w2 _ rfl _ _ _,hg.keep hk,(HR1.o.later hb).later hk,mR.nil _ _,fun z hz=>by simp at hz,Nat.le_refl _,yN.nil _,hM1',hT,by omega,by rw[World.size_alloc];omega,(HB1.o.on hb).on hk⟩)
 clear hk hg hb hT hMs hM1' HMB HR1 HB1;go_wp2_with fail;generalize w2.alloc (.cells #[.int .i64 m,.slice ra rn rc] 31)=w3 at *;generalize w2.heap.size=T at *;go_loopw [12,13] (fun nv i wr=>∃ (k:Nat) (F:Fam) (x y:Value) (ns:List NS),k<=S.length/\i= .int .i64 k/\BI w wr M T (T+1) m k F F x y ns nv) (fun _ i _=>S.length-(intOf i).toNat)
 case atStart=>exact⟨0,F0,_,_,[],Nat.zero_le _,rfl,HI.o⟩
 case round=>
  clear HI;obtain⟨k,F,x,y,ns,hk,rfl,hi⟩:=hrel;obtain⟨ra,rn,rc,rfl,rfl⟩:=aVz hi.fam;have HI:=hid hi;clear hi;by_cases hlt:k<S.length
  ·obtain ⟨sb,so,rfl,hat⟩:=(HRS.o.keep HI.o.B).at (by omega);have hst:=hat k _ (List.getElem?_eq_getElem hlt);generalize S[k]=s at *;have HST:=hid hst;have hk0:(0:Int)<=k:=by omega
   have hk1:(k:Int)<S.length:=by omega
   clear hst hat;go_upto_region 11 with fail;have HV:=hid (HI.o.later (Below.refl _ _).drew);have p0:=HI.o.fb.c0;have p1:=HI.o.fb.c1;have s0:=HST.o.c0;have s1:=HST.o.c1;have s2:=HST.o.c2;have s3:=HST.o.c3;have s4:=HST.o.c4;have s5:=HST.o.c5
   go_region_law ((go_simp;go_at_call 16;refine(aJo M F _ s _ HV.o.sound HV.o.once HV.o.map HV.o.fam HST.o.ok).mono ?_;rintro e w5 ⟨gv,N,G,na,nc,rfl,hsp,hg,hrn,hm5,hg5⟩;obtain⟨ga,gn,gc,rfl⟩:=hg.form;have HSP:=hid hsp;have HBS:=hid (HV.o.stored hm5 hg5 hg hsp);have hTM:T≠M:=(fun e=>by have:=HV.o.o2;omega);have HP5:=hid (HV.o.fb.grown hg5 (fun e=>by injection e with e;exact hTM e.symm));have HRN:=hid (hrn.grown (HP5.o.odd vI (fun c e=>by cases e) (fun c e=>by cases e)) (gY _ _ (.int .i64 G.N) (.slice ga gn gc)));clear hsp hg hrn hm5 hg5;have q0:=HP5.o.c0;have q1:=HP5.o.c1;have q2:=HP5.o.f0;have q3:=HP5.o.f1))
   all_goals
    clear p0 p1 s0 s1 s2 s3 s4 s5 q0 q1 q2 q3 HP5 hTM;generalize hW9:(w5.setCell ⟨T,0,none⟩ (.int .i64 G.N)).setCell ⟨T,1,none⟩ (.slice ga gn gc)=W9;rw[show dN w5 T (.int .i64 G.N) (.slice ga gn gc)=W9 from hW9]at HBS HRN;clear hW9;by_cases hN:N=[]
    ·subst hN;have HQ:=hid (HBS.o.idle HSP.o);clear HBS HRN;simp only[List.length_nil];go_wp2_with fail;go_roundw
     case rel=>exact⟨k+1,G,_,_,ns,by omega,by go_num,HQ.o⟩
     case measure=>simp[intOf];omega
    ·have hN1:0<N.length:=List.length_pos_iff.2 hN;have hN2:(0:Int)<N.length:=by omega
     have HN:=hid hN;have hfw:=HI.o.few;have hnl:(ns.map NS.v).length<=1000000:=by rw[List.length_map];omega
     have hka:=(Below.refl W9.heap.size W9).bMq (.cells #[.slice na N.length nc] 23);have HBA:=hid (HBS.o.later hka);have HRA:=hid (HRN.o.keep hka);have hFS:=HV.o.sound;have hFO:=HV.o.once;clear hN hka HBS HRN HV
     go_wp2_with (at_builtin;(refine oZ rfl _ _ 32 rfl Tryz.underlying32 (T+1) _ (ns.map NS.v) rfl HBA.o.own ⟨W9.heap.size,0,none⟩ 1 (.slice na N.length nc) rfl ⟨_,_,_,rfl⟩ (by simp) hnl HBA.o.o4 ?_);intro v1 w6 hown1 hgrow1 hwhere1)
     have HQ:=hid (HBA.o.added hFS hFO HSP.o HN.o HRA.o (by omega) hown1 hgrow1);clear hown1 hgrow1 hwhere1 HBA HRA;go_wp2_with fail;go_roundw
     case rel=>exact⟨k+1,G,_,_,_,by omega,by go_num,HQ.o⟩
     case measure=>simp[intOf];omega
  ·have hkn:k=S.length:=by omega
   subst hkn;obtain⟨na,nc,rfl,hnr⟩:=HI.o.own.rd;rw[List.length_map];clear hnr;go_upto_region 16 with fail;have HD:=hid (HI.o.later (Below.refl _ _).drew)
   go_region_held3 (fun w'=>w'.cell? ⟨T,0,none⟩=some (.int .i64 F.N)/\w'.cell? ⟨T,1,none⟩=some (.slice ra rn rc))
    (first
     |with_reducible exact⟨HD.o.fb.c0,HD.o.fb.c1⟩
     |with_reducible exact⟨HD5.o.fb.c0,HD5.o.fb.c1⟩
     |with_reducible exact⟨HF6.o.c0,HF6.o.c1⟩)
    ((go_at_call 8;(with_reducible refine(mX M F _ _ HD.o.sound.ok HD.o.sound.short HD.o.map HD.o.fam).mono ?_);rintro e w5 ⟨rfl,hb5⟩;have HD5:=hid (HD.o.later hb5);clear hb5;have hTw:T≠w.heap.size:=(fun e=>by have:=HD5.o.o1;have:=HD5.o.o2;omega);have HF6:=hid (HD5.o.fb.far hTw (.int .i64 F.N) (.slice ra rn rc));have r0:=HD5.o.rb.c0;have r1:=HD5.o.rb.c1;have r2:=HD5.o.rb.f0;have r3:=HD5.o.rb.f1))
   all_goals
    have HZ:=hid (HD5.o.result);have HZN:=hid (mR.rd' (HD5.o.own.grown (gY _ w.heap.size (.int .i64 F.N) (.slice ra rn rc)) (fun j e=>by injection e with e;have:=HD5.o.o1;have:=HD5.o.o2;omega)));have j0:=(HD5.o.rb.put (.int .i64 F.N) (.slice ra rn rc)).c0;have j1:=(HD5.o.rb.put (.int .i64 F.N) (.slice ra rn rc)).c1;clear HF6 HD HI;go_wp2_with fail;refine bodyPost_ret (v:= .tuple #[.pointer (some ⟨M,0,none⟩),.agg #[.int .i64 F.N,.slice ra rn rc],.slice na ns.length nc,.bool true]) ?_ rfl ⟨M,F,_,ns,na,nc,rfl,HD5.o.sound,HD5.o.once,HD5.o.small,HD5.o.N,HZ.o.1,HZ.o.2.1,HZN.o,HZ.o.2.2.1,HD5.o.few,HD5.o.chain,HD5.o.o1,HZ.o.2.2.2⟩;simp[results,Tryz.results5,go_sem,j0,j1]
end Go.Proofs.YtaiklhbakldfhaaGreat
