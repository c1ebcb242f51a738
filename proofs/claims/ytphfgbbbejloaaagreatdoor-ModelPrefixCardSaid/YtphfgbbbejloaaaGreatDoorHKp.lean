/- package mapper: the changes that notes describe. Conditions: as each theorem says. -/
import Derived.Test.YtphfgbbbejloaaaGreatDoorHYp
set_option linter.unusedSimpArgs false
set_option linter.unusedVariables false
set_option linter.unusedSectionVars false
set_option maxRecDepth 100000
set_option maxHeartbeats 16000000
namespace Go.Proofs.YtphfgbbbejloaaaGreatDoor
open Go.Proofs.Tryz
open Go.RowKit Go.Maps
variable[Gst]
theorem VY{P:Prop}(h:P:=by have:=HLN.o;omega):P:=h
theorem aEq{P:Prop}(h:P:=by
  go_wp2_with fail;refine(sQ 4 nm _ oM hn).m ?_;rintro e w2 ⟨v2,rfl,ho,hb⟩;obtain⟨va,vc,rfl,_,_,hrd⟩:=ho.rd VY;replace HB:=hD (HB.o.on hb);have hol:ot.length<=1000000000:=oM
  obtain⟨cap,W1,hconv,hcell,hbel⟩:=Nc ot w2 hol;have HN:=hD (IQ ot (qO 4 nm) va _ vc cap W1 (hrd.keep hbel) hcell VY oM);rw[HP.o]at HN;replace HB:=hD (HB.o.on hbel);clear ho hb hrd hcell hbel;go_wp2_with fail;refine HN.o.m ?_;rintro e w3 ⟨v3,rfl,ho,hb⟩;obtain⟨na,nc,rfl,_,_,hrd⟩:=ho.rd (by rw[<-HP.o,Qg];have:=HLN.o;have:=ET ot oM;omega);clear ho hconv;exact aEu
  ):P:=h
theorem Rx{P:Prop}(h:P:=by
  go_wp2_with fail;refine(sQ 3 nm _ oM hn).m ?_;rintro e w2 ⟨v2,rfl,ho,hb⟩;obtain⟨va,vc,rfl,_,_,hrd⟩:=ho.rd VY;replace HB:=hD (HB.o.on hb);have HN:=hD (Lt p n (qO 3 nm) P va vc w2 hrd VY HP.o);clear ho hb hrd;go_wp2_with fail;refine HN.o.m ?_;rintro e w3 ⟨na,nc,rfl,hrd,hb⟩;exact aEu
  ):P:=h
theorem aEu{P:Prop}(h:P:=by
  have HNO:=hD (aAy P R _ na nc _ hrd HR.o);replace HB:=hD (HB.o.on hb);clear hb hrd;go_wp2_with fail;refine HNO.o.m ?_;rintro e w4 ⟨ra,rc,rfl,hrd,hb⟩;have HRD:=hD hrd;replace HB:=hD (HB.o.on hb);clear hb hrd;go_wp2_with fail;go_ret2;exact⟨ra,rc,rfl,HRD.o,HB.o⟩
  ):P:=h
theorem aEt{P:Prop}(h:P:=by
  exact(hne.elim λG h=>h.elim λq h=>by rw[HP.o]at h;cases h)
  ):P:=h
theorem aEs{P:Prop}(h:P:=by
  have b0:=HC.o.fb.c0;have b1:=HC.o.fb.c1;have r0:=HC.o.r1.c0;have r1:=HC.o.r1.c1;have g0:=HC.o.r1.f0;have g1:=HC.o.r1.f1;go_wp2_with fail;have j0:=(HC.o.r1.put (.slice ga G.N gc) (.map gm)).c0;have j1:=(HC.o.r1.put (.slice ga G.N gc) (.map gm)).c1;refine br (.tuple #[.agg #[.slice ga G.N gc,.map gm],x]) ?_;exact JI HC.o HC.o.fam x
  ):P:=h
theorem GD{P:Prop}(h:P:=by
  go_wp2_with fail;have j0:=(HC.o.r1.put (.slice ga G.N gc) (.map gm)).c0;have j1:=(HC.o.r1.put (.slice ga G.N gc) (.map gm)).c1;refine br (.tuple #[.agg #[.slice ga G.N gc,.map gm],x]) ?_;exact JI HC.o HG.o x
  ):P:=h
theorem aEr{P:Prop}(h:P:=by
  intro e;rw[Qk _ _ _ _ sM]at e;exact h.eo.nob _ _ e
  ):P:=h
structure CL(w W:Wd)(X:Nat)(u v:Value)(F:Fam)(l:LU):Prop where
 fb:Bx W w 121 u v
 fam:bG W (.agg #[u,v]) F
 rb:W (cw (cf w) 0)=some (.pointer (cw X 0))
 r:iJ W X l
 r1:Bx W (ch w) 121 sn (.map none)
 lt:X<w.heap.size
 g:w.grownBy W (some X)
section
variable{w W W':Wd}{X:Nat}{u v:Value}{F G:Fam}{l r:LU}
theorem CL.aIx(h:CL w W X u v F l)(hb:Below W W W'):CL w W' X u v F l:=
 ⟨h.fb.aIx hb,h.fam.keep hb,hb.keep h.rb,h.r.aIx hb,h.r1.aIx hb,h.lt,h.g.next (dD hb _)⟩
theorem CL.went(h:CL w W X u v F l)(hr:iJ W' X r)(hg:W.grownBy W' (some X)):CL w W' X u v F r:=by
 have hO:=h.r.odd;have hlt:=h.lt;have h1:∀k,w.heap.size<=k->some X≠some k:=λk hk e=>by injection e with e;omega
 exact⟨h.fb.grown hg (h1 _ (Ye _)),h.fam.grown hO hg,jQ hg h.rb oM,hr,h.r1.grown hg (h1 _ oM),h.lt,h.g.next hg⟩
theorem PU:3≠121:=dE
theorem bG.oddBox{T:Nat}{u v x:Value}{F:Fam}(hx:bG W (.agg #[u,v]) F)(h:Bx W T 121 u v):Odd W T:=by
 obtain⟨a,c,m,he⟩:=hx.form;injection he with he;have h1:=congrArg Array.toList he;simp at h1;obtain⟨rfl,rfl⟩:=h1;exact h.odd PU (λc e=>by cases e) (λc e=>by cases e)
theorem CL.init(w:Wd)(X:Nat)(u v:Value)(F:Fam)(l:LU)(hf:bG w (.agg #[u,v]) F)(hr:iJ w X l)(W:Wd)
  (hW:W=((w.alloc (cq #[u,v] 121)).alloc (cq #[.pointer (cw X 0)] 198)).alloc (cq #[sn,.map none] 121)):CL w W X u v F l:=by
 subst hW;have k1:=(bQ w).aIw (cq #[u,v] 121);have k2:=(Below.refl _ (w.alloc (cq #[u,v] 121))).aIw (cq #[.pointer (cw X 0)] 198);have k3:=(Below.refl _ ((w.alloc (cq #[u,v] 121)).alloc (cq #[.pointer (cw X 0)] 198))).aIw (cq #[sn,.map none] 121);have kk:=(k1.on k2).on k3;have e:((w.alloc (cq #[u,v] 121)).alloc (cq #[.pointer (cw X 0)] 198)).cell? (cw (cf w) 0)=some (.pointer (cw X 0)):=by simp
 exact⟨((Bx.new w _ rfl u v _).aIx k2).aIx k3,hf.keep kk,k3.keep e,hr.aIx kk,Bx.new _ _ sM _ _ _,hr.odd.lt,dD kk _⟩
end
theorem EL{w W:Wd}{row:Option Nat}{T:Nat}(hg:w.grownBy W row)(hT:w.heap.size<=T)(x y:Value):w.grownBy (fP W T x y) row:=
 ⟨hg.os,hg.tape,hg.output,by simpa [fP,World.setCell]using hg.size,λk hk hne=>(Cb oM).trans (hg.block k hk hne)⟩
def Rj(w:Wd)(X:Nat)(o:Option (Fam × Int × LU))(e:Ending)(w':Wd):Prop:=match o with
 |some (G,x,q)=>∃gv,e= .returned (.tuple #[gv,x])/\bG w' gv G/\iJ w' X q/\w.grownBy w' (some X)
 |none=>e= .panicked (pan 5)/\w.grownBy w' (some X)
theorem JI{w W:Wd}{X:Nat}{u v x y:Value}{F G:Fam}{l:LU}(h:CL w W X u v F l)(hg:bG W (.agg #[x,y]) G)(e:Int):
  Rj w X (some (G,e,l)) (.returned (.tuple #[.agg #[x,y],e])) (fP W (ch w) x y):=by
 have hlt:=h.lt;have hO:Odd W (w.heap.size+1+1):=h.r1.odd PU (λc e=>by cases e) (λc e=>by cases e);have hgr:=iE W (ch w) x y;exact⟨_,rfl,hg.grown hO hgr,h.r.other hO hgr oM,EL h.g oM _ _⟩
theorem CL.putF{w W:Wd}{X:Nat}{u v x y:Value}{F G:Fam}{l:LU}(h:CL w W X u v F l)(hg:bG W (.agg #[x,y]) G):CL w (fP W w x y) X x y G l:=by
 have hlt:=h.lt;have hO:Odd W w.heap.size:=h.fam.oddBox (x:=x) h.fb;have hgr:=iE W w x y;exact⟨h.fb.put x y,hg.grown hO hgr,jQ hgr h.rb oM,h.r.other hO hgr oM,h.r1.far oM x y,hlt,EL h.g (Ye _) _ _⟩
theorem CL.farR{w W:Wd}{X:Nat}{u v:Value}{F:Fam}{l:LU}(h:CL w W X u v F l)(x y:Value):(fP W (ch w) x y).cell? (cw w 0)=some u/\(fP W (ch w) x y).cell? (cw w 1)=some v/\(fP W (ch w) x y).cell? (cw (cf w) 0)=some (.pointer (cw X 0)):=
 ⟨(gP sO).trans h.fb.c0,(gP sO).trans h.fb.c1,(gP sO).trans h.rb⟩
def CLI(w:Wd)(X:Nat)(G:Fam)(q:LU)(x:Int)(e:Value)(wx:Wd):Prop:=e= .int .i64 x/\ ∃ga gc gm,CL w wx X (.slice ga G.N gc) (.map gm) G q
theorem aCe(F:Fam)(fv:Value)(X:Nat)(l:LU)(w:Wd)(hF:F.ok)(hs:∀v∈F.vs,v.l.length<=9000)(hf:bG w fv F)(hr:iJ w X l)(hl:l.length<=1000000)(hne:∃G q,deP F l=some (G,0,q)):
  ep 183 #[fv,.agg #[.pointer (cw X 0)]] w (Rj w X (deP F l)):=by
 obtain⟨a,c,m,rfl⟩:=hf.form;have H:=hD (CL.init w X _ _ F l hf hr _ rfl)
 cases hb:fO l with
 | none=>
  have U:=hD hb;have HP:Hid (deP F l=none):=hD (by unfold deP;rw[hb]);exact aEt
 | some p=>
  obtain⟨nm,q⟩:=p;have hnm:nm.length<=maxLen:=by have:=iD hb;simp only[maxLen];omega
  obtain⟨G,L,x,hd⟩:∃G L x,aZ F nm=(G,L,x):=⟨_,_,_,rfl⟩;have U:=hD hb;have HP:Hid (deP F l=some (G,x,q)):=hD (by unfold deP;rw[hb];simp only;rw[hd]);have HDE:=hD hd;have HNM:=hD hnm;have HF:=hD hF;have HS:=hD hs;clear hb hf hr hd hnm hF hs;rw[HP.o];have b0:=H.o.fb.c0;have b1:=H.o.fb.c1;have hrb:=H.o.rb;have f0:=H.o.fb.f0;have f1:=H.o.fb.f1;go_enter func183,ntmps183;go_wp2_with fail;generalize ((w.alloc (cq #[.slice a F.N c,.map m] 121)).alloc (cq #[.pointer (cw X 0)] 198)).alloc (cq #[sn,.map none] 121)=W at*
  go_cut [7] from 6 to 15 (λe wx=>CLI w X G q x e wx)
  case first=>
   have HD:=hD (H.o.aIx bR.drew)
   go_region_with (first
    |(go_at_call 176;(with_reducible refine(pR HD.o.r U.o).m ?_);rintro e w1 ⟨rfl,hr1,hg1⟩;have H1:=hD (HD.o.went hr1 hg1);have b10:=H1.o.fb.c0;have b11:=H1.o.fb.c1;clear hr1 hg1)
    |(go_at_call 171;(with_reducible refine(MI F G L x _ nm _ HF.o HS.o H1.o.fam HNM.o HDE.o).m ?_);rintro e w2 ⟨gv,sv,rfl,hg,ho,hb2⟩;obtain⟨ga,gc,gm,rfl⟩:=hg.form;have H2:=hD (H1.o.aIx hb2);have HG:=hD hg;have b20:=H2.o.fb.c0;have b21:=H2.o.fb.c1;have f20:=H2.o.fb.f0;have f21:=H2.o.fb.f1;clear hg ho hb2))
   all_goals
    have HZ:Hid (CLI w X G q x (.int .i64 x) (fP w2 w (.slice ga G.N gc) (.map gm))):=hD ⟨rfl,ga,gc,gm,H2.o.putF HG.o⟩;go_wp2_with fail;go_meet;exact HZ.o
  case rest=>
   obtain⟨rfl,ga,gc,gm,hcl⟩:=hcut;have HC:=hD hcl;clear hcl H;exact aEs
theorem aCf(F:Fam)(fv:Value)(X:Nat)(l:LU)(w:Wd)(hF:F.ok)(hs:∀v∈F.vs,v.l.length<=9000)(hf:bG w fv F)(hr:iJ w X l)(hl:l.length<=1000000)(hne:∃G q,clP F l=some (G,0,q)):
  ep 182 #[fv,.agg #[.pointer (cw X 0)]] w (Rj w X (clP F l)):=by
 obtain⟨a,c,m,rfl⟩:=hf.form;have H:=hD (CL.init w X _ _ F l hf hr _ rfl)
 cases hb:fO l with
 | none=>
  have U:=hD hb;have HP:Hid (clP F l=none):=hD (by unfold clP;rw[hb]);exact aEt
 | some p=>
  obtain⟨nm,l1⟩:=p;have hsh:=iD hb;have hnm:nm.length<=maxLen:=by simp only[maxLen];omega
  have U:=hD hb
  cases hb2:fO l1 with
  | none=>
   have U2:=hD hb2;have HP:Hid (clP F l=none):=hD (by unfold clP;rw[hb];simp only;rw[hb2]);exact aEt
  | some p=>
   obtain⟨ot,q⟩:=p;have hot:ot.length<=maxLen:=by have:=iD hb2;simp only[maxLen];omega
   obtain⟨G,x,hd⟩:∃G x,bJ F nm ot=(G,x):=⟨_,_,rfl⟩;have U2:=hD hb2;have HP:Hid (clP F l=some (G,x,q)):=hD (by unfold clP;rw[hb];simp only;rw[hb2];simp only;rw[hd]);have HDE:=hD hd;have HNM:=hD hnm;have HOT:=hD hot;have HF:=hD hF;have HS:=hD hs;clear hb hb2 hf hr hd hnm hot hF hs hsh;rw[HP.o];have hrb:=H.o.rb;go_enter func182,ntmps182;go_wp2_with fail;refine(pR H.o.r U.o).m ?_;rintro e w1 ⟨rfl,hr1,hg1⟩;replace H:=hD (H.o.went hr1 hg1);clear hr1 hg1 hrb;go_wp2_with fail;have HD:=hD (H.o.aIx bR.drew)
   go_cut [5] from 5 to 15 (λe wx=>∃ga gc gm W2,e= .int .i64 x/\wx=fP W2 (ch w) (.slice ga G.N gc) (.map gm)/\CL w W2 X (.slice a F.N c) (.map m) F q/\bG W2 (.agg #[.slice ga G.N gc,.map gm]) G)
   case first=>
    go_region_held3 (λw'=>w' (cw w 0)=some (.slice a F.N c)/\w' (cw w 1)=some (.map m)/\w' (cw (cf w) 0)=some (.pointer (cw X 0)))
     (first
      |with_reducible exact⟨HD.o.fb.c0,HD.o.fb.c1,HD.o.rb⟩
      |with_reducible exact⟨H1.o.fb.c0,H1.o.fb.c1,H1.o.rb⟩
      |with_reducible exact⟨H2.o.fb.c0,H2.o.fb.c1,H2.o.rb⟩
      |with_reducible exact H3.o)
     (first
      |(go_at_call 176;(with_reducible refine(pR HD.o.r U2.o).m ?_);rintro e w2 ⟨rfl,hr1,hg1⟩;have H1:=hD (HD.o.went hr1 hg1);clear hr1 hg1)
      |(go_at_call 168;(with_reducible refine(Si F G x _ nm ot _ HF.o HS.o H1.o.fam HNM.o HOT.o HDE.o).m ?_);rintro e w3 ⟨gv,rfl,hg,hb3⟩;obtain⟨ga,gc,gm,rfl⟩:=hg.form;have H2:=hD (H1.o.aIx hb3);have HG:=hD hg;have k0:=H2.o.r1.c0;have k1:=H2.o.r1.c1;have k2:=H2.o.r1.f0;have k3:=H2.o.r1.f1;have H3:=hD (H2.o.farR (.slice ga G.N gc) (.map gm));clear hg hb3))
    all_goals
     go_wp2_with fail;go_meet;exact⟨ga,gc,gm,w3,rfl,rfl,H2.o,HG.o⟩
   case rest=>
    obtain⟨ga,gc,gm,W2,rfl,rfl,hc,hg⟩:=hcut;have HC:=hD hc;have HG:=hD hg;clear hc hg H HD;exact GD
theorem aCg(F:Fam)(fv:Value)(X:Nat)(l:LU)(w:Wd)(hF:F.ok)(hs:∀v∈F.vs,v.l.length<=9000)(hf:bG w fv F)(hr:iJ w X l)(hl:l.length<=1000000)(hne:∃G q,crP F l=some (G,0,q)):
  ep 181 #[fv,.agg #[.pointer (cw X 0)]] w (Rj w X (crP F l)):=by
 obtain⟨a,c,m,rfl⟩:=hf.form;have H:=hD (CL.init w X _ _ F l hf hr _ rfl);have hrb:=H.o.rb
 cases hb:fO l with
 | none=>
  have U:=hD hb;have HP:Hid (crP F l=none):=hD (by unfold crP;rw[hb]);exact aEt
 | some p=>
  obtain⟨nm,l1⟩:=p;have hsh:=iD hb;have hnm:nm.length<=maxLen:=by simp only[maxLen];omega
  have U:=hD hb
  cases hb2:jB l1 with
  | none=>
   have U2:=hD hb2;have HP:Hid (crP F l=none):=hD (by unfold crP;rw[hb];simp only;rw[hb2]);exact aEt
  | some p=>
   obtain⟨n,l2⟩:=p;have hn0:=(iU hb2).2;have U2:=hD hb2
   cases hb3:jB l2 with
   | none=>
    have U3:=hD hb3;have HP:Hid (crP F l=none):=hD (by unfold crP;rw[hb];simp only;rw[hb2];simp only;rw[hb3]);exact aEt
   | some p=>
    obtain⟨r,q⟩:=p;have hr0:=(iU hb3).2;have U3:=hD hb3;obtain⟨G,x,hd⟩:∃G x,aW F nm n r=(G,x):=⟨_,_,rfl⟩;have HP:Hid (crP F l=some (G,x,q)):=hD (by unfold crP;rw[hb];simp only;rw[hb2];simp only;rw[hb3];simp only;rw[hd]);have HDE:=hD hd;have HNM:=hD hnm;have HF:=hD hF;have HS:=hD hs;clear hb hb2 hb3 hf hr hd hnm hF hs hsh;rw[HP.o];go_enter func181,ntmps181;go_wp2_with fail;have HD:=hD (H.o.aIx bR.drew);have hS0:=HD.o.rb
    go_region_held3 (λw'=>w' (cw (cf w) 0)=some (.pointer (cw X 0)))
     (first
      |with_reducible exact H.o.rb
      |with_reducible exact hS0
      |with_reducible exact hS1
      |with_reducible exact hS2)
     (first
      |(go_at_call 176;(with_reducible refine(pR HD.o.r U.o).m ?_);rintro e w1 ⟨rfl,hr1,hg1⟩;have H1:=hD (HD.o.went hr1 hg1);have hS1:=H1.o.rb;clear hr1 hg1)
      |(go_at_call 177;(with_reducible refine(nQ H1.o.r U2.o).m ?_);rintro e w2 ⟨rfl,hr2,hg2⟩;have H2:=hD (H1.o.went hr2 hg2);have hS2:=H2.o.rb;clear hr2 hg2))
    clear hS0 hS1 hS2 hrb;go_wp2_with fail;replace HD:=hD (H2.o.aIx bR.drew)
    go_cut [5] from 5 to 19 (λe wx=>∃ga gc gm W2,e= .int .i64 x/\wx=fP W2 (ch w) (.slice ga G.N gc) (.map gm)/\CL w W2 X (.slice a F.N c) (.map m) F q/\bG W2 (.agg #[.slice ga G.N gc,.map gm]) G)
    case first=>
     go_region_held3 (λw'=>w' (cw w 0)=some (.slice a F.N c)/\w' (cw w 1)=some (.map m)/\w' (cw (cf w) 0)=some (.pointer (cw X 0)))
      (first
       |with_reducible exact⟨HD.o.fb.c0,HD.o.fb.c1,HD.o.rb⟩
       |with_reducible exact⟨H3.o.fb.c0,H3.o.fb.c1,H3.o.rb⟩
       |with_reducible exact⟨H4.o.fb.c0,H4.o.fb.c1,H4.o.rb⟩
       |with_reducible exact H5.o)
      (first
       |(go_at_call 177;(with_reducible refine(nQ HD.o.r U3.o).m ?_);rintro e w3 ⟨rfl,hr3,hg3⟩;have H3:=hD (HD.o.went hr3 hg3);have b10:=H3.o.fb.c0;have b11:=H3.o.fb.c1;clear hr3 hg3)
       |(go_at_call 166;(with_reducible refine(MM F G x _ nm n r _ HF.o H3.o.fam HNM.o HDE.o).m ?_);rintro e w4 ⟨gv,rfl,hg,hb4⟩;obtain⟨ga,gc,gm,rfl⟩:=hg.form;have H4:=hD (H3.o.aIx hb4);have HG:=hD hg;have k0:=H4.o.r1.c0;have k1:=H4.o.r1.c1;have k2:=H4.o.r1.f0;have k3:=H4.o.r1.f1;have H5:=hD (H4.o.farR (.slice ga G.N gc) (.map gm));clear hg hb4))
     all_goals
      go_wp2_with fail;go_meet;exact⟨ga,gc,gm,w4,rfl,rfl,H4.o,HG.o⟩
    case rest=>
     obtain⟨ga,gc,gm,W2,rfl,rfl,hc,hg⟩:=hcut;have HC:=hD hc;have HG:=hD hg;clear hc hg H HD H1 H2;exact GD
theorem aCh(F:Fam)(fv:Value)(X:Nat)(l:LU)(w:Wd)(hF:F.ok)(hs:∀v∈F.vs,v.l.length<=9000)(hf:bG w fv F)(hr:iJ w X l)(hl:l.length<=1000000)(hne:∃G q,unP F l=some (G,0,q)):
  ep 180 #[fv,.agg #[.pointer (cw X 0)]] w (Rj w X (unP F l)):=by
 obtain⟨a,c,m,rfl⟩:=hf.form;have H:=hD (CL.init w X _ _ F l hf hr _ rfl);have hrb:=H.o.rb
 cases hb:fO l with
 | none=>
  have U:=hD hb;have HP:Hid (unP F l=none):=hD (by unfold unP;rw[hb]);exact aEt
 | some p=>
  obtain⟨nm,l1⟩:=p;have hsh:=iD hb;have hnm:nm.length<=maxLen:=by simp only[maxLen];omega
  have U:=hD hb
  cases hb2:jB l1 with
  | none=>
   have U2:=hD hb2;have HP:Hid (unP F l=none):=hD (by unfold unP;rw[hb];simp only;rw[hb2]);exact aEt
  | some p=>
   obtain⟨n,l2⟩:=p;have hn0:=(iU hb2).2;have U2:=hD hb2
   cases hb3:jB l2 with
   | none=>
    have U3:=hD hb3;have HP:Hid (unP F l=none):=hD (by unfold unP;rw[hb];simp only;rw[hb2];simp only;rw[hb3]);exact aEt
   | some p=>
    obtain⟨r,q⟩:=p;have hr0:=(iU hb3).2;have U3:=hD hb3;obtain⟨G,L,x,hd⟩:∃G L x,bS F nm n r=(G,L,x):=⟨_,_,_,rfl⟩;have HP:Hid (unP F l=some (G,x,q)):=hD (by unfold unP;rw[hb];simp only;rw[hb2];simp only;rw[hb3];simp only;rw[hd]);have HDE:=hD hd;have HNM:=hD hnm;have HF:=hD hF;have HS:=hD hs;clear hb hb2 hb3 hf hr hd hnm hF hs hsh;rw[HP.o];go_enter func180,ntmps180;go_wp2_with fail;have HD:=hD (H.o.aIx bR.drew);have hS0:=HD.o.rb
    go_region_held3 (λw'=>w' (cw (cf w) 0)=some (.pointer (cw X 0)))
     (first
      |with_reducible exact H.o.rb
      |with_reducible exact hS0
      |with_reducible exact hS1
      |with_reducible exact hS2)
     (first
      |(go_at_call 176;(with_reducible refine(pR HD.o.r U.o).m ?_);rintro e w1 ⟨rfl,hr1,hg1⟩;have H1:=hD (HD.o.went hr1 hg1);have hS1:=H1.o.rb;clear hr1 hg1)
      |(go_at_call 177;(with_reducible refine(nQ H1.o.r U2.o).m ?_);rintro e w2 ⟨rfl,hr2,hg2⟩;have H2:=hD (H1.o.went hr2 hg2);have hS2:=H2.o.rb;clear hr2 hg2))
    clear hS0 hS1 hS2 hrb;go_wp2_with fail;replace HD:=hD (H2.o.aIx bR.drew);have b0:=H2.o.fb.c0;have b1:=H2.o.fb.c1;have f0:=H2.o.fb.f0;have f1:=H2.o.fb.f1;have hrb:=H2.o.rb
    go_cut [9] from 8 to 23 (λe wx=>CLI w X G q x e wx)
    case first=>
     go_region_with (first
      |(go_at_call 177;(with_reducible refine(nQ HD.o.r U3.o).m ?_);rintro e w3 ⟨rfl,hr3,hg3⟩;have H3:=hD (HD.o.went hr3 hg3);have b10:=H3.o.fb.c0;have b11:=H3.o.fb.c1;clear hr3 hg3)
      |(go_at_call 165;(with_reducible refine(Rm F G L x _ nm n r _ HF.o HS.o H3.o.fam HNM.o oM HDE.o).m ?_);rintro e w4 ⟨gv,sv,rfl,hg,ho,hb4⟩;obtain⟨ga,gc,gm,rfl⟩:=hg.form;have H4:=hD (H3.o.aIx hb4);have HG:=hD hg;have b20:=H4.o.fb.c0;have b21:=H4.o.fb.c1;have f20:=H4.o.fb.f0;have f21:=H4.o.fb.f1;clear hg ho hb4))
     all_goals
      have HZ:Hid (CLI w X G q x (.int .i64 x) (fP w4 w (.slice ga G.N gc) (.map gm))):=hD ⟨rfl,ga,gc,gm,H4.o.putF HG.o⟩;go_wp2_with fail;go_meet;exact HZ.o
    case rest=>
     obtain⟨rfl,ga,gc,gm,hcl⟩:=hcut;have HC:=hD hcl;clear hcl H HD H1 H2 b0 b1 f0 f1 hrb;exact aEs
theorem GY(l:List E)(p q:Int)(hpq:p<=q):l.Pairwise (λx y=>x.a+x.n<=y.a)->(aI l 0 p).length+(aI l q 65536).length<=l.length+1:=by
 induction l with
 |nil=>intro _;simp[aI]
 | cons x r ih=>
  intro h;obtain⟨h1,h2⟩:=Yk.1 h;have ih:=ih h2;rw[dQ,dQ,Qg,Qg,List.length_cons];have hr:=bV r q 65536;by_cases hx:bY x 0 p=true/\bY x q 65536=true
  ·have h0:aI r 0 p=[]:=qK r 0 p λy hy=> .inr (by
    have hy1:=h1 y hy;obtain⟨ha,hb⟩:=hx;unfold bY at ha hb;simp only[Qc]at ha hb
    omega)
   rw[h0,Qf hx.1,Qf hx.2];simp;omega
  ·by_cases ha:bY x 0 p=true
   ·rw[Qf ha,Qe (λh=>hx ⟨ha,h⟩)];simp;omega
   ·rw [Qe ha]
    split
    all_goals
     simp;omega
theorem WW(l:List E)(x:E)(hn:0<=x.n)(hv:aH l=true):(bM l x).length<=l.length+2:=by
 unfold bM;refine Nat.le_trans (iV _) ?_;rw[Qg,Qg,List.length_singleton];have:=GY l x.a (x.a+x.n) oM ((bP l).1 hv).2;omega
theorem IJ{F:Fam}(hF:F.ok){nm:LU}{x:E}{B:Nat}(h:∀v∈F.vs,v.l.length<=B)(he:(aV F nm x).2.2=0):∀v∈(aV F nm x).1.vs,v.l.length<=B+2:=by
 unfold aV at he ⊢
 cases hg:aN F.vs nm with
 |none=>rw[hg]at he;simp at he
 | some u=>
  rw[hg]at he;simp only at he ⊢
  split
  ·rename_i h1
   rw[Qf h1]at he;simp at he
  ·rename_i h1
   intro v hv;have hu:=(aC hg).1;rcases dM.1 hv with rfl|⟨hv,_⟩
   ·simp only[Bool.not_eq_false,Qd]at h1;have h2:=(iK _ _ _).1 h1.1;have:=WW u.l x h2.2.1 (hF.vol u hu).valid;have:=h u hu;show(bM u.l x).length<=B+2;omega
   ·have:=h v hv;omega
theorem IK{k:Nat}{F:Fam}{nm l r:LU}{x:E}(h:zG l=some (x,r)):yB (k+1) F nm l=if (aV F nm x).2.2=0 then yB k (aV F nm x).1 nm r else some ((aV F nm x).1,(aV F nm x).2.2,r):=by
 show(match zG l with|none=>none|some (x,r)=>_)=_;rw[h]
theorem IL{k:Nat}{F:Fam}{nm l:LU}(h:zG l=none):yB (k+1) F nm l=none:=by
 show(match zG l with|none=>none|some (x,r)=>_)=_;rw[h]
theorem aHb{l r:LU}{x:E}(h:zG l=some (x,r)):x.wf:=by
 have:=zF h;unfold E.wf;omega
def AsI(w:Wd)(X:Nat)(nm:LU)(o:Option (Fam × Int × LU))(k j:Nat)(wr:Wd):Prop:=
 ∃(G:Fam) (ga:OA) (gc:Nat) (gm:Option Nat) (r:LU),CL w wr X (.slice ga G.N gc) (.map gm) G r/\G.ok/\(∀v∈G.vs,v.l.length+r.length<=9000)/\yB (k-j) G nm r=o
theorem aCi(F:Fam)(fv:Value)(X:Nat)(l:LU)(w:Wd)(hF:F.ok)(hs:∀v∈F.vs,v.l.length+l.length<=9000)(hf:bG w fv F)(hr:iJ w X l)(hl:l.length<=1000000)(hne:∃G q,asP F l=some (G,0,q)):
  ep 175 #[fv,.agg #[.pointer (cw X 0)]] w (Rj w X (asP F l)):=by
 obtain⟨a,c,m,rfl⟩:=hf.form;have H:=hD (CL.init w X _ _ F l hf hr _ rfl);have hrb:=H.o.rb
 cases hb:fO l with
 | none=>
  have U:=hD hb;have HP:Hid (asP F l=none):=hD (by unfold asP;rw[hb]);exact aEt
 | some p =>
  obtain⟨nm,l1⟩:=p;have hsh:=iD hb;have hnm:nm.length<=maxLen:=by simp only[maxLen];omega
  have U:=hD hb;have HNM:=hD hnm;have HF:=hD hF;have HS:Hid (∀v∈F.vs,v.l.length<=9000):=hD λv hv=>by have:=hs v hv;omega
  have HS2:=hD hs;obtain⟨⟨im,i1,i2,i3,i4⟩,e0,hi⟩:∃i e0,dW F nm=(i,e0):=⟨_,_,rfl⟩;have HI:=hD hi;have hasP:asP F l=if e0=0 then (match jB l1 with|none=>none|some (k,l2)=>yB k F nm l2)else some (F,e0,l1):=by
   unfold asP;rw[hb];simp only;rw[hi];rfl
  by_cases he0:e0=0
  ·subst he0;rw[Qf rfl]at hasP
   cases hb2:jB l1 with
   | none=>
    rw[hb2]at hasP;exact(hne.elim λG h=>h.elim λq h=>by rw[hasP]at h;cases h)
   | some p=>
    obtain⟨k,l2⟩:=p;rw[hb2]at hasP;have hk9:=(iU hb2);have HP:Hid (asP F l=yB k F nm l2):=hD hasP;have HNE:Hid (∃G q,yB k F nm l2=some (G,0,q)):=hD (by have h:=hne;rw[hasP]at h;exact h);clear hne;have U2:=hD hb2;have HS3:Hid (∀v∈F.vs,v.l.length+l2.length<=9000):=hD λv hv=>by have:=hs v hv;omega
    clear hb hb2 hf hr hs hnm hi hasP hF;rw[HP.o];obtain⟨O,hO⟩:∃O,yB k F nm l2=O:=⟨_,rfl⟩;have HO:=hD hO;have HKO:Hid (yB (k-0) F nm l2=O):=hD hO;rw[HO.o];have hk:k<=65536:=hk9.2;clear hO hk9 HP;go_enter func175,ntmps175;go_wp2_with fail;refine(pR H.o.r U.o).m ?_;rintro e w1 ⟨rfl,hr1,hg1⟩;replace H:=hD (H.o.went hr1 hg1);clear hr1 hg1 hrb;have b0:=H.o.fb.c0;have b1:=H.o.fb.c1;go_wp2_with fail;refine(BS F im i1 i2 i3 i4 0 _ nm _ HF.o HS.o H.o.fam HNM.o HI.o).m ?_;rintro e w2 ⟨rfl,hb2⟩;replace H:=hD ((H.o.aIx hb2).aIx (bR.aIw (cq #[nmV im,i1,i2,i3,i4] 94)));have hrb:=H.o.rb;clear hb2 b0 b1;go_wp2_with fail;refine(nQ H.o.r U2.o).m ?_;rintro e w3 ⟨rfl,hr1,hg1⟩;replace H:=hD (H.o.went hr1 hg1);clear hr1 hg1 hrb;go_wp2_with fail;go_loopw [9,24] (λe i wr=>∃(j:Nat),j<=k/\e= .int .i64 0/\i= .int .i64 j/\AsI w X nm O k j wr) (λ_ i _=>k-(intOf i).toNat)
    case atStart=>exact⟨0,Yf _,rfl,rfl,F,a,c,m,l2,H.o,HF.o,HS3.o,HKO.o⟩
    case round=>
     obtain⟨j,hj,rfl,rfl,G,ga,gc,gm,r,hc,hGo,hGs,hGp⟩:=hrel;have HC:=hD hc;have HGO:=hD hGo;have HGS:=hD hGs;have HGP:=hD hGp;clear hc hGo hGs hGp H HS HS2 HS3 HF HI;have b0:=HC.o.fb.c0;have b1:=HC.o.fb.c1;have hrb:=HC.o.rb;by_cases hlt:j<k
     ·cases hx:zG r with
      | none=>
       have:=HGP.o;rw[show k-j=(k-j-1)+1 by omega,IL hx]at this;exact(HNE.o.elim λG h=>h.elim λq h=>by rw[HO.o,<-this]at h;cases h)
      | some p=>
       obtain ⟨x,r2⟩:=p;obtain⟨G2,L2,x0,hd⟩:∃G2 L2 x0,aV G nm x=(G2,L2,x0):=⟨_,_,_,rfl⟩;have hgp:=HGP.o;rw[show k-j=(k-j-1)+1 by omega,IK hx,hd]at hgp;simp only at hgp;have hrs:=(zF hx).1;have hok2:=mU HGO.o nm x;rw[hd]at hok2;have HOK2:Hid G2.ok:=hD hok2;have hsh2:Hid (x0=0-> ∀v∈G2.vs,v.l.length+r2.length<=9000):=hD λh0 v hv=>by
        have h9:=IJ HGO.o (nm:=nm) (x:=x) (B:=9000-r.length) (λu hu=>by have:=HGS.o u hu;omega) (by rw[hd];exact h0) v (by rw[hd];exact hv);by_cases hem:G.vs=[]
        ·exfalso;have hq:(aV G nm x).2.2=9:=by
          unfold aV;have:aN G.vs nm=none:=by rw[hem];rfl
          rw[this]
         rw[hd]at hq;simp only at hq;omega
        ·obtain⟨u,hu⟩:=List.exists_mem_of_ne_nil _ hem;have:=HGS.o u hu;omega
       have HS9:Hid (∀v∈G.vs,v.l.length<=9000):=hD λv hv=>by have:=HGS.o v hv;omega
       have U3:=hD hx;have HWF:=hD (aHb hx);have HDE:=hD hd;have HGP2:=hD hgp;have f0:=HC.o.fb.f0;have f1:=HC.o.fb.f1;clear hx hd hgp hrs hok2;go_upto_region 8 with fail
       go_cut [9] from 26 to 34 (λe wx=>CLI w X G2 r2 x0 e wx)
       case first=>
        have HD:=hD (HC.o.aIx bR.drew)
        go_region_with (first
         |(go_at_call 179;(with_reducible refine(WF HD.o.r U3.o).m ?_);rintro e w4 ⟨rfl,hr3,hg3⟩;have H3:=hD (HD.o.went hr3 hg3);have b10:=H3.o.fb.c0;have b11:=H3.o.fb.c1;clear hr3 hg3)
         |(go_at_call 178;(with_reducible refine(ZH G G2 L2 x0 _ nm x _ HGO.o HS9.o H3.o.fam HNM.o HWF.o HDE.o).m ?_);rintro e w5 ⟨gv,sv,rfl,hg,ho,hb4⟩;obtain⟨ga2,gc2,gm2,rfl⟩:=hg.form;have H4:=hD (H3.o.aIx hb4);have HG:=hD hg;have b20:=H4.o.fb.c0;have b21:=H4.o.fb.c1;have f20:=H4.o.fb.f0;have f21:=H4.o.fb.f1;clear hg ho hb4))
        all_goals
         have HZ:Hid (CLI w X G2 r2 x0 (.int .i64 x0) (fP w5 w (.slice ga2 G2.N gc2) (.map gm2))):=hD ⟨rfl,ga2,gc2,gm2,H4.o.putF HG.o⟩;go_wp2_with fail;go_meet;exact HZ.o
       case rest=>
        obtain⟨rfl,ga2,gc2,gm2,hcl⟩:=hcut;have HC2:=hD hcl;clear hcl b0 b1 f0 f1 hrb;by_cases h0:x0=0
        ·subst h0;have hgp:=HGP2.o;rw[Qf rfl]at hgp;have HGP3:Hid (yB (k-(j+1)) G2 nm r2=O):=hD (by rw[show k-(j+1)=k-j-1 by omega];exact hgp);have HS3:=hD (hsh2.o rfl);clear hgp;go_wp2_with fail;go_roundw
         case rel=>exact⟨j+1,oM,rfl,by go_num,G2,ga2,gc2,gm2,r2,HC2.o,HOK2.o,HS3.o,HGP3.o⟩
         case measure=>simp[intOf];omega
        ·have:=HGP2.o;rw[Qe h0]at this;exact(HNE.o.elim λG h=>h.elim λq h=>by rw[HO.o,<-this]at h;injection h with h;injection h with _ h;injection h with h;exact absurd h h0)
     ·obtain rfl:O=some (G,0,r):=by
       have:=HGP.o;rw[show k-j=0 by omega]at this;exact this.symm
      have r0:=HC.o.r1.c0;have r1:=HC.o.r1.c1;have g0:=HC.o.r1.f0;have g1:=HC.o.r1.f1;go_wp2_with fail;have j0:=(HC.o.r1.put (.slice ga G.N gc) (.map gm)).c0;have j1:=(HC.o.r1.put (.slice ga G.N gc) (.map gm)).c1;refine br (.tuple #[.agg #[.slice ga G.N gc,.map gm],oo]) ?_;exact JI HC.o HC.o.fam 0
  ·exact(hne.elim λG h=>h.elim λq h=>by rw[hasP,Qe he0]at h;injection h with h;injection h with _ h;injection h with h;exact absurd h he0)
theorem Su(nm:LU):∀(k:Nat) (F:Fam) (l:LU) (G:Fam) (x:Int) (q:LU) (B:Nat),F.ok->(∀v∈F.vs,v.l.length+l.length<=B)->yB k F nm l=some (G,x,q)->G.ok/\(∀v∈G.vs,v.l.length<=B)/\q.length<=l.length
 |0,F,l,G,x,q,B,hF,hB,h=>by cases h;exact⟨hF,λv hv=>by have:=hB v hv;omega,Ye _⟩
 | k + 1,F,l,G,x,q,B,hF,hB,h=>by
  cases hx:zG l with
  |none=>rw[IL hx]at h;cases h
  | some p=>
   obtain⟨e,r⟩:=p;rw[IK hx]at h;have hsh:=(zF hx).1;by_cases h0:(aV F nm e).2.2=0
   ·rw [Qf h0]at h;have h1:∀v∈(aV F nm e).1.vs,v.l.length+r.length<=B:=λv hv=>by
     by_cases hem:F.vs=[]
     ·exfalso;have hq:(aV F nm e).2.2=9:=by
       unfold aV;have:aN F.vs nm=none:=by rw[hem];rfl
       rw[this]
      omega
     ·obtain⟨u,hu⟩:=List.exists_mem_of_ne_nil _ hem;have h5:=hB u hu;have:=IJ hF (nm:=nm) (x:=e) (B:=B-l.length) (λu hu=>by have:=hB u hu;omega) h0 v hv;omega
    obtain⟨g1,g2,g3⟩:=Su nm k _ r G x q B (mU hF nm e) h1 h;exact⟨g1,g2,oM⟩
   ·rw [Qe h0]at h;cases h;refine⟨mU hF nm e,λv hv=> ?_,oM⟩;have:(aV F nm e).1=eP:=by
     unfold aV at h0 ⊢
     cases hg:aN F.vs nm with
     |none=>rfl
     | some u=>
      rw[hg]at h0;simp only at h0 ⊢
      split
      ·rfl
      ·rename_i h9
       rw[Qe h9]at h0;exact absurd rfl h0
    rw[this]at hv;cases hv
theorem aCa(l:List E)(p n:Int)(hn:0<=n)(hv:aH l=true):(gD l p n).length<=l.length+1:=by
 rw[nI l p n hn hv];refine Nat.le_trans (iV _) ?_;rw[Qg];exact GY l p (p+n) oM ((bP l).1 hv).2
theorem aCc{k:Nat}{F G:Fam}{x:Int}{l q:LU}{B:Nat}(hF:F.ok)(hB:∀v∈F.vs,v.l.length+l.length<=B)(h:Dm k F l=some (G,x,q)):G.ok/\(∀v∈G.vs,v.l.length<=B):=by
 have hB':∀v∈F.vs,v.l.length<=B:=λv hv=>by have:=hB v hv;omega
 unfold Dm at h
 split at h
 ·unfold asP at h
  cases hb:fO l with
  |none=>rw[hb]at h;cases h
  | some p=>
   obtain⟨nm,l1⟩:=p;have:=iD hb;rw[hb]at h;simp only at h
   split at h
   ·cases hn:jB l1 with
    |none=>rw[hn]at h;cases h
    | some p=>
     obtain⟨j,l2⟩:=p;have h2:=(iU hn).1;rw[hn]at h;obtain⟨g1,g2,_⟩:=Su nm j F l2 G x q B hF (λv hv=>by have:=hB v hv;omega) h;exact⟨g1,g2⟩
   ·cases h;exact⟨hF,hB'⟩
 ·split at h
  ·unfold unP at h
   cases hb:fO l with
   |none=>rw[hb]at h;cases h
   | some p=>
    obtain⟨nm,l1⟩:=p;have:=iD hb;rw[hb]at h;simp only at h
    cases hn:jB l1 with
    |none=>rw[hn]at h;cases h
    | some p=>
     obtain⟨a,l2⟩:=p;rw[hn]at h;simp only at h
     cases hm:jB l2 with
     |none=>rw[hm]at h;cases h
     | some p=>
      obtain⟨b,l3⟩:=p;rw[hm]at h;cases h;refine⟨Ep hF nm a b,λv hv=> ?_⟩;unfold bS at hv
      cases hg:aN F.vs nm with
      |none=>rw[hg]at hv;cases hv
      | some u=>
       rw[hg]at hv;simp only at hv
       split at hv
       ·cases hv
       ·have hu:=(aC hg).1;rcases dM.1 hv with rfl|⟨hv,_⟩
        ·have h5:=aCa u.l a b oM (hF.vol u hu).valid;have:=hB u hu;show(gD u.l a b).length<=B;omega
        ·exact hB' v hv
  ·split at h
   ·unfold crP at h
    cases hb:fO l with
    |none=>rw[hb]at h;cases h
    | some p=>
     obtain⟨nm,l1⟩:=p;rw[hb]at h;simp only at h
     cases hn:jB l1 with
     |none=>rw[hn]at h;cases h
     | some p=>
      obtain⟨a,l2⟩:=p;rw[hn]at h;simp only at h
      cases hm:jB l2 with
      |none=>rw[hm]at h;cases h
      | some p=>
       obtain⟨b,l3⟩:=p;rw[hm]at h;cases h;refine⟨Hd hF nm a b,λv hv=> ?_⟩;unfold aW at hv
       split at hv
       ·cases hv
       ·split at hv
        ·cases hv
        ·split at hv
         ·cases hv
         ·rcases dM.1 hv with rfl|⟨hv,_⟩
          ·simp
          ·exact hB' v hv
   ·split at h
    ·unfold clP at h
     cases hb:fO l with
     |none=>rw[hb]at h;cases h
     | some p=>
      obtain⟨nm,l1⟩:=p;rw[hb]at h;simp only at h
      cases hn:fO l1 with
      |none=>rw[hn]at h;cases h
      | some p=>
       obtain⟨ot,l2⟩:=p;rw[hn]at h;cases h;refine⟨Lp hF nm ot,λv hv=> ?_⟩;unfold bJ at hv
       cases hg:aN F.vs nm with
       |none=>rw[hg]at hv;cases hv
       | some u=>
        rw[hg]at hv;simp only at hv
        split at hv
        ·cases hv
        ·split at hv
         ·cases hv
         ·split at hv
          ·cases hv
          ·rcases dM.1 hv with rfl|⟨hv,_⟩
           ·exact hB' u (aC hg).1
           ·exact hB' v hv
    ·unfold deP at h
     cases hb:fO l with
     |none=>rw[hb]at h;cases h
     | some p=>
      obtain⟨nm,l1⟩:=p;rw[hb]at h;cases h;refine⟨BC hF nm,λv hv=> ?_⟩;unfold aZ at hv
      cases hg:aN F.vs nm with
      |none=>rw[hg]at hv;cases hv
      | some u=>
       rw[hg]at hv;exact hB' v (iB.1 hv).1
end Go.Proofs.YtphfgbbbejloaaaGreatDoor
namespace Go
section
variable{P:Program}{Q:Exit->Act->List Frame->Wd->Prop}{a:Act}{cs:List Frame}{w:Wd}
theorem Df{id:Nat}{ops:Array Oper}(hm:P.follows .mixedOrders=true)(h:∀t,wpOpsS P ops Q (Region.linearise .any ops t) a cs {w with drawn:=w.drawn+1}):(Code.region id ops true).wpS P Q a cs w:=by
 intro b k hb hr;have h2:=h (w.tape w.drawn (.order b.fn id));obtain⟨e,a',cs',w',q,r⟩:=wp_opsS _ a cs _ h2 b k hb hr;refine⟨e,a',cs',w',q,.of_steps (.one ?_) r⟩;have:=step_region_draw (P:=P) (b:=b) (a:=a) (k:=k) (cs:=cs) (w:=w) (ops:=ops) (id:=id);rw[this];simp only[Region.schedule,hm,Bool.true_or,if_true]
end
end Go
namespace Go.Proofs.YtphfgbbbejloaaaGreatDoor
open Go.Proofs.Tryz
open Go.RowKit Go.Maps
variable[Gst]
section
variable{W W':Wd}{X:Nat}
end
theorem QS(x:Int)(w:Wd):ep 114 #[.nilIface,x] w λe w'=>e= .returned (.int .i64 x)/\w=w':=by
 go_enter func114,ntmps114;go_wp2;go_ret;exact⟨rfl,rfl⟩
theorem QT(p:Addr)(x:Int)(w:Wd)(hc:w.cell? p=x)(hz:w.frozen? p=false):
  CallsD prog 113 #[.pointer (some p)] .returning w λe u' w'=>e= .returned (.tuple #[])/\u'= .returning/\w'=(w.setCell p x).drew:=by
 refine callsD_of_wpS func113 rfl λc₀ cs hu=> ?_;refine Df kR λt=> ?_;rcases Nat.mod_two_eq_zero_or_one t with ht|ht
 all_goals
  simp[Region.linearise,Region.linearise.go,Region.binds,List.range,List.range.loop,ht,Nat.mod_one];simp[wpOpsS,go_sem,recoverD,hu,hc,hz,ntmps113];refine(QS x _).m ?_;rintro e w' ⟨rfl,rfl⟩;simp[go_sem,hc,hz,bodyPostS,results,results113];cases c₀
  simp_all
theorem gY{H:Type}{P:Program}(w:Wd){ops:Array Oper}{rest:List Oper}{o:Oper}{a:Act}{Q:Exit->Act->Wd->Prop}
  (hg:o.guard=none) (m x v:Operand) (t:TypeId) (hop:o.op=Op.insert t m x v)
  (k e:TypeId) (K:Keyed P k) (ht:P.underlying t=some (.map k e)) (R:Value->Option (DataW H × List MemPlace)) (b n:Nat) (D:DataW H)
  (hm:a.eval m= .map (some b)) (hown:w.ownsMap P k R b n D) (hn:n<maxLen) (key val:Value) (kl:Lit) (hx:a.eval x=key) (hv:a.eval v=val) (hkey:keyOf P k key=some kl)
  (d:DataW H) (ps:List MemPlace) (hval:R val=some (d,ps))
  (hK:∀w',w'.ownsMap P k R b (n+1) (D.put kl d)->w.grownBy w' (some b)->wpList P ops Q rest (a.put o.dst undef) w'):
  wpList P ops Q (o::rest) a w:=by
 refine wpList_plain hg λK' hK'=> ?_;obtain⟨w',hrun,r1,r2⟩:=hown.update K ht hn hkey hval;unfold Oper.wp;simp[execOp,hop,hm,hx,hv,hrun,Result.andThen];exact hK' _ _ (hK w' r1 r2)
theorem sH:Keyed prog 199:=int_keyed underlying199
theorem Xv{k:Nat}(h:k<18446744073709551616):keyOf prog 199 (.int .u64 k)=some (.int .u64 k):=by
 refine keyOf_int_mk (k:=199) underlying199 (a:=(k:Int)) ?_;simp[Lit.wf,IntKind.min,IntKind.max,IntKind.signed,IntKind.bits];omega
def Vg(k:Nat):FuncId:=if k=1 then 175 else if k=2 then 180 else if k=3 then 181 else if k=4 then 182 else 183
def kH(k:Nat):Value:= .func (.func (Vg k)) #[] #[]
abbrev kL(k:Nat):Lit:= .int .u64 (k:Int)
def Fg:Nat->DataW Value
 |0=> .map []
 |k+1=>(Fg k).put (kL (k+1)) (.held (kH (k+1)))
def aHs(w:Wd)(e:Ending)(w':Wd):Prop:= ∃b,e= .returned (.map (some b))/\w'.ownsMap prog 199 lW b 5 (Fg 5)/\Below w w w'
theorem QP(w:Wd):ep 118 #[] w (aHs w):=by
 have hmm:= @run_makeMap prog;have H0:=hD (World.ownsMap_made w prog 199 lW);have HK:=hD (λk h=>Xv (k:=k) h);go_enter func118,ntmps118
 go_wp2_with (first
  |(refine gY _ rfl _ _ _ 206 rfl 199 204 sH underlying206 lW w.heap.size 0 (Fg 0) rfl H0.o dE (.int .u64 1) (kH 1) (kL 1) rfl rfl (HK.o 1 oM) (.held (kH 1)) [] rfl ?_;intro w1 h1 g1;have H1:=hD h1;have G1:=hD g1;clear h1 g1)
  |(refine gY _ rfl _ _ _ 206 rfl 199 204 sH underlying206 lW w.heap.size 1 (Fg 1) rfl H1.o dE (.int .u64 2) (kH 2) (kL 2) rfl rfl (HK.o 2 oM) (.held (kH 2)) [] rfl ?_;intro w2 h1 g1;have H2:=hD h1;have G2:=hD g1;clear h1 g1)
  |(refine gY _ rfl _ _ _ 206 rfl 199 204 sH underlying206 lW w.heap.size 2 (Fg 2) rfl H2.o dE (.int .u64 3) (kH 3) (kL 3) rfl rfl (HK.o 3 oM) (.held (kH 3)) [] rfl ?_;intro w3 h1 g1;have H3:=hD h1;have G3:=hD g1;clear h1 g1)
  |(refine gY _ rfl _ _ _ 206 rfl 199 204 sH underlying206 lW w.heap.size 3 (Fg 3) rfl H3.o dE (.int .u64 4) (kH 4) (kL 4) rfl rfl (HK.o 4 oM) (.held (kH 4)) [] rfl ?_;intro w4 h1 g1;have H4:=hD h1;have G4:=hD g1;clear h1 g1)
  |(refine gY _ rfl _ _ _ 206 rfl 199 204 sH underlying206 lW w.heap.size 4 (Fg 4) rfl H4.o dE (.int .u64 5) (kH 5) (kL 5) rfl rfl (HK.o 5 oM) (.held (kH 5)) [] rfl ?_;intro w5 h1 g1;have H5:=hD h1;have G5:=hD g1;clear h1 g1))
 go_ret;have hg:=(((G1.o.next G2.o).next G3.o).next G4.o).next G5.o;exact⟨w.heap.size,rfl,H5.o,((bQ w).aIw _).aJa hg λk hk=>by cases hk;exact Ye _⟩
theorem aFp(w:Wd):(zeroValue 204).run prog w= .ok .nilFunc w:=kR
theorem aCd:Fg 5= .map [(kL 1,.held (kH 1)),(kL 2,.held (kH 2)),(kL 3,.held (kH 3)),(kL 4,.held (kH 4)),(kL 5,.held (kH 5))]:=rfl
theorem aBk{k:Nat}:Maps.has (Fg 5) (kL k)=decide (1<=k/\k<=5):=by
 rw[aCd];show(([(kL 1,.held (kH 1)),(kL 2,.held (kH 2)),(kL 3,.held (kH 3)),(kL 4,.held (kH 4)),(kL 5,.held (kH 5))]:List (Lit × DataW Value)).any λp=>p.1.sameKey (kL k))=_;rw[Qw];simp[Lit.sameKey];omega
theorem aHk{k:Nat}(h:1<=k/\k<=5):(Fg 5).atKey (kL k) (.held .nilFunc)= .held (kH k):=by
 obtain⟨h1,h2⟩:=h
 match k,h1,h2 with
 |1,_,_=>rfl
 |2,_,_=>rfl
 |3,_,_=>rfl
 |4,_,_=>rfl
 |5,_,_=>rfl
theorem Zy{W:Wd}{b k:Nat}(h:W.ownsMap prog 199 lW b 5 (Fg 5))(hk:k<18446744073709551616):
  ∃v,(Instr.lookup 206 (.map (some b)) (.int .u64 k) true).run prog W= .ok (.tuple #[v,.bool (decide (1<=k/\k<=5))]) W/\(1<=k/\k<=5->v= .func (.func (Vg k)) #[] #[]):=by
 obtain⟨v,ps,hrun,hv⟩:=h.look_ok sH underlying206 (aFp W) (lV _) (Xv hk);rw[aBk]at hrun;refine⟨v,hrun,λh=> ?_⟩;rw[aHk h,lV]at hv;simp only[Option.some.injEq,Prod.mk.injEq,DataW.held.injEq]at hv;exact hv.1
theorem QN(k:Nat)(hk:1<=k/\k<=5)(args:Array Value)(W:Wd):(callFunc (Vg k) args).run prog W= .ok (.enter (Vg k) args) W:=by
 obtain⟨h1,h2⟩:=hk
 match k,h1,h2 with
 |1,_,_=>exact enters_of func175 kR rfl args W
 |2,_,_=>exact enters_of func180 kR rfl args W
 |3,_,_=>exact enters_of func181 kR rfl args W
 |4,_,_=>exact enters_of func182 kR rfl args W
 |5,_,_=>exact enters_of func183 kR rfl args W
theorem aHi(k:Nat)(hk:1<=k/\k<=5)(F:Fam)(fv:Value)(X:Nat)(l:LU)(w:Wd)(hF:F.ok)(hs:∀v∈F.vs,v.l.length+l.length<=9000)(hf:bG w fv F)(hr:iJ w X l)(hl:l.length<=1000000)(hne:∃G q,Dm k F l=some (G,0,q)):
  Calls prog (Vg k) #[fv,.agg #[.pointer (cw X 0)]] w (Rj w X (Dm k F l)):=by
 have h9:∀v∈F.vs,v.l.length<=9000:=λv hv=>by have:=hs v hv;omega
 obtain⟨h1,h2⟩:=hk
 match k,h1,h2 with
 |1,_,_=>exact aCi F fv X l w hF hs hf hr hl hne
 |2,_,_=>exact aCh F fv X l w hF h9 hf hr hl hne
 |3,_,_=>exact aCg F fv X l w hF h9 hf hr hl hne
 |4,_,_=>exact aCf F fv X l w hF h9 hf hr hl hne
 |5,_,_=>exact aCe F fv X l w hF h9 hf hr hl hne
def iO(W:Wd)(M:Nat)(F:Fam):Prop:= ∃u v,Bx W M 157 u v/\bG W (.agg #[u,v]) F
theorem aIh:3≠157:=dE
theorem iO.aIx{W W':Wd}{M:Nat}{F:Fam}(h:iO W M F)(hb:Below W W W'):iO W' M F:=by
 obtain⟨u,v,h1,h2⟩:=h;exact⟨u,v,h1.aIx hb,h2.keep hb⟩
theorem iO.form{W:Wd}{M:Nat}{F:Fam}(h:iO W M F):∃a c m,Bx W M 157 (.slice a F.N c) (.map m)/\bG W (.agg #[.slice a F.N c,.map m]) F:=by
 obtain⟨u,v,h1,h2⟩:=h;obtain⟨a,c,m,he⟩:=h2.form;injection he with he;have h3:=congrArg Array.toList he;simp at h3;obtain⟨rfl,rfl⟩:=h3;exact⟨a,c,m,h1,h2⟩
theorem iO.odd{W:Wd}{M:Nat}{F:Fam}(h:iO W M F):Odd W M:=by
 obtain⟨a,c,m,h1,_⟩:=h.form;exact h1.odd aIh (λc e=>by cases e) (λc e=>by cases e)
def aCx(w:Wd)(M:Nat)(G:Fam)(x:Int)(e:Ending)(w':Wd):Prop:=e= .returned (.int .i64 x)/\iO w' M G/\w.grownBy w' (some M)
structure AP(w W:Wd)(M:Nat)(x:Int)(F:Fam)(a:OA)(c:Nat)(m:Option Nat):Prop where
 e0:W (cw w 0)=x
 ef:W.frozen? (cw w 0)=false
 eo:Odd W w
 mb:Bx W M 157 (.slice a F.N c) (.map m)
 fam:bG W (.agg #[.slice a F.N c,.map m]) F
 ml:M<w.heap.size
 g:Below w w W
theorem aIl:3≠38:=dE
section
variable{w W W':Wd}{M X:Nat}{x y:Int}{F:Fam}{a:OA}{c:Nat}{m:Option Nat}{l r:LU}
theorem Odd.aIx{W W':Wd}{X:Nat}(h:Odd W X)(hb:Below W W W'):Odd W' X:=by
 obtain⟨t,h1,h2⟩:=h.ty;have hc:∀i,W' (cw X i)=W (cw X i):=λi=>hb.cell (p:=(cw X i)) h.lt;exact⟨λi hi=>(hc i).trans (h.two i hi),⟨t,h1,h2.keep hb⟩,λi c e=>h.nob i c ((hc i).symm.trans e)⟩
theorem Odd.grown{W W':Wd}{X Y:Nat}(h:Odd W X)(hg:W.grownBy W' (some Y))(hne:X≠Y):Odd W' X:=by
 obtain⟨t,h1,h2⟩:=h.ty;have hc:∀i,W' (cw X i)=W (cw X i):=λi=>World.cell?_of_block (hg.block X h.lt (λe=>hne (Qv e)));exact⟨λi hi=>(hc i).trans (h.two i hi),⟨t,h1,h2.grown hg hne⟩,λi c e=>h.nob i c ((hc i).symm.trans e)⟩
theorem AP.init(h:Bx w M 157 (.slice a F.N c) (.map m))(hf:bG w (.agg #[.slice a F.N c,.map m]) F):AP w (w.alloc (cq #[oo] 38)) M 0 F a c m:=by
 have hk:=(bQ w).aIw (cq #[oo] 38);refine⟨sM,sM,⟨λi hi=> ?_,⟨_,aIl,_,_,Yn⟩,λi c=> ?_⟩,h.aIx hk,hf.keep hk,h.lt,hk⟩
 ·rw[World.cell?_alloc_new];simp;omega
 ·rw[World.cell?_alloc_new]
  match i with
  |0=>simp
  |i+1=>simp
theorem AP.aIx(h:AP w W M x F a c m)(hb:Below W W W'):AP w W' M x F a c m:=
 ⟨hb.keep h.e0,hb.aJc h.e0 h.ef,h.eo.aIx hb,h.mb.aIx hb,h.fam.keep hb,h.ml,h.g.on hb⟩
theorem AP.went(h:AP w W M x F a c m)(hX:Odd W X)(hlt:w.heap.size<X)(hg:W.grownBy W' (some X)):AP w W' M x F a c m:=
 ⟨jQ hg h.e0 oM,oF hg h.e0 h.ef oM,h.eo.grown hg oM,h.mb.grown hg (λe=>by injection e with e;have:=h.ml;omega),h.fam.grown hX hg,h.ml,h.g.aJa hg λk hk=>by injection hk with hk;omega⟩
theorem AP.setE(h:AP w W M x F a c m)(y:Int):AP w (W.setCell (cw w 0) y) M y F a c m:=by
 have hg:=aJ W (cw w 0) y;refine⟨Qi _ _ _ h.e0,by rw[Qb];exact h.ef,⟨λi hi=>dL oM (h.eo.two i hi),?_,λi c=> ?_⟩,h.mb.grown hg (λe=>by injection e with e;simp only at e;have:=h.ml;omega),h.fam.grown h.eo hg,h.ml,h.g.setCell (Ye _) _⟩
 ·obtain⟨t,h1,h2⟩:=h.eo.ty;exact⟨t,h1,h2.set _ _⟩
 ·match i with
  |0=>rw[Qi _ _ _ h.e0];simp
  | i+1=>
   exact aEr
theorem AP.map(h:AP w W M x F a c m):iO W M F:=⟨_,_,h.mb,h.fam⟩
theorem AP.drew(h:AP w W M x F a c m):AP w W.drew M x F a c m:=h.aIx bR.drew
theorem AP.done(h:AP w W M x F a c m)(y:Int):aCx w M F y (.returned (.int .i64 y)) (W.setCell (cw w 0) y).drew:=
 ⟨rfl,(h.setE y).drew.map,dD (h.setE y).drew.g _⟩
end
theorem RB1.other{W W':Wd}{B X Y:Nat}{l:LU}(h:RB1 W B X l)(hY:Odd W Y)(hg:W.grownBy W' (some Y))(hb:B≠Y)(hx:X≠Y):RB1 W' B X l:=
 ⟨jQ hg h.c hb,h.r.other hY hg hx,h.ne⟩
theorem RB1.aIx{W W':Wd}{B X:Nat}{l:LU}(h:RB1 W B X l)(hb:Below W W W'):RB1 W' B X l:=⟨hb.keep h.c,h.r.aIx hb,h.ne⟩
def ApI(w:Wd)(M X B:Nat)(F:Fam)(a:OA)(c:Nat)(m:Option Nat)(G:Fam)(q:LU)(x:Int)(y:Value)(wx:Wd):Prop:=
 ∃Y ga gc gm,y= .pointer (cw Y 0)/\AP w wx M x F a c m/\RB1 wx B X q/\Bx wx Y 121 (.slice ga G.N gc) (.map gm)/\bG wx (.agg #[.slice ga G.N gc,.map gm]) G/\w.heap.size<Y/\Y≠X/\Y≠B
theorem ZO{w W:Wd}{M X B Y:Nat}{x0:Int}{F G:Fam}{a ga:OA}{c gc:Nat}{m gm:Option Nat}{q:LU}(h:AP w W M x0 F a c m)(hr:RB1 W B X q)(hb:Bx W Y 121 (.slice ga G.N gc) (.map gm))(hg:bG W (.agg #[.slice ga G.N gc,.map gm]) G)
  (h1:w.heap.size<Y) (h2:Y≠X) (h3:Y≠B) (h4:w.heap.size<X) (h5:w.heap.size<B) (x:Int):ApI w M X B F a c m G q x (.pointer (cw Y 0)) (W.setCell (cw w 0) x):=by
 have hge:=aJ W (cw w 0) x;exact⟨Y,ga,gc,gm,rfl,h.setE x,hr.other h.eo hge oM oM,hb.grown hge (λe=>by injection e with e;simp only at e;omega),hg.grown h.eo hge,h1,h2,h3⟩
theorem aCq{w W:Wd}{M X B:Nat}{x0:Int}{F G:Fam}{a ga:OA}{c gc:Nat}{m gm:Option Nat}{q:LU}(h:AP w W M x0 F a c m)(hr:RB1 W B X q)(hg:bG W (.agg #[.slice ga G.N gc,.map gm]) G)
  (h4:w.heap.size<X) (h5:w.heap.size<B) (x:Int):ApI w M X B F a c m G q x (.pointer (cw W 0)) ((W.alloc (cq #[.slice ga G.N gc,.map gm] 121)).setCell (cw w 0) x):=by
 have hk:=(bQ W).aIw (cq #[.slice ga G.N gc,.map gm] 121);have hx:=hr.r.odd.lt;have hb:=Qj W (cw B 0) hr.c;simp only at hb;exact ZO (h.aIx hk) (hr.aIx hk) (Bx.new W _ rfl _ _ _) (hg.keep hk) oM oM oM h4 h5 x
theorem aCp{w W:Wd}{M X B Y:Nat}{x0:Int}{F G:Fam}{a ga:OA}{c gc:Nat}{m gm:Option Nat}{q:LU}{u v:Value}(h:AP w W M x0 F a c m)(hr:RB1 W B X q)(hg:bG W (.agg #[.slice ga G.N gc,.map gm]) G)(hb:Bx W Y 121 sn (.map none))
  (h1:w.heap.size<Y) (h2:Y≠X) (h3:Y≠B) (h4:w.heap.size<X) (h5:w.heap.size<B) (x:Int):ApI w M X B F a c m G q x (.pointer (cw Y 0)) ((fP W Y (.slice ga G.N gc) (.map gm)).setCell (cw w 0) x):=by
 have hO:Odd W Y:=hb.odd PU (λc e=>by cases e) (λc e=>by cases e);have hge:=iE W Y (.slice ga G.N gc) (.map gm);exact ZO (h.went hO h1 hge) (hr.other hO hge (Ne.symm h3) (Ne.symm h2)) (hb.put _ _) (hg.grown hO hge) h1 h2 h3 h4 h5 x
structure AQ(w V:Wd)(M:Nat)(y:Int)(G:Fam):Prop where
 e0:V (cw w 0)=y
 ef:V.frozen? (cw w 0)=false
 eo:Odd V w
 mp:iO V M G
 ml:M<w.heap.size
 g:w.grownBy V (some M)
theorem AP.put{w W:Wd}{M:Nat}{x0:Int}{F G:Fam}{a:OA}{c:Nat}{m:Option Nat}{ga:OA}{gc:Nat}{gm:Option Nat}(h:AP w W M x0 F a c m)(hg:bG W (.agg #[.slice ga G.N gc,.map gm]) G):
  AQ w (fP W M (.slice ga G.N gc) (.map gm)) M x0 G:=by
 have hge:=iE W M (.slice ga G.N gc) (.map gm);have hO:=h.map.odd;have hne:w.heap.size≠M:=by have:=h.ml;omega
 exact⟨jQ hge h.e0 hne,oF hge h.e0 h.ef hne,h.eo.grown hge hne,⟨_,_,h.mb.put _ _,hg.grown hO hge⟩,h.ml,(dD h.g (some M)).next hge⟩
theorem AQ.setE{w V:Wd}{M:Nat}{y:Int}{G:Fam}(h:AQ w V M y G)(z:Int):AQ w (V.setCell (cw w 0) z) M z G:=by
 have hge:=aJ V (cw w 0) z;obtain⟨u,v,hb,hf⟩:=h.mp;refine⟨Qi _ _ _ h.e0,by rw[Qb];exact h.ef,⟨λi hi=>dL oM (h.eo.two i hi),?_,λi c=> ?_⟩,⟨u,v,hb.grown hge (λe=>by injection e with e;simp only at e;have:=h.ml;omega),hf.grown h.eo hge⟩,h.ml,?_⟩
 ·obtain⟨t,h1,h2⟩:=h.eo.ty;exact⟨t,h1,h2.set _ _⟩
 ·match i with
  |0=>rw[Qi _ _ _ h.e0];simp
  | i+1=>
   exact aEr
 ·have g:=h.g;exact⟨g.os,g.tape,g.output,by simpa [World.setCell]using g.size,λk hk hne=>(RowKit.Below.heap_setCell _ _ _ _ sO).trans (g.block k hk hne)⟩
theorem AQ.done{w V:Wd}{M:Nat}{y:Int}{G:Fam}(h:AQ w V M y G)(z:Int):aCx w M G z (.returned (.int .i64 z)) (V.setCell (cw w 0) z).drew:=by
 have q:=h.setE z;exact⟨rfl,q.mp.aIx bR.drew,q.g.next (dD bR.drew _)⟩
theorem ZJ(M k:Nat)(F G H:Fam)(l r q:LU)(a:OA)(c:Nat)(w:Wd)(hF:F.ok)(hs:∀v∈F.vs,v.l.length<=8000)(h:iO w M F)(hl:l.length<=256)(hr:RdY w a l)(hu:iG l=some (k,r))(hk:1<=k/\k<=5)(hc:Dm k F r=some (G,0,q))(he:Dl F G 0 q=(H,0)):
  ep 77 #[.pointer (cw M 0),.slice a l c] w (aCx w M H 0):=by
 have HE:=hD he;clear he;have HOK:=hD (aCc (B:=9000) hF (λv hv=>by have:=hs v hv;have:=qY hu;omega) hc);have U:=hD hu;have HK:=hD (VA hu);have HN:=hD hk;have hsh:=qY hu;have HC:=hD (λfv X W (h1:bG W fv F) (h2:iJ W X r)=>by
  have:=aHi k hk F fv X r W hF (λv hv=>by have:=hs v hv;omega) h1 h2 oM ⟨G,q,hc⟩;rw[hc]at this
  exact this)
 obtain⟨n,hn⟩:∃n,Vg k=n:=⟨_,rfl⟩;have hcf:=QN k hk;rw[hn]at HC hcf;clear hu hk hc hF hs hsh;obtain⟨ma,mc,mm,hmb,hfam⟩:=h.form;have HA:=hD (AP.init hmb hfam);have hl1:¬ (256:Int)<l.length:=oM
 have hmf:∀(fn:Fn) (first cap:Array Value) (w:Wd),(Instr.makeFunc fn first cap).run prog w= .ok (.func fn first cap) w:=λ_ _ _ _=>rfl;have hk:=(bQ w).aIw (cq #[oo] 38);have hr1:=hr.keep hk;clear h hr hk hmb hfam
 go_enter_defers func77,ntmps77
 go_wp2_with fail;refine(aAt l a c _ hr1).m ?_;rintro e w1 ⟨X,rfl,hX,hx,hb⟩;have hX1:w.heap.size<X:=by have h9:=hX;rw[World.size_alloc]at h9;omega
 have hw1:w.heap.size<w1.heap.size:=by have h9:=hb.size;rw[World.size_alloc]at h9;omega
 have hXw:=hx.odd.lt;have hk:=(bQ w1).aIw (cq #[.pointer (cw X 0)] 198);replace HA:=hD ((HA.o.aIx hb).aIx hk);have HX:=hD (RB1.mk (B:=w1.heap.size) sM (hx.aIx hk) oM);have e0:=HA.o.e0;have ef:=HA.o.ef;have hrb:=HX.o.c;clear hX hx hb hk hr1;go_wp2_with fail;refine(Br HX.o.r U.o).m ?_;rintro e w2 ⟨rfl,hr2,hg⟩;replace HA:=hD (HA.o.went HX.o.r.odd hX1 hg);replace HX:=hD (HX.o.went hr2 hg);have hw2:=hg.size;replace HX:=hD (HX.o.other HA.o.eo (aJ w2 (cw w 0) oo) oM oM);replace e0:=HA.o.e0;replace ef:=HA.o.ef;replace HA:=hD (HA.o.setE 0);have e1:=HA.o.e0;have ef1:=HA.o.ef;clear hr2 hg hrb;go_wp2_with fail;refine(LB _).m ?_;rintro e w3 ⟨rfl,rfl⟩;go_wp2_with fail;refine(QP _).m ?_;rintro e w4 ⟨b,rfl,hmap,hb⟩;obtain⟨v,hlook,hv⟩:=Zy hmap HK.o;obtain rfl:=hv HN.o;rw[show decide (1<=k/\k<=5)=true by simpa using HN.o]at hlook;replace HA:=hD (HA.o.aIx hb);replace HX:=hD (HX.o.aIx hb);clear hmap hb e0 ef e1 ef1 hv;go_upto_region 12 with fail;clear hlook;have e0:=HA.o.e0;have ef:=HA.o.ef;have m0:=HA.o.mb.c0;have m1:=HA.o.mb.c1;have hrb:=HX.o.c;clear hn
 go_cut [9] from 35 to 44 (λy wx=>ApI w M X w1 F ma mc mm G q 0 y wx)
 case first=>
  have HD:=hD HA.o.drew;have HXD:=hD HX.o.drew;have hka:=((bQ w4).aIw (cq #[sn,.map none] 121)).drew;have HL:=hD (HA.o.aIx hka);have HXL:=hD (HX.o.aIx hka);have HBL:=hD ((Bx.new w4 _ rfl sn (.map none) 121).aIx bR.drew);have hXw4:=HX.o.r.odd.lt;have hBw4:w1.heap.size<w4.heap.size:=Qj w4 (cw w1 0) HX.o.c;clear hka;refine wp_region_noPanic ?_
  go_region_with (first
   |((with_reducible refine(HC.o _ _ _ HD.o.fam HXD.o.r).m ?_);rintro e w5 ⟨gv,rfl,hg,hr5,hg5⟩;obtain⟨ga,gc,gm,rfl⟩:=hg.form;have H5:=hD (HD.o.went HXD.o.r.odd hX1 hg5);have HX5:=hD (HXD.o.went hr5 hg5);have HG5:=hD hg;have e5:=H5.o.e0;have ef5:=H5.o.ef;clear hg hr5 hg5)
   |((with_reducible refine(HC.o _ _ _ HL.o.fam HXL.o.r).m ?_);rintro e w5 ⟨gv,rfl,hg,hr5,hg5⟩;obtain⟨ga,gc,gm,rfl⟩:=hg.form;have H5:=hD (HL.o.went HXL.o.r.odd hX1 hg5);have HX5:=hD (HXL.o.went hr5 hg5);have HG5:=hD hg;have e5:=H5.o.e0;have ef5:=H5.o.ef;have HB5:=hD (HBL.o.grown hg5 (λe=>by injection e with e;omega));have y0:=HB5.o.c0;have y1:=HB5.o.c1;have y2:=HB5.o.f0;have y3:=HB5.o.f1;clear hg hr5 hg5))
  all_goals
   refine NoPanic.normal ?_;go_wp2_with fail;go_meet
   first
    |exact aCq H5.o HX5.o HG5.o hX1 hw1 0
    |exact aCp (u:= .map none) (v:= .map none) H5.o HX5.o HG5.o HB5.o oM oM oM hX1 hw1 0
 case rest=>
  obtain⟨Y,ga,gc,gm,rfl,hA,hR,hY,hG,hy1,hy2,hy3⟩:=hcut;replace HA:=hD hA;replace HX:=hD hR;have HY:=hD hY;have HG:=hD hG;clear hA hR hY hG e0 ef m0 m1 hrb HC hcf;have e0:=HA.o.e0;have ef:=HA.o.ef;have hrb:=HX.o.c;have y0:=HY.o.c0;have y1:=HY.o.c1;have hee:=HE.o;unfold Dl at hee;rw[Qe sM]at hee;have HD:=hD (λW (h:iJ W X q)=>WM h _ rfl);by_cases h9:q=[]
  rotate_left
  ·rw[Qf h9]at hee;simp at hee
  subst h9;rw[Qe sM]at hee;have HRM:=hD (λfv W (h:bG W fv G)=>zS G _ fv W HOK.o.1 HOK.o.2 h rfl);have hbd:=Ae HOK.o.1;by_cases h8:dC G<0
  ·rw[Qf h8]at hee;simp at hee
  ·rw[Qe h8]at hee;obtain rfl:G=H:=by cases hee;rfl
   generalize dC G=rm at *;clear hee HE;go_wp2_with fail;refine(HD.o _ HX.o.r).mono ?_;rintro e w6 ⟨rfl,rfl⟩;rw[Qf True.intro];go_wp2_with fail;refine(HRM.o _ _ HG.o).mono ?_;rintro e w6 ⟨rfl,hb⟩;replace HA:=hD (HA.o.aIx hb);replace HG:=hD (HG.o.keep hb);replace HY:=hD (HY.o.aIx hb);clear hb e0 ef y0 y1;have e0:=HA.o.e0;have ef:=HA.o.ef;have m0:=HA.o.mb.c0;have m1:=HA.o.mb.c1;have mf0:=HA.o.mb.f0;have mf1:=HA.o.mb.f1;have y0:=HY.o.c0;have y1:=HY.o.c1;have HP:=hD (HA.o.put HG.o);have p0:=HP.o.e0;have pf:=HP.o.ef;have HP2:=hD (HP.o.setE 0);go_wp2_with fail;refine leaves_cons (f:=113) (args:= #[.pointer (cw w 0)]) sM (by simp[go_sem]) ?_;refine(QT (cw w 0) 0 _ HP2.o.e0 HP2.o.ef).mono ?_;rintro e u' w'' ⟨rfl,rfl,rfl⟩;have j0:=(HP2.o.setE 0).e0;refine⟨.int .i64 0,(by rw[mP rfl];go_simp;done),?_⟩;exact HP2.o.done 0
theorem Pi(M:Nat)(F G:Fam)(l:LU)(a:OA)(c:Nat)(w:Wd)(hF:F.ok)(hs:∀v∈F.vs,v.l.length<=8000)(h:iO w M F)(hr:RdY w a l)(he:lH F l=(G,0)):
  ep 77 #[.pointer (cw M 0),.slice a l c] w (aCx w M G 0):=by
 unfold lH at he;by_cases hl:256<l.length
 ·rw[Qf hl]at he;simp at he
 rw[Qe hl]at he
 cases hu:iG l with
 |none=>rw[hu]at he;simp at he
 | some p=>
  obtain⟨k,r⟩:=p;rw[hu]at he;simp only at he;by_cases hk:1<=k/\k<=5
  ·rw [Qf hk]at he
   cases hc:Dm k F r with
   |none=>rw[hc]at he;simp at he
   | some p=>
    obtain⟨G',x,q⟩:=p;rw[hc]at he;by_cases h0:x=0
    ·subst h0;exact ZJ M k F G' G l r q a c w hF hs h oM hr hu hk hc he
    ·simp[Dl,h0]at he
  ·rw[Qe hk]at he;simp at he
theorem RdI.lit(W:Wd)(L:List Int)(h:L.length<=65536)(cs:Array Value)(hc:cs=(L.map (Value.int .i64)).toArray):RdI (W.alloc (.cells cs 3)) (cw W 0) L:=by
 subst hc;refine⟨h,.inr ⟨_,_,rfl,⟨_,_,Yn⟩,λk x hk=> ?_⟩⟩;rw[Nat.zero_add,World.cell?_alloc_new];simp[hk]
def Nu(w:Wd)(l:LU)(x:Int)(e:Ending)(w':Wd):Prop:=
 ∃a c,e= .returned (.tuple #[.slice a l c,x])/\RdY w' a l/\Below w w w'
theorem XF(n:Nat)(w:Wd)(hn:n<=65536)(hG:Gst.g=none):
  ep 46 #[n] w λe w'=>∃M,e= .returned (.tuple #[.pointer (cw M 0),oo])/\w.heap.size<=M/\iO w' M ⟨n,[]⟩/\Below w w w':=by
 have HG:=hD hG;clear hG;go_enter func46,ntmps46;go_wp2_with fail;refine(YW n w hn HG.o).m ?_;rintro e w1 ⟨fv,rfl,hf,hb⟩;obtain⟨a,c,m,rfl⟩:=hf.form;have hk:=(bQ w1).aIw (cq #[.slice a n c,.map m] 121);have hk2:=hk.aIw (cq #[.slice a n c,.map m] 157);have HM:Hid (iO ((w1.alloc (cq #[.slice a n c,.map m] 121)).alloc (cq #[.slice a n c,.map m] 157)) (cf w1) ⟨n,[]⟩):=hD ⟨_,_,Bx.new _ _ sM _ _ _,hf.keep hk2⟩;have HB:=hD (hb.on hk2);have hle:=hb.size;clear hf hb hk hk2;go_wp2_with fail;go_ret2;exact⟨_,rfl,oM,HM.o,HB.o⟩
theorem Pe(M:Nat)(F:Fam)(w:Wd)(h:iO w M F):
  ep 86 #[.pointer (cw M 0)] w λe w'=>∃fv,e= .returned fv/\bG w' fv F/\Below w w w':=by
 obtain⟨a,c,m,hb,hf⟩:=h.form;have hk:=(bQ w).aIw (cq #[sn,.map none] 121);have m0:=(hb.aIx hk).c0;have m1:=(hb.aIx hk).c1;have hk3:=(bQ w).aIw (cq #[.slice a F.N c,.map m] 121);have HF:=hD (hf.keep hk3);have HB:=hD hk3;clear hb hf h hk hk3;go_enter func86,ntmps86;go_wp2_with fail;have j0:(w.alloc (cq #[.slice a F.N c,.map m] 121)).cell? (cw w 0)=some (.slice a F.N c):=by simp
 have j1:(w.alloc (cq #[.slice a F.N c,.map m] 121)).cell? (cw w 1)=some (.map m):=by simp
 refine br (.agg #[.slice a F.N c,.map m]) ?_;exact⟨_,rfl,HF.o,HB.o⟩
theorem LH(M:Nat)(F:Fam)(w:Wd)(h:iO w M F):
  ep 76 #[.pointer (cw M 0)] w λe w'=>∃M2,e= .returned (.pointer (cw M2 0))/\w.heap.size<=M2/\iO w' M2 F/\Below w w w':=by
 obtain⟨a,c,m,hb,hf⟩:=h.form;have m0:=hb.c0;have m1:=hb.c1;have hk3:=(bQ w).aIw (cq #[.slice a F.N c,.map m] 157);have HM:Hid (iO (w.alloc (cq #[.slice a F.N c,.map m] 157)) w F):=hD ⟨_,_,Bx.new _ _ rfl _ _ _,hf.keep hk3⟩;have HB:=hD hk3;clear hb hf h hk3;go_enter func76,ntmps76;go_wp2_with fail;go_ret;exact⟨_,rfl,Ye _,HM.o,HB.o⟩
theorem aAy(l R:LU)(x:Int)(a:OA)(c:Nat)(w:Wd)(h:RdY w a l)(hR:(if x=0 then l else [])=R):
  ep 164 #[.slice a l c,x] w (Nu w R x):=by
 by_cases hx:x=0
 ·subst hx;rw[Qf rfl]at hR;subst hR;refine(Lu _ _).m ?_;rintro e w' ⟨rfl,rfl⟩;exact⟨a,c,rfl,h,bR⟩
 ·rw[Qe hx]at hR;subst hR;refine(aAx _ x (by simpa using hx) _).m ?_;rintro e w' ⟨rfl,rfl⟩;exact⟨none,0,rfl,RdY.nil _,bR⟩
theorem Dz(k:Nat)(nm:LU)(hk:k<128)(hn:nm.length<=1000000):(qO k nm).length<=nm.length+20:=by
 unfold qO;rw[Qg,Go.Lib.uvarint_small hk];have:=ET nm oM;simp;omega
theorem Lt(p n:Int)(l P:LU)(a:OA)(c:Nat)(w:Wd)(h:RdY w a l)(hl:l.length<=8000000)(hP:l++numsL [p,n]=P):
  ep 162 #[.slice a l c,.slice (cw w 0) 2 2] (w.alloc (cq #[p,n] 3)) λe w'=>∃a c,e= .returned (.slice a P c)/\RdY w' a P/\Below w w w':=by
 have hk:=(bQ w).aIw (cq #[p,n] 3);refine(yU [p,n] l a _ c 2 _ (h.keep hk) (RdI.lit w [p,n] sM _ rfl) oM sM).m ?_;rintro e w' ⟨v,rfl,⟨na,nc,rfl,hrd⟩,hb⟩;rw[hP]at hrd ⊢;exact⟨na,nc,rfl,hrd,hk.on hb⟩
theorem XB(M:Nat)(F G:Fam)(L:List E)(e0:Int)(nm R:LU)(p n:Int)(w:Wd)(hF:F.ok)(hs:∀v∈F.vs,v.l.length<=9000)(h:iO w M F)(hn:nm.length<=1000000)(hp: -9223372036854775808<=p/\p<=9223372036854775807)(he:bS F nm p n=(G,L,e0))(hR:(if e0=0 then uD nm p n else [])=R):
  ep 109 #[.pointer (cw M 0),nmV nm,p,n] w (Nu w R e0):=by
 obtain⟨a,c,m,hb,hf⟩:=h.form;have HM:=hD hb;have HFA:=hD hf;have hnm:nm.length<=maxLen:=by simp only[maxLen];omega
 clear hb hf h;have m0:=HM.o.c0;have m1:=HM.o.c1;have HU:=hD (Rm F G L e0 _ nm p n w hF hs HFA.o hnm hp he);have HLN:=hD (Dz 2 nm oM hn);obtain⟨P,hP⟩:∃P,uD nm p n=P:=⟨_,rfl⟩;have HP:Hid (qO 2 nm++numsL [p,n]=P):=hD hP;rw[hP]at hR;have HR:=hD hR;clear he hR hP;go_enter func109,ntmps109;go_wp2_with fail;refine HU.o.m ?_;rintro e w1 ⟨gv,sv,rfl,hg,ho,hb⟩;obtain⟨ga,gc,gm,rfl⟩:=hg.form;have HB:=hD (hb.aIw (cq #[.slice ga G.N gc,.map gm] 121));clear hg ho hb m0 m1;go_wp2_with fail;refine(sQ 2 nm _ oM hn).m ?_;rintro e w2 ⟨v2,rfl,ho,hb⟩;obtain⟨va,vc,rfl,_,_,hrd⟩:=ho.rd VY;replace HB:=hD (HB.o.on hb);have HN:=hD (Lt p n (qO 2 nm) P va vc w2 hrd VY HP.o);clear ho hb hrd;go_wp2_with fail;refine HN.o.m ?_;rintro e w3 ⟨na,nc,rfl,hrd,hb⟩;exact aEu
theorem Pf(M:Nat)(F G:Fam)(L:List E)(e0:Int)(nm R:LU)(w:Wd)(hF:F.ok)(hs:∀v∈F.vs,v.l.length<=9000)(h:iO w M F)(hn:nm.length<=1000000)(he:aZ F nm=(G,L,e0))(hR:(if e0=0 then uE nm else [])=R):
  ep 112 #[.pointer (cw M 0),nmV nm] w (Nu w R e0):=by
 obtain⟨a,c,m,hb,hf⟩:=h.form;have HM:=hD hb;have HFA:=hD hf;have hnm:nm.length<=maxLen:=by simp only[maxLen];omega
 clear hb hf h;have m0:=HM.o.c0;have m1:=HM.o.c1;have HU:=hD (MI F G L e0 _ nm w hF hs HFA.o hnm he);have HLN:=hD (Dz 5 nm oM hn);obtain⟨P,hP⟩:∃P,uE nm=P:=⟨_,rfl⟩;have HP:Hid (qO 5 nm=P):=hD hP;rw[hP]at hR;have HR:=hD hR;clear he hR hP;go_enter func112,ntmps112;go_wp2_with fail;refine HU.o.m ?_;rintro e w1 ⟨gv,sv,rfl,hg,ho,hb⟩;obtain⟨ga,gc,gm,rfl⟩:=hg.form;have HB:=hD (hb.aIw (cq #[.slice ga G.N gc,.map gm] 121));clear hg ho hb m0 m1;go_wp2_with fail;refine(sQ 5 nm _ oM hn).m ?_;rintro e w2 ⟨v2,rfl,ho,hb⟩;rw[HP.o]at ho;obtain⟨na,nc,rfl,_,_,hrd⟩:=ho.rd (by rw[<-HP.o];have:=HLN.o;omega);clear ho;exact aEu
def crE(F:Fam)(nm:LU)(n r:Int):Int:=if (aW F nm n r).2=0 then fG F n r else (aW F nm n r).2
def clE(F:Fam)(nm ot:LU):Int:=if (bJ F nm ot).2=0 then eD F nm else (bJ F nm ot).2
theorem Pg(M:Nat)(F:Fam)(e0:Int)(nm R:LU)(p n:Int)(w:Wd)(hF:F.ok)(hs:∀v∈F.vs,v.l.length<=9000)(h:iO w M F)(hn:nm.length<=1000000)(he:crE F nm p n=e0)(hR:(if e0=0 then uF nm p n else [])=R):
  ep 110 #[.pointer (cw M 0),nmV nm,p,n] w (Nu w R e0):=by
 obtain⟨a,c,m,hb,hf⟩:=h.form;have HM:=hD hb;have HFA:=hD hf;have hnm:nm.length<=maxLen:=by simp only[maxLen];omega
 clear hb hf h;have m0:=HM.o.c0;have m1:=HM.o.c1;obtain⟨G,x,hc⟩:∃G x,aW F nm p n=(G,x):=⟨_,_,rfl⟩;have HU:=hD (MM F G x _ nm p n w hF HFA.o hnm hc);have HLN:=hD (Dz 3 nm oM hn);obtain⟨P,hP⟩:∃P,uF nm p n=P:=⟨_,rfl⟩;have HP:Hid (qO 3 nm++numsL [p,n]=P):=hD hP;rw[hP]at hR;have HR:=hD hR;unfold crE at he;rw[hc]at he;simp only at he;by_cases hx:x=0
 ·subst hx;rw[Qf rfl]at he;have HQ:=hD (λW (h:bG W (.agg #[.slice a F.N c,.map m]) F)=>NH F e0 _ p n W hF hs h he);clear he hR hP hc;go_enter func110,ntmps110;go_wp2_with fail;refine HU.o.m ?_;rintro e w1 ⟨gv,rfl,hg,hb⟩;obtain⟨ga,gc,gm,rfl⟩:=hg.form;have HB:=hD (hb.aIw (cq #[.slice ga G.N gc,.map gm] 121));clear hg hb m0 m1;have m0:=(HM.o.aIx HB.o).c0;have m1:=(HM.o.aIx HB.o).c1;go_wp2_with fail;refine(HQ.o _ (HFA.o.keep HB.o)).m ?_;rintro e w5 ⟨rfl,hb⟩;replace HB:=hD (HB.o.on hb);clear hb m0 m1;exact Rx
 ·rw[Qe hx]at he;subst he;have hx0:(x==0)=false:=by simpa using hx
  clear hR hP hc hx;go_enter func110,ntmps110;go_wp2_with fail;refine HU.o.m ?_;rintro e w1 ⟨gv,rfl,hg,hb⟩;obtain⟨ga,gc,gm,rfl⟩:=hg.form;have HB:=hD (hb.aIw (cq #[.slice ga G.N gc,.map gm] 121));clear hg hb m0 m1;exact Rx
theorem Un(M:Nat)(F:Fam)(e0:Int)(nm ot R:LU)(w:Wd)(hF:F.ok)(hs:∀v∈F.vs,v.l.length<=9000)(h:iO w M F)(hn:nm.length<=1000000)(ho:ot.length<=1000000)(he:clE F nm ot=e0)(hR:(if e0=0 then uG nm ot else [])=R):
  ep 111 #[.pointer (cw M 0),nmV nm,nmV ot] w (Nu w R e0):=by
 obtain⟨a,c,m,hb,hf⟩:=h.form;have HM:=hD hb;have HFA:=hD hf;have hnm:nm.length<=maxLen:=by simp only[maxLen];omega
 clear hb hf h;have m0:=HM.o.c0;have m1:=HM.o.c1;have hot:ot.length<=maxLen:=by simp only[maxLen];omega
 obtain⟨G,x,hc⟩:∃G x,bJ F nm ot=(G,x):=⟨_,_,rfl⟩;have HU:=hD (Si F G x _ nm ot w hF hs HFA.o hnm hot hc);have HLN:=hD (Dz 4 nm oM hn);obtain⟨P,hP⟩:∃P,uG nm ot=P:=⟨_,rfl⟩;have HP:Hid (qO 4 nm++AV ot=P):=hD hP;rw[hP]at hR;have HR:=hD hR;unfold clE at he;rw[hc]at he;simp only at he;have hol:=ho;clear ho;by_cases hx:x=0
 ·subst hx;rw[Qf rfl]at he;have HQ:=hD (λW (h:bG W (.agg #[.slice a F.N c,.map m]) F)=>SY F e0 _ nm W hF hs h hnm he);clear he hR hP hc;go_enter func111,ntmps111;go_wp2_with fail;refine HU.o.m ?_;rintro e w1 ⟨gv,rfl,hg,hb⟩;obtain⟨ga,gc,gm,rfl⟩:=hg.form;have HB:=hD (hb.aIw (cq #[.slice ga G.N gc,.map gm] 121));clear hg hb m0 m1;have m0:=(HM.o.aIx HB.o).c0;have m1:=(HM.o.aIx HB.o).c1;go_wp2_with fail;refine(HQ.o _ (HFA.o.keep HB.o)).m ?_;rintro e w5 ⟨rfl,hb⟩;replace HB:=hD (HB.o.on hb);clear hb m0 m1;exact aEq
 ·rw[Qe hx]at he;subst he;have hx0:(x==0)=false:=by simpa using hx
  clear hR hP hc hx;go_enter func111,ntmps111;go_wp2_with fail;refine HU.o.m ?_;rintro e w1 ⟨gv,rfl,hg,hb⟩;obtain⟨ga,gc,gm,rfl⟩:=hg.form;have HB:=hD (hb.aIw (cq #[.slice ga G.N gc,.map gm] 121));clear hg hb m0 m1;exact aEq
theorem Zj(x:E):(Gj x).length<=30:=He _
theorem PY(l:List E)(k:Nat)(h:k<l.length):kG (l.take (k+1))=kG (l.take k)++Gj l[k]:=by
 unfold kG;rw[Qh h,List.flatMap_append];simp
theorem UR(l:List E):(kG l).length<=30*l.length:=by
 induction l with
 |nil=>simp[kG]
 | cons x r ih=>
  unfold kG at *;rw[List.flatMap_cons,Qg,List.length_cons];have:=Zj x;omega
theorem Xr(p n s:Int)(l P:LU)(a al:OA)(c cl:Nat)(w:Wd)(h:RdY w a l)(hL:RdI w al [p,n,s])(hl:l.length<=800000000)(hP:l++numsL [p,n,s]=P):
  ep 162 #[.slice a l c,.slice al 3 cl] w λe w'=>∃a c,e= .returned (.slice a P c)/\RdY w' a P/\Below w w w':=by
 refine(yU [p,n,s] l a al c cl w h hL hl sM).m ?_;rintro e w' ⟨v,rfl,⟨na,nc,rfl,hrd⟩,hb⟩;rw[hP]at hrd ⊢;exact⟨na,nc,rfl,hrd,hb⟩
end Go.Proofs.YtphfgbbbejloaaaGreatDoor
