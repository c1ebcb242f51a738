/-
  package mapper: Plan.
  Conditions: as each theorem says.
-/
import Derived.Test.YtaiklhbakldfhaaGreatHN
import Derived.Test.YtaiklhbakldfhaaGreatHF
import Derived.Deep.RegionHeld3
namespace Go.Proofs.YtaiklhbakldfhaaGreat
open Go.Lib (hid)
set_option linter.unusedSimpArgs false
set_option linter.unusedVariables false
set_option maxRecDepth 100000
set_option maxHeartbeats 16000000
open Go.RowKit Go.Maps
theorem aKc {cv wv:Value} (h:∀ b,cv.ownBlock=some b->wv.ownBlock≠some b):wv.ownBlock=none∨wv.ownBlock≠cv.ownBlock:=by
 cases hw:wv.ownBlock with
 |none=>exact .inl rfl
 |some b=>exact .inr fun e=>h b e.symm hw
theorem aPv {cv wv v1:Value} {w:World} {B:Nat} {l:List Sw} (h:∀ b,cv.ownBlock=some b->wv.ownBlock≠some b) (hw:kD w B wv l) (hv:v1.ownBlock=cv.ownBlock∨v1.ownBlock=some w.heap.size):∀ b,v1.ownBlock=some b->wv.ownBlock≠some b:=by
 intro b e he;rcases hv with hv|hv
 ·exact h b (hv.symm.trans e) he
 ·rw[hv]at e;injection e with e;have:=(hw.lt b he).2;omega
theorem yU {cv wv:Value} (h:∀ b,cv.ownBlock=some b->wv.ownBlock≠some b):cv.ownBlock=none∨cv.ownBlock≠wv.ownBlock:=by
 cases hc:cv.ownBlock with
 |none=>exact .inl rfl
 |some b=>exact .inr fun e=>h b hc e.symm
theorem aBt {cv wv v2:Value} {w:World} {B:Nat} {l:List E} (h:∀ b,cv.ownBlock=some b->wv.ownBlock≠some b) (hc:aG w B cv l) (hv:v2.ownBlock=wv.ownBlock∨v2.ownBlock=some w.heap.size):∀ b,cv.ownBlock=some b->v2.ownBlock≠some b:=by
 intro b e he;rcases hv with hv|hv
 ·exact h b e (hv.symm.trans he)
 ·rw[hv]at he;injection he with he;have:=(hc.lt b e).2;omega
theorem aNy.grown {w w':World} {T:Nat} {x:Bk} {row:Option Nat} (h:aNy w T 0 0 x) (hg:w.grownBy w' row) (hne:row≠some T):aNy w' T 0 0 x:=
 ⟨hg.cell h.c0 fun e=>hne e.symm,hg.cell h.c1 fun e=>hne e.symm,hg.cell h.c2 fun e=>hne e.symm,hg.cell h.c3 fun e=>hne e.symm,hg.cell h.c4 fun e=>hne e.symm,hg.cell h.c5 fun e=>hne e.symm,hg.cell h.c6 fun e=>hne e.symm,hg.cell h.c7 fun e=>hne e.symm⟩
theorem aLf (S:List Int) (u:Nat) (R:List Int) (h:R=S.drop u) (hu:u<S.length):∃ r0 R2,R=r0::R2/\S.getD u 0=r0/\R2=S.drop (u+1):=by
 subst h;exact⟨S[u],S.drop (u+1),List.drop_eq_getElem_cons hu,by rw[List.getD_eq_getElem?_getD,List.getElem?_eq_getElem hu];rfl,rfl⟩
theorem aMj {w:World} {a:Option Addr} {R:List Int} (h:R.length=0):RdI w a R:=by
 obtain rfl:=List.eq_nil_of_length_eq_zero h;exact⟨by simp,.inl rfl⟩
theorem aPg {w:World} {a:Option Addr} {r:Int} {R:List Int} (h:RdI w a (r::R)):∃ b o,a=some ⟨b,o,none⟩/\w.cell? ⟨b,o,none⟩=some (.int .i64 r)/\RdI w (some ⟨b,o+1,none⟩) R:=by
 obtain⟨h1,h2⟩:=h;obtain⟨b,o,rfl,ht,hc⟩:=h2.resolve_left (by simp);refine⟨b,o,rfl,hc 0 r rfl,by simp at h1;omega,.inr ⟨b,o+1,rfl,ht,fun k x hk=> ?_⟩⟩;have:=hc (k+1) x (by simpa using hk);rw[show o+1+k=o+(k+1) by omega];exact this
theorem bMe (M:List Bool) (n h:Nat) (a:Option Addr) (c:Nat) (w:World) (hr:Rd w a (aV M)) (hN:M.length<=65536) (hh:h<=M.length) (hf:n<=aL (dC M) M.length):
  Calls Tryz.prog 42 #[.agg #[.int .i64 M.length,.slice a (aV M).length c],.int .i64 n,.int .i64 h] w fun e w'=>∃ la lc a' k c',e= .returned (.tuple #[.slice la (fZ M n h).length lc,.agg #[.int .i64 M.length,.slice a' k c'],.int .i64 0])/\aG w' w.heap.size (.slice la (fZ M n h).length lc) (fZ M n h)/\Below w.heap.size w w':=by
 by_cases h0:n=0
 ·subst h0;refine(aWz M.length (aV M) h a c w hN hr (dA M) ((aIg _ _ _).2 ⟨by omega,by omega,by omega⟩)).mono ?_;rintro e w' ⟨rfl,hb⟩;exact⟨none,0,a,_,c,rfl,aG.nil _ _,hb⟩
 ·refine(bCl M n h a c w hr hN hh (by omega) hf).mono ?_;rintro e w' ⟨v1,v2,rfl,ho,⟨a',c',rfl,_⟩,hb⟩;have ht:=(sJ hN (n:=n) (h:=h) hf).perm;have hs:(fZ M n h).length<=46912496118443:=by have:=(aFl hN (n:=n) (h:=h) hf).2;omega
  clear ht;obtain⟨la,lc,rfl,_⟩:=ho.rd hs;exact⟨la,lc,a',_,c',rfl,ho,hb⟩
structure PlS (w W:World) (M:Nat) (F:Fam) (a:Option Addr) (c:Nat) (m:Option Nat) (ad:Option Addr) (D:List Bk):Prop where
 mb:Bx W M 69 (.slice a F.N c) (.map m)
 fam:bA W (.agg #[.slice a F.N c,.map m]) F
 data:RdB W ad D
 g:Below w.heap.size w W
theorem PlS.later {w W W':World} {M:Nat} {F:Fam} {a:Option Addr} {c:Nat} {m:Option Nat} {ad:Option Addr} {D:List Bk} (h:PlS w W M F a c m ad D) (hb:Below W.heap.size W W'):PlS w W' M F a c m ad D:=
 ⟨h.mb.later hb,h.fam.keep hb,h.data.keep hb,h.g.on hb⟩
def bKs (w:World) (L:List Sw) (N:List UInt8) (e:Ending) (w':World):Prop:=
 ∃a1 c1 a2 c2,e= .returned (.tuple #[.slice a1 L.length c1,.slice a2 N.length c2,.int .i64 0])/\aEl w' a1 L/\RdY w' a2 N/\Below w.heap.size w w'
theorem bAi {F:Fam} {l:List E} {p n k:Nat} (hl:aS F.N l=true) (hn:1<=n) (hk:gH F.C l p n=k) (hf:k<=aL (dC (eO F.C)) F.N):0<F.N:=by
 refine Nat.pos_of_ne_zero fun h0=> ?_;rw[h0]at hl hf;have hl0:l=[]:=by
  cases l with
  |nil=>rfl
  |cons x r=>have:=(aO _ _).1 hl x (by simp);omega
 subst hl0;have h1:=lC F.C [] p hn;rw[lV (i:=0) (aXw _ _),aFf]at h1;have:=iP (dC (eO F.C)) 0;omega
theorem dE.cap {w:World} {B:Nat} {a:Option Addr} {n c:Nat} {l:List Int} (h:dE w B (.slice a n c) l):l.length<=c:=by
 rcases h.2 with ⟨h1,hn⟩|⟨g,cap,cur,h1,hb,hg,hn,hc,hs,ht⟩
 ·omega
 ·injection h1 with _ _ h1;omega
theorem bEu (p:Int) (l P:List UInt8) (a al:Option Addr) (c cl:Nat) (w:World) (h:RdY w a l) (hL:RdI w al [p]) (hl:l.length<=800000000) (hP:l++encI p=P):
  Calls Tryz.prog 18 #[.slice a l.length c,.slice al 1 cl] w fun e w'=>∃ a c,e= .returned (.slice a P.length c)/\RdY w' a P/\Below w.heap.size w w':=by
 have hP2:l++numsL [p]=P:=by rw[<-hP];simp[numsL]
 refine(tV [p] l a al c cl w h hL hl (by simp)).mono ?_;rintro e w' ⟨v,rfl,⟨na,nc,rfl,hrd⟩,hb⟩;rw[hP2]at hrd ⊢;exact⟨na,nc,rfl,hrd,hb⟩
theorem qG (M:Nat) (F:Fam) (v:Vol) (p n cd k:Nat) (D:List Bk) (S:List Int) (ad:Option Addr) (w:World) (hF:F.ok) (hs:∀ v∈F.vs,v.l.length<=9000) (h:dU w M F) (hv:aP F.vs v.nm=some v) (hD:D.length=n) (hp:((p+n:Nat):Int)<=v.n) (hrd:RdB w ad D) (he:jR F v.nm p n=0) (hk:gH F.C v.l p n=k) (hf:k<=aL (dC (eO F.C)) F.N) (hS:sO F v.nm p k=S):
    Calls Tryz.prog 14 #[.pointer (some ⟨M,0,none⟩),nmV v.nm,.int .i64 p,.slice ad n cd] w (bKs w (wrL F.C v.l p S D n) (iU v.nm (joinL (chL F.C v.l p S n)))):=by
  have hok:=hF.vol v (aH hv).1;have hnl:=(jU hok.name).2;obtain⟨nm,vn,vr,l⟩:=v;simp only at hv hp he hk hS hnl ⊢;have hn2:=hok.n2;simp only at hn2;have HOK:=hid hok;have hN:=hF.hN;have hpe:=bAk (v:=⟨nm,vn,vr,l⟩) hF hv he;obtain⟨hn1,hn16,hcw⟩:=hpe;have h0N:=bAi hok.perm hn1 hk hf;have hn:nm.length<=1000000:=by omega
  have HRDD:=hid hrd;clear hok hrd;obtain⟨a,c,m,hb,hfa⟩:=h.form;have HP:=hid (⟨hb,hfa,HRDD.o,Below.refl _ _⟩:PlS w w M F a c m ad D);have HF:=hid hF;have HSH:=hid hs;have HMB:=hid h;have hnm:nm.length<=maxLen:=by simp only[maxLen];omega
  have m0:=hb.c0;have m1:=hb.c1;have HIN:=hid (sD F nm vn vr (aT l) (bF F.C l) 0 _ nm _ hF hs hfa hnm (by
    have:=aGx F (v:=⟨nm,vn,vr,l⟩) hF hv;simp only at this;rw[this];have:=wK hF (aH hv).1;simp only at this
    rw[this]))
  have hnz:((n:Int)==0)=false:=by simp;omega
  have HND:=hid (fun W h=>zR F k 0 (.agg #[.slice a F.N c,.map m]) nm p n W HF.o HSH.o h hnm (by omega) (by omega) (by
    have:=tX (v:=⟨nm,vn,vr,l⟩) hF hv p n hp;simp only at this
    rw[this,aFg,hk]))
  have HCW:=hid (fun W h=>aJi F 0 (.agg #[.slice a F.N c,.map m]) nm p n W HF.o HSH.o h hnm (by omega) (by omega) hcw);have HFR:=hid (fun W h=>bFb M F W HF.o h0N h);have HSS:=hid hS;have HV:=hid hv;have HFF:=hid hf;have HKK:=hid hk;have HD:=hid hD;clear hb hfa h hF hs HRDD he hcw hk hf hS hv hD;go_enter Tryz.func14,Tryz.ntmps14;go_wp2_with fail;refine HIN.o.mono ?_;rintro e w1 ⟨rfl,hb⟩;have hk1:=hb.bMq (.cells #[nmV nm,.int .i64 vn,.int .i64 vr,.int .i64 (aT l),.int .i64 (bF F.C l)] 73);have HP1:=hid (HP.o.later hk1);have HMB1:=hid (HMB.o.later hk1);clear hb hk1 m0 m1 HP HMB;have m0:=HP1.o.mb.c0;have m1:=HP1.o.mb.c1;go_wp2_with fail;refine(HND.o _ HP1.o.fam).mono ?_;rintro e w2 ⟨rfl,hb⟩;have HP2:=hid (HP1.o.later hb);have HMB2:=hid (HMB1.o.later hb);clear hb m0 m1 HP1 HMB1;have m0:=HP2.o.mb.c0;have m1:=HP2.o.mb.c1;go_wp2_with fail;refine(HCW.o _ HP2.o.fam).mono ?_;rintro e w3 ⟨rfl,hb⟩;have HP3:=hid (HP2.o.later hb);have HMB3:=hid (HMB2.o.later hb);clear hb m0 m1 HP2 HMB2;go_wp2_with fail;refine(HFR.o _ HMB3.o).mono ?_;rintro e w4 ⟨v4,rfl,⟨ua,uc,rfl,hur⟩,hb⟩;rw[kJ,F.bMs];have hk4:=hb.bMq (.cells #[.int .i64 F.N,.slice ua (aV (eO F.C)).length uc] 111);have HP4:=hid (HP3.o.later hk4);have HMB4:=hid (HMB3.o.later hk4);have HX4:=hid (Bx.new w4 _ rfl (.int .i64 F.N) (.slice ua (aV (eO F.C)).length uc) 111);have HU4:=hid (hur.keep ((Below.refl w4.heap.size w4).bMq (.cells #[.int .i64 F.N,.slice ua (aV (eO F.C)).length uc] 111)));clear hb hk4 hur HP3 HMB3 HIN HND HCW HFR;go_upto_region 17 with fail;generalize w4.alloc (.cells #[.int .i64 F.N,.slice ua (aV (eO F.C)).length uc] 111)=W0 at *;generalize w4.heap.size=X at *;obtain⟨q,hq,hqn⟩:∃ q:Nat,yI F nm p=q/\q<=F.N:=by
    have:=bFr HF.o nm p;exact⟨(yI F nm p).toNat,by omega,by omega⟩
  obtain⟨L,hL⟩:∃ L,fZ (eO F.C) k q=L:=⟨_,rfl⟩;have hML:(eO F.C).length=F.N:=by rw[kJ,F.bMs]
  have HTK:=hid (fun W h=>by
    have:=bMe (eO F.C) k q ua uc W h (by omega) (by omega) (by rw[hML];exact HFF.o);rw[hML,hL]at this
    exact this)
  have HTN:=hid (sJ (M:=eO F.C) (by omega) (n:=k) (h:=q) (by rw[hML];exact HFF.o));rw[hL]at HTN;have HSL:Hid (fT L=S):=hid (by
    have:=HSS.o;unfold sO at this;rw[hq,Int.toNat_natCast,hL]at this
    exact this)
  have HLW:=hid (aFl (M:=eO F.C) (by omega) (n:=k) (h:=q) (by rw[hML];exact HFF.o)).2;rw[hL]at HLW;have HHI:=hid (fun W h=>bFa M F q nm p W HF.o h hnm (by omega) hq);clear hq hL HSS
  go_cut [14,17] from 18 to 97 (fun x14 x17 wx=>x14= .int .i64 0/\ ∃la lc,x17= .slice la L.length lc/\Hid (PlS w wx M F a c m ad D)/\Hid (Rd wx la L)/\Hid (dU wx M F))
  case first=>
    have HPD:=hid (HP4.o.later (Below.refl _ _).drew);have HMD:=hid (HMB4.o.later (Below.refl _ _).drew);have HXD:=hid (HX4.o.later (Below.refl _ _).drew);have HUD:=hid (HU4.o.keep (Below.refl _ _).drew);have HKD:=hid ((Below.refl W0.heap.size W0).bMq (.cells #[.int .i64 0,.slice none 0 0] 111)).drew;have HBD:=hid (Below.refl W0.heap.size W0).drew;have HXDa:=hid (HX4.o.later HKD.o);have HMDa:=hid (HMB4.o.later HKD.o);have HZD:=hid ((Bx.new W0 _ rfl (.int .i64 0) (.slice none 0 0) 111).later (Below.refl _ _).drew);have HUDa:=hid (HU4.o.keep HKD.o)
    go_region_held3 (fun w'=>w'.cell? ⟨X,0,none⟩=some (.int .i64 F.N)/\w'.cell? ⟨X,1,none⟩=some (.slice ua (aV (eO F.C)).length uc))
        (first
          |with_reducible exact⟨HXD.o.c0,HXD.o.c1⟩
          |with_reducible exact⟨HXDa.o.c0,HXDa.o.c1⟩
          |with_reducible exact⟨HX5.o.c0,HX5.o.c1⟩
          |with_reducible exact⟨HX5a.o.c0,HX5a.o.c1⟩
          |with_reducible exact⟨HX6.o.c0,HX6.o.c1⟩
          |with_reducible exact⟨HX6a.o.c0,HX6a.o.c1⟩
          |with_reducible exact⟨HX6b.o.c0,HX6b.o.c1⟩
          |with_reducible exact⟨HX6c.o.c0,HX6c.o.c1⟩)
        (first
          |(go_at_call 43;(with_reducible refine(HHI.o _ HMD.o).mono ?_);rintro e w5 ⟨rfl,hb5⟩;have HB5:=hid (HBD.o.on hb5);have HX5:=hid (HXD.o.later hb5);have HU5:=hid (HUD.o.keep hb5);clear hb5;have HK5:=hid ((Below.refl w5.heap.size w5).bMq (.cells #[.int .i64 0,.slice none 0 0] 111));have HX5a:=hid (HX5.o.later HK5.o);have HU5a:=hid (HU5.o.keep HK5.o);have HZ5a:=hid (Bx.new w5 _ rfl (.int .i64 0) (.slice none 0 0) 111))
          |(go_at_call 43;go_loud ((with_reducible refine(HHI.o _ HMDa.o).mono ?_);rintro e w5 ⟨rfl,hb5⟩;have HB5:=hid (HKD.o.on hb5);have HX5:=hid (HXDa.o.later hb5);have HU5:=hid (HUDa.o.keep hb5);have HZ5:=hid (HZD.o.later hb5);clear hb5))
          |(go_at_call 42;(with_reducible refine(HTK.o _ HU5a.o).mono ?_);rintro e w6 ⟨la,lc,a6,k6,c6,rfl,ho6,hb6⟩;have HX6:=hid (HX5a.o.later hb6);have HO6:=hid ho6;have HB6:=hid ((HB5.o.on HK5.o).on hb6);have HZ6:=hid (HZ5a.o.later hb6);have hY6:w5.heap.size<(w5.alloc (.cells #[.int .i64 0,.slice none 0 0] 111)).heap.size:=HZ5a.o.lt;have hY7:=HB5.o.size;have HX6c:=hid (HX6.o.far (R:=w5.heap.size) (Nat.ne_of_lt HX5.o.lt) (.int .i64 F.N) (.slice a6 k6 c6));clear ho6 hb6;have z0:=HZ6.o.c0;have z1:=HZ6.o.c1;have z2:=HZ6.o.f0;have z3:=HZ6.o.f1)
          |(go_at_call 42;(with_reducible refine(HTK.o _ HU5.o).mono ?_);rintro e w6 ⟨la,lc,a6,k6,c6,rfl,ho6,hb6⟩;have HX6:=hid (HX5.o.later hb6);have HO6:=hid ho6;have HZ6:=hid (HZ5.o.later hb6);have HB6:=hid (HB5.o.on hb6);have hY6:=HZ5.o.lt;have HX6c:=hid (HX6.o.far (R:=W0.heap.size) (Nat.ne_of_lt HX4.o.lt) (.int .i64 F.N) (.slice a6 k6 c6));have hY7:W0.heap.size<=W0.heap.size:=Nat.le_refl _;clear ho6 hb6;have z0:=HZ6.o.c0;have z1:=HZ6.o.c1;have z2:=HZ6.o.f0;have z3:=HZ6.o.f1)
          |(go_at_call 42;(with_reducible refine(HTK.o _ HU5.o).mono ?_);rintro e w6 ⟨la,lc,a6,k6,c6,rfl,ho6,hb6⟩;have HX6:=hid (HX5.o.later hb6);have HO6:=hid ho6;have HB6:=hid (HB5.o.on hb6);clear ho6 hb6;have HX6a:=hid (HX6.o.later ((Below.refl w6.heap.size w6).bMq (.cells #[.int .i64 0,.slice none 0 0] 111)));have HK6:=hid ((Below.refl w6.heap.size w6).bMq (.cells #[.int .i64 F.N,.slice a6 k6 c6] 111));have HX6b:=hid (HX6.o.later HK6.o)))
    all_goals
      have hlw:=HLW.o;obtain⟨_,_,he6,hr6⟩:=HO6.o.rd (by omega)
      first
        | (have HBF:=hid (HB6.o.on HK6.o)
           have HPF:=hid (HP4.o.later HBF.o);have HMF:=hid (HMB4.o.later HBF.o);have HRF:=hid (((HO6.o.rd' (by omega)).keep HK6.o));go_wp2_with fail;go_meet
           exact⟨rfl,la,lc,rfl,HPF,HRF,HMF⟩)
        | (have hne:=fun e=>Nat.lt_irrefl _ (Nat.lt_of_lt_of_le hY6 (HO6.o.lt _ e).1)
           have HBF:=hid ((HB6.o.setCell (p:=⟨_,0,none⟩) hY7 (.int .i64 F.N)).setCell (p:=⟨_,1,none⟩) hY7 (.slice a6 k6 c6));have HPF:=hid (HP4.o.later HBF.o);have HMF:=hid (HMB4.o.later HBF.o);have HRF:=hid (((HO6.o.away ⟨_,0,none⟩ (.int .i64 F.N) hne).away ⟨_,1,none⟩ (.slice a6 k6 c6) hne).rd' (by omega));go_wp2_with fail;go_meet
           exact⟨rfl,la,lc,rfl,HPF,HRF,HMF⟩)
  case rest =>
    obtain ⟨rfl,la,lc,rfl,hP,hR,hM⟩:=hcut;have HLK:Hid ((fT L).length<=65536):=hid (by
      have:=(vG HTN.o.perm).1;have h2:=HTN.o.len;have h3:=iP (dC (eO F.C)) F.N;have h4:=HFF.o
      omega)
    have HSP:=hid (vG HTN.o.perm);have HLS:=hid (bAt L la lc _ hR.o (fun x hx=>by
      have:=(aO _ _).1 HTN.o.perm x hx;rw[hML]at this
      omega) HLK.o)
    rw [HSL.o]at HSP HLK HLS;have hSk:Hid (S.length=k):=hid (by
      have h1:=HSP.o.1;have h2:=HTN.o.len
      omega)
    clear HX4 HU4 HP4 HMB4 HTK HHI hR;go_wp2_with fail;refine HLS.o.mono ?_;rintro e wB ⟨vS,rfl,ho,hb⟩;obtain⟨fa0,fc0,rfl,hfr0⟩:=ho.rd HLK.o;have HPB:=hid (hP.o.later hb);have HFR:=hid hfr0;have HCP:=hid ho.cap;clear hP hM ho hb hfr0 HLS;go_upto_region 24 with fail;have HDL:=HD.o;obtain⟨i0,hi,hz0,hz1,hz2⟩:=info_parts kV;obtain⟨j0,hj,hy0,hy1,hy2⟩:=info_parts bLi;go_loopw [19,20,21,105] (fun fv wv cv iv wr=>∃ (i u:Nat) (fa:Option Addr) (fc:Nat) (R:List Int),i<=n/\R.length<=fc/\iv= .int .i64 i/\fv= .slice fa R.length fc/\Hid (R=S.drop (gH F.C l p i))/\Hid (RdI wB fa R)/\Hid (kD wr wB.heap.size wv (wrL F.C l p S D i))/\Hid (aG wr wB.heap.size cv (chL F.C l p S i))/\Hid (∀b,cv.ownBlock=some b->wv.ownBlock≠some b)/\Hid (Below wB.heap.size wB wr)) (fun _ _ _ iv _=>n-(intOf iv).toNat)
    case atStart=>exact⟨0,0,fa0,fc0,S,Nat.zero_le _,HCP.o,rfl,rfl,hid (by rw[aFf,List.drop_zero]),HFR,hid (kD.nil _ _),hid (aG.nil _ _),hid (fun b e=>by cases e),hid (Below.refl _ _)⟩
    case round =>
      obtain⟨i,u,fa,fc,R,hin,hRc,rfl,rfl,hR,hRI,hW,hC,hDJ,hB⟩:=hrel;clear HFR;have HPr:=hid (HPB.o.later hB.o);by_cases hlt:i<n
      · have hDi : i<D.length:=by rw[HD.o];exact hlt
        obtain⟨b,o,rfl,hat⟩:=HPr.o.data.at (by omega);obtain⟨⟨y0,y1,y2,y3,y4,y5,y6,y7⟩,hx⟩:∃ x,D[i]? =some x:=⟨D[i],List.getElem?_eq_getElem hDi⟩;obtain⟨q0,q1,q2,q3,q4,q5,q6,q7⟩:=hat i _ hx;simp only at q0 q1 q2 q3 q4 q5 q6 q7;have HGD:Hid (D.getD i Bk.zero=⟨y0,y1,y2,y3,y4,y5,y6,y7⟩):=hid (by rw[List.getD_eq_getElem?_getD,hx];rfl);have hka:=(Below.refl wr.heap.size wr).bMq (.cells #[.int .u8 y0,.int .u8 y1,.int .u8 y2,.int .u8 y3,.int .u8 y4,.int .u8 y5,.int .u8 y6,.int .u8 y7] 58);have HPa:=hid (HPr.o.later hka);have HBa:=hid (hB.o.on hka);have HWa:=hid (hW.o.keep hka);have HCa:=hid (hC.o.keep hka);have HTa:Hid (aNy (wr.alloc (.cells #[.int .u8 y0,.int .u8 y1,.int .u8 y2,.int .u8 y3,.int .u8 y4,.int .u8 y5,.int .u8 y6,.int .u8 y7] 58)) wr.heap.size 0 0 ⟨y0,y1,y2,y3,y4,y5,y6,y7⟩):=hid ⟨by simp,by simp,by simp,by simp,by simp,by simp,by simp,by simp⟩;have hBs:=hB.o.size;have HCT:Hid (∀b,u21.ownBlock=some b->b≠wr.heap.size):=hid fun b e he=>by have:=(hC.o.lt b e).2;omega
        have HWT:Hid (∀b,u20.ownBlock=some b->b≠wr.heap.size):=hid fun b e he=>by have:=(hW.o.lt b e).2;omega
        clear hat hx hka HPr hB hW hC hDi;go_upto_region 26 with fail;generalize wr.alloc (.cells #[.int .u8 y0,.int .u8 y1,.int .u8 y2,.int .u8 y3,.int .u8 y4,.int .u8 y5,.int .u8 y6,.int .u8 y7] 58)=W1 at *;generalize wr.heap.size=T at *;clear q0 q1 q2 q3 q4 q5 q6 q7;have m0:=HPa.o.mb.c0;have m1:=HPa.o.mb.c1;have HLUK:=hid (fun W h=>by
          have:=aHk F (.agg #[.slice a F.N c,.map m]) nm ((p:Int)+i) W HF.o h hnm (by omega);rw[aCa (v:=⟨nm,vn,vr,l⟩) HV.o (show 0<=(p:Int)+i by omega) (by simp only;omega)]at this
          exact this)
        have HXS:=hid (aXu (C:=F.C) (l:=l) (b:=(p:Int)+i));have HXN:=hid (aXv (C:=F.C) (l:=l) (b:=(p:Int)+i));have HFT:=hid (wI (l:=l) (p:Int) HOK.o.perm);have HFT:=hid (wI (l:=l) ((p:Int)+i) HOK.o.perm);simp only at HLUK;have HEX:Hid (exJ F.C l p i=exB F.C l ((p:Int)+i)):=hid rfl;have HPK:Hid (exJ F.C l p i=true->dI F.C l p S i=fK l ((p:Int)+i)):=hid (fun h=>aAd h);generalize hfs:fK l ((p:Int)+i)=s at *;generalize hfb:fH l ((p:Int)+i)=f at *;generalize exB F.C l ((p:Int)+i)=xb at *;clear hfs hfb;go_wp2_with fail;refine(HLUK.o _ HPa.o.fam).mono ?_;rintro e w2 ⟨rfl,hb⟩;have HP2:=hid (HPa.o.later hb);have HB2:=hid (HBa.o.on hb);have HW2:=hid (HWa.o.keep hb);have HC2:=hid (HCa.o.keep hb);have HT2:=hid (HTa.o.keep hb);clear hb HPa HBa HWa HCa HTa m0 m1 HLUK;cases f
        · have hxj:exJ F.C l p i=false:=by rw[HEX.o];exact HXN.o rfl
          have HXJ:=hid hxj;clear hxj;go_upto_region 28 with fail;have hu:=lC F.C l p (show i+1<=n by omega);rw[lV HXJ.o,HKK.o,<-hSk.o]at hu;have HGR:=hid (aLf S (gH F.C l p i) R hR.o (by omega));obtain⟨r0,R2,hRR,hr0,hR2⟩:=HGR.o;clear HGR;subst hRR;have HR2:Hid (R2=S.drop (gH F.C l p (i+1))):=hid (by rw[lV HXJ.o];exact hR2);have HPI:Hid (dI F.C l p S i=r0):=hid (by rw[aAe HXJ.o];exact hr0);obtain⟨fb,fo,rfl,hfat,HRI2⟩:=aPg hRI.o;have g0:=HB2.o.keep hfat;have HCH:Hid (chL F.C l p S (i+1)=chL F.C l p S i++[⟨(p:Int)+i,1,r0⟩]):=hid (by rw[aWr HXJ.o,HPI.o];rfl);have hcl:(chL F.C l p S i).length<=i:=aEy i;have hRl:R2.length+1<=fc:=hRc;have HRI3:=hid HRI2;clear hR hRI hR2 hr0 hfat hu HRI2 hRc;generalize chL F.C l p S i=CH at *;simp only[List.length_cons];refine aC (by kernel_rfl) (by kernel_rfl) ?_
          repeat(go_big_quiet_step (fail))
          refine wpQuiet_nil ?_;intro _ hw';obtain⟨nq,hw''⟩:=hw';subst hw''
          all_goals
            generalize hW:World.next _ nq=W3;have hb3:Below w2.heap.size w2 W3:=by rw[<-hW];exact Below.bMt (Below.refl _ _) _
            have HB3:=hid (HB2.o.on hb3);have HW3:=hid (HW2.o.keep hb3);have HC3:=hid (HC2.o.keep hb3);have HT3:=hid (HT2.o.keep hb3);clear hb3 hW HB2 HW2 HC2 HT2 HP2 g0
            go_upto_region 30 with (at_builtin;(refine aM _ rfl _ _ 76 rfl wB.heap.size 81 i0 (.agg #[.int .i64 0,.int .i64 0,.int .i64 0]) 3 24 Tryz.underlying76 hi hz0 hz1 hz2 rfl (by decide) _ _ _ rfl (World.ownsRow.alloc HC3.o _) ⟨W3.heap.size,0,none⟩ 1 1 (E.cells (⟨(p:Int)+i,1,r0⟩:E)) rfl rfl (rF _ _ (by simp) _ _) (bX _) (by omega) (by simp only[maxLen];omega) (by have:=HB3.o.size;simp only[World.size_alloc];omega) ?_);intro v1 w1 hown1 hgrow1 hwhere1)
            have hka:=(Below.refl W3.heap.size W3).bMq (.cells #[.int .i64 ((p:Int)+i),.int .i64 1,.int .i64 r0] 81);have hne:=aKc hDJ.o;have HB4:=hid ((HB3.o.on hka).bMu hgrow1 fun j hj=>(HC3.o.lt j hj).1);have HW4:=hid ((HW3.o.keep hka).other hgrow1 hne);have HC4:=hid (aG.snoc hown1 (by simp));have HT4:=hid ((HT3.o.keep hka).grown hgrow1 (fun e=>HCT.o _ e rfl));have HDJ4:=hid (aPv hDJ.o (HW3.o.keep hka) hwhere1);rw[<-HCH.o]at HC4;clear hown1 hgrow1 hwhere1 hka hne HB3 HW3 HC3 HT3;have t0:=HT4.o.c0;have t1:=HT4.o.c1;have t2:=HT4.o.c2;have t3:=HT4.o.c3;have t4:=HT4.o.c4;have t5:=HT4.o.c5;have t6:=HT4.o.c6;have t7:=HT4.o.c7;simp only[Nat.zero_mul,Nat.zero_add]at t0 t1 t2 t3 t4 t5 t6 t7;have hwl:=jY (C:=F.C) (l:=l) (p:=p) (S:=S) (D:=D) i
            go_wp2_with (at_builtin;go_loud (refine aM _ rfl _ _ 53 rfl wB.heap.size 60 j0 (Sw.v ⟨0,Bk.zero⟩) 9 16 Tryz.underlying53 hj hy0 hy1 hy2 rfl (by decide) _ _ _ rfl (World.ownsRow.alloc HW4.o _) ⟨w1.heap.size,0,none⟩ 1 1 (Sw.cells ⟨r0,⟨y0,y1,y2,y3,y4,y5,y6,y7⟩⟩) rfl rfl (bEz _ _ (by simp) _ _) (Sw.one _) (by omega) (by simp only[maxLen];omega) (by have:=HB4.o.size;simp only[World.size_alloc];omega) ?_);intro v2 w5 hown2 hgrow2 hwhere2)
            have hkb:=(Below.refl w1.heap.size w1).bMq (.cells #[.int .i64 r0,.int .u8 y0,.int .u8 y1,.int .u8 y2,.int .u8 y3,.int .u8 y4,.int .u8 y5,.int .u8 y6,.int .u8 y7] 60);have HB5:=hid ((HB4.o.on hkb).bMu hgrow2 fun j hj=>(HW4.o.lt j hj).1);have HC5:=hid ((HC4.o.keep hkb).other hgrow2 (yU HDJ4.o));have HW5:=hid (kD.snoc hown2 (by rw[jY]));have HDJ5:=hid (aBt HDJ4.o (HC4.o.keep hkb) hwhere2);have HWN:Hid (wrL F.C l p S D (i+1)=wrL F.C l p S D i++[⟨r0,⟨y0,y1,y2,y3,y4,y5,y6,y7⟩⟩]):=hid (by rw[aFc,HPI.o,HGD.o]);rw[<-HWN.o]at HW5;clear t0 t1 t2 t3 t4 t5 t6 t7 hown2 hgrow2 hwhere2 hkb HB4 HC4 HW4 HDJ4 HT4;go_wp2_with fail;go_roundw
            case rel=>
              first
                |exact⟨i+1,0,some ⟨fb,fo+1,none⟩,fc-1,R2,by omega,by omega,by go_num,rfl,HR2,HRI3,HW5,HC5,HDJ5,HB5⟩
                |exact⟨i+1,0,(if fc=1 then some ⟨fb,fo,none⟩else some ⟨fb,fo+1,none⟩),fc-1,R2,by omega,by omega,by go_num,rfl,HR2,hid (by split;exact aMj (by omega);exact HRI3.o),HW5,HC5,HDJ5,HB5⟩
            case measure=>simp[intOf];omega
        · have hfs2:=HFT.o rfl;have hsx:=HXS.o rfl;obtain⟨kk,hkk⟩:∃ kk,F.C.getD s.toNat 0=kk:=⟨_,rfl⟩;have HCN:=hid (fun W h=>aNm F (.agg #[.slice a F.N c,.map m]) s kk W h (by unfold ofC;rw[if_pos (by rw[F.bMs];exact hfs2)];exact hkk));have m0:=HP2.o.mb.c0;have m1:=HP2.o.mb.c1;unfold bB at hsx;rw[hkk]at hsx;by_cases hone:kk=1
          · subst hone;have HXJ:Hid (exJ F.C l p i=true):=hid (by rw[HEX.o,hsx];rfl);have HPI:=hid (HPK.o HXJ.o);have HR2:Hid (R=S.drop (gH F.C l p (i+1))):=hid (by rw[aYt HXJ.o];exact hR.o);have HRI3:=hRI;have HCH:Hid (chL F.C l p S (i+1)=chL F.C l p S i):=hid (aYd HXJ.o);clear hsx hkk hR;go_wp2_with fail;refine(HCN.o _ HP2.o.fam).mono ?_;rintro e w4 ⟨rfl,hb⟩;have HB4:=hid (HB2.o.on hb);have HW4:=hid (HW2.o.keep hb);have HC4:=hid (HC2.o.keep hb);have HT4:=hid (HT2.o.keep hb);have HDJ4:=hDJ;rw[<-HCH.o]at HC4;clear hb HB2 HW2 HC2 HT2 HP2 m0 m1 HCN;go_upto_region 30 with fail;have t0:=HT4.o.c0;have t1:=HT4.o.c1;have t2:=HT4.o.c2;have t3:=HT4.o.c3;have t4:=HT4.o.c4;have t5:=HT4.o.c5;have t6:=HT4.o.c6;have t7:=HT4.o.c7;simp only[Nat.zero_mul,Nat.zero_add]at t0 t1 t2 t3 t4 t5 t6 t7;have hwl:=jY (C:=F.C) (l:=l) (p:=p) (S:=S) (D:=D) i
            go_wp2_with (at_builtin;go_loud (refine aM _ rfl _ _ 53 rfl wB.heap.size 60 j0 (Sw.v ⟨0,Bk.zero⟩) 9 16 Tryz.underlying53 hj hy0 hy1 hy2 rfl (by decide) _ _ _ rfl (World.ownsRow.alloc HW4.o _) ⟨w4.heap.size,0,none⟩ 1 1 (Sw.cells ⟨s,⟨y0,y1,y2,y3,y4,y5,y6,y7⟩⟩) rfl rfl (bEz _ _ (by simp) _ _) (Sw.one _) (by omega) (by simp only[maxLen];omega) (by have:=HB4.o.size;simp only[World.size_alloc];omega) ?_);intro v2 w5 hown2 hgrow2 hwhere2)
            have hkb:=(Below.refl w4.heap.size w4).bMq (.cells #[.int .i64 s,.int .u8 y0,.int .u8 y1,.int .u8 y2,.int .u8 y3,.int .u8 y4,.int .u8 y5,.int .u8 y6,.int .u8 y7] 60);have HB5:=hid ((HB4.o.on hkb).bMu hgrow2 fun j hj=>(HW4.o.lt j hj).1);have HC5:=hid ((HC4.o.keep hkb).other hgrow2 (yU HDJ4.o));have HW5:=hid (kD.snoc hown2 (by rw[jY]));have HDJ5:=hid (aBt HDJ4.o (HC4.o.keep hkb) hwhere2);have HWN:Hid (wrL F.C l p S D (i+1)=wrL F.C l p S D i++[⟨s,⟨y0,y1,y2,y3,y4,y5,y6,y7⟩⟩]):=hid (by rw[aFc,HPI.o,HGD.o]);rw[<-HWN.o]at HW5;clear t0 t1 t2 t3 t4 t5 t6 t7 hown2 hgrow2 hwhere2 hkb HB4 HC4 HW4 HDJ4 HT4;go_wp2_with fail;go_roundw
            case rel=>
              first
                |exact⟨i+1,0,fa,fc,R,by omega,by omega,by go_num,rfl,HR2,HRI3,HW5,HC5,HDJ5,HB5⟩
                |exact⟨i+1,0,(if fc=1 then some ⟨fb,fo,none⟩else some ⟨fb,fo+1,none⟩),fc-1,R,by omega,by omega,by go_num,rfl,HR2,hid (by split;exact aMj (by omega);exact HRI3.o),HW5,HC5,HDJ5,HB5⟩
            case measure=>simp[intOf];omega
          · have HXJ:Hid (exJ F.C l p i=false):=hid (by rw[HEX.o,hsx];simp[hone]);have hkb:(kk != 1)=true:=by simpa using hone
            clear hsx hkk hone;go_wp2_with fail;refine(HCN.o _ HP2.o.fam).mono ?_;rintro e w2 ⟨rfl,hb⟩;replace HP2:=hid (HP2.o.later hb);replace HB2:=hid (HB2.o.on hb);replace HW2:=hid (HW2.o.keep hb);replace HC2:=hid (HC2.o.keep hb);replace HT2:=hid (HT2.o.keep hb);clear hb m0 m1 HCN;go_upto_region 28 with fail;have hu:=lC F.C l p (show i+1<=n by omega);rw[lV HXJ.o,HKK.o,<-hSk.o]at hu;have HGR:=hid (aLf S (gH F.C l p i) R hR.o (by omega));obtain⟨r0,R2,hRR,hr0,hR2⟩:=HGR.o;clear HGR;subst hRR;have HR2:Hid (R2=S.drop (gH F.C l p (i+1))):=hid (by rw[lV HXJ.o];exact hR2);have HPI:Hid (dI F.C l p S i=r0):=hid (by rw[aAe HXJ.o];exact hr0);obtain⟨fb,fo,rfl,hfat,HRI2⟩:=aPg hRI.o;have g0:=HB2.o.keep hfat;have HCH:Hid (chL F.C l p S (i+1)=chL F.C l p S i++[⟨(p:Int)+i,1,r0⟩]):=hid (by rw[aWr HXJ.o,HPI.o];rfl);have hcl:(chL F.C l p S i).length<=i:=aEy i;have hRl:R2.length+1<=fc:=hRc;have HRI3:=hid HRI2;clear hR hRI hR2 hr0 hfat hu HRI2 hRc;generalize chL F.C l p S i=CH at *;simp only[List.length_cons];refine aC (by kernel_rfl) (by kernel_rfl) ?_
            repeat(go_big_quiet_step (fail))
            refine wpQuiet_nil ?_;intro _ hw';obtain⟨nq,hw''⟩:=hw';subst hw''
            all_goals
              generalize hW:World.next _ nq=W3;have hb3:Below w2.heap.size w2 W3:=by rw[<-hW];exact Below.bMt (Below.refl _ _) _
              have HB3:=hid (HB2.o.on hb3);have HW3:=hid (HW2.o.keep hb3);have HC3:=hid (HC2.o.keep hb3);have HT3:=hid (HT2.o.keep hb3);clear hb3 hW HB2 HW2 HC2 HT2 HP2 g0
              go_upto_region 30 with (at_builtin;(refine aM _ rfl _ _ 76 rfl wB.heap.size 81 i0 (.agg #[.int .i64 0,.int .i64 0,.int .i64 0]) 3 24 Tryz.underlying76 hi hz0 hz1 hz2 rfl (by decide) _ _ _ rfl (World.ownsRow.alloc HC3.o _) ⟨W3.heap.size,0,none⟩ 1 1 (E.cells (⟨(p:Int)+i,1,r0⟩:E)) rfl rfl (rF _ _ (by simp) _ _) (bX _) (by omega) (by simp only[maxLen];omega) (by have:=HB3.o.size;simp only[World.size_alloc];omega) ?_);intro v1 w1 hown1 hgrow1 hwhere1)
              have hka:=(Below.refl W3.heap.size W3).bMq (.cells #[.int .i64 ((p:Int)+i),.int .i64 1,.int .i64 r0] 81);have hne:=aKc hDJ.o;have HB4:=hid ((HB3.o.on hka).bMu hgrow1 fun j hj=>(HC3.o.lt j hj).1);have HW4:=hid ((HW3.o.keep hka).other hgrow1 hne);have HC4:=hid (aG.snoc hown1 (by simp));have HT4:=hid ((HT3.o.keep hka).grown hgrow1 (fun e=>HCT.o _ e rfl));have HDJ4:=hid (aPv hDJ.o (HW3.o.keep hka) hwhere1);rw[<-HCH.o]at HC4;clear hown1 hgrow1 hwhere1 hka hne HB3 HW3 HC3 HT3;have t0:=HT4.o.c0;have t1:=HT4.o.c1;have t2:=HT4.o.c2;have t3:=HT4.o.c3;have t4:=HT4.o.c4;have t5:=HT4.o.c5;have t6:=HT4.o.c6;have t7:=HT4.o.c7;simp only[Nat.zero_mul,Nat.zero_add]at t0 t1 t2 t3 t4 t5 t6 t7;have hwl:=jY (C:=F.C) (l:=l) (p:=p) (S:=S) (D:=D) i
              go_wp2_with (at_builtin;go_loud (refine aM _ rfl _ _ 53 rfl wB.heap.size 60 j0 (Sw.v ⟨0,Bk.zero⟩) 9 16 Tryz.underlying53 hj hy0 hy1 hy2 rfl (by decide) _ _ _ rfl (World.ownsRow.alloc HW4.o _) ⟨w1.heap.size,0,none⟩ 1 1 (Sw.cells ⟨r0,⟨y0,y1,y2,y3,y4,y5,y6,y7⟩⟩) rfl rfl (bEz _ _ (by simp) _ _) (Sw.one _) (by omega) (by simp only[maxLen];omega) (by have:=HB4.o.size;simp only[World.size_alloc];omega) ?_);intro v2 w5 hown2 hgrow2 hwhere2)
              have hkb:=(Below.refl w1.heap.size w1).bMq (.cells #[.int .i64 r0,.int .u8 y0,.int .u8 y1,.int .u8 y2,.int .u8 y3,.int .u8 y4,.int .u8 y5,.int .u8 y6,.int .u8 y7] 60);have HB5:=hid ((HB4.o.on hkb).bMu hgrow2 fun j hj=>(HW4.o.lt j hj).1);have HC5:=hid ((HC4.o.keep hkb).other hgrow2 (yU HDJ4.o));have HW5:=hid (kD.snoc hown2 (by rw[jY]));have HDJ5:=hid (aBt HDJ4.o (HC4.o.keep hkb) hwhere2);have HWN:Hid (wrL F.C l p S D (i+1)=wrL F.C l p S D i++[⟨r0,⟨y0,y1,y2,y3,y4,y5,y6,y7⟩⟩]):=hid (by rw[aFc,HPI.o,HGD.o]);rw[<-HWN.o]at HW5;clear t0 t1 t2 t3 t4 t5 t6 t7 hown2 hgrow2 hwhere2 hkb HB4 HC4 HW4 HDJ4 HT4;go_wp2_with fail;go_roundw
              case rel=>
                first
                  |exact⟨i+1,0,some ⟨fb,fo+1,none⟩,fc-1,R2,by omega,by omega,by go_num,rfl,HR2,HRI3,HW5,HC5,HDJ5,HB5⟩
                  |exact⟨i+1,0,(if fc=1 then some ⟨fb,fo,none⟩else some ⟨fb,fo+1,none⟩),fc-1,R2,by omega,by omega,by go_num,rfl,HR2,hid (by split;exact aMj (by omega);exact HRI3.o),HW5,HC5,HDJ5,HB5⟩
              case measure=>simp[intOf];omega
      · have hni:n=i:=by omega
        subst hni;have hcl:=aEy (C:=F.C) (l:=l) (p:=p) (S:=S) n;have hjl:=jL (chL F.C l p S n);have hwl:=jY (C:=F.C) (l:=l) (p:=p) (S:=S) (D:=D) n;have HVL:=hid (aLo (C:=F.C) (l:=l) (p:=p) (S:=S) (n:=n) (fun s hs=>by
          have:=HSP.o.2 s hs
          omega) (by omega) (by rw[HKK.o,hSk.o];exact Nat.le_refl _) n (Nat.le_refl _))
        obtain⟨ca,cc,rfl,hrc⟩:=hC.o.rd (by omega);obtain⟨wa,wc,rfl,hrw⟩:=hW.o.rd (by omega);have HCR:=hid hrc;have HWR:=hid hrw;have HB:=hid (HPB.o.g.on hB.o);clear hwl hrc hrw hB hC hW hDJ hRI hR HPr HPB HSP HKK hSk HSL HLK HLW HTN HD HFF HV HSH HF HOK HCP HDL hi hz0 hz1 hz2 hj hy0 hy1 hy2;generalize wrL F.C l p S D n=WL at *;have HJY:=hid (fun W a c h=>bFg (chL F.C l p S n) a c W h (fun x hx=>aBv (aK HVL.o x hx)) (by omega) HVL.o);have HNT:Hid (iU nm (joinL (chL F.C l p S n))=pG 1 nm++encI (joinL (chL F.C l p S n)).length++iZ (joinL (chL F.C l p S n))):=hid rfl;clear HVL;generalize chL F.C l p S n=CH at *;go_wp2_with fail;refine(HJY.o _ _ _ HCR.o).mono ?_;rintro e w2 ⟨vj,rfl,ho,hb⟩;obtain⟨ja,jc,rfl,hrj⟩:=ho.rd (by omega);have HJR:=hid hrj;have HB2:=hid (HB.o.on hb);have HWR2:=hid (HWR.o.keep hb);clear hb ho hrj HCR HWR HB HJY;generalize joinL CH=JL at *;have hjl16:JL.length<=16:=by omega
        clear hjl hcl;go_wp2_with fail;refine(nL 1 nm _ (by omega) hn).mono ?_;rintro e w3 ⟨vh,rfl,ho,hb⟩;have hhl:(pG 1 nm).length<=1000100:=by
          unfold pG;rw[List.length_append];have h1:=sV nm (by omega);have h2:=Go.Lib.uvarint_length64 (x:=1) (by omega);omega
        obtain ⟨ha,hc,rfl,_,_,hrh⟩:=ho.rd (by omega);have HHR:=hid hrh;have HB3:=hid (HB2.o.on hb);have HWR3:=hid (HWR2.o.keep hb);have HJR3:=hid (HJR.o.keep hb);clear hb ho hrh HB2 HWR2 HJR;obtain⟨P1,hP1⟩:∃ P,pG 1 nm=P:=⟨_,rfl⟩;obtain⟨Q,hQ⟩:∃ Q,P1++encI JL.length=Q:=⟨_,rfl⟩;have HQE:Hid (iU nm JL=Q++iZ JL):=hid (by rw[HNT.o,hP1,hQ]);have hQl:Q.length<=1000110:=by
          rw[<-hQ,List.length_append];have:=(wM (JL.length:Int)).2;rw[hP1]at hhl;omega
        rw [hP1]at hhl HHR;have HQ:=hid hQ;have HP1:=hid hP1;clear HNT hP1 hQ;have hk3:=(Below.refl w3.heap.size w3).bMq (.cells #[.int .i64 JL.length] 3);have HB4:=hid (HB3.o.on hk3);have HWR4:=hid (HWR3.o.keep hk3);have HJR4:=hid (HJR3.o.keep hk3);have HN1:=hid (fun c=>bEu (JL.length:Int) P1 Q ha _ c 1 _ (HHR.o.keep hk3) (RdI.lit w3 [(JL.length:Int)] (by simp) #[.int .i64 JL.length] rfl) (by omega) HQ.o);clear hk3 HHR HB3 HWR3 HJR3;rw[HP1.o];go_wp2_with fail;refine(HN1.o _).mono ?_;rintro e w4 ⟨qa,qc,rfl,hrq,hb⟩;have HQR:=hid hrq;have HB5:=hid (HB4.o.on hb);have HWR5:=hid (HWR4.o.keep hb);have HJR5:=hid (HJR4.o.keep hb);clear hb hrq HB4 HWR4 HJR4 HN1 HQ;have HQL:Hid (∀j,(Q++iZ (JL.take j)).length<=90000000):=hid fun j=>by
          rw[List.length_append];have h2:=aCm (JL.take j);have h3:(JL.take j).length<=JL.length:=by rw[List.length_take];omega
          omega
        go_wp2_with fail;go_loopw [27,167] (fun b i wi=>∃ (j:Nat) (ax:Option Addr) (cx:Nat) (X:List UInt8),j<=JL.length/\i= .int .i64 j/\b= .slice ax X.length cx/\Hid (X=Q++iZ (JL.take j))/\Hid (RdY wi ax X)/\Hid (Below w4.heap.size w4 wi)) (fun _ i _=>JL.length-(intOf i).toNat)
        case atStart=>exact⟨0,qa,qc,Q,Nat.zero_le _,rfl,rfl,hid (by simp[iZ]),HQR,hid (Below.refl _ _)⟩
        case round=>
          obtain⟨j,ax,cx,Y,hj,rfl,rfl,hX,hXY,hXB⟩:=hrel;by_cases hjl:j<JL.length
          · obtain⟨lb,lo,rfl,hat⟩:=(HJR5.o.keep hXB.o).at (by omega);obtain⟨x1,x2,x3⟩:=hat j _ (List.getElem?_eq_getElem hjl);have HE:=hid (aHm JL j hjl);have hj0:(0:Int)<=j:=by omega
            have hj1:(j:Int)<JL.length:=by omega
            have hYl:Y.length<=90000000:=by rw[hX.o];exact HQL.o j
            generalize JL[j]=z at *;clear hat;obtain⟨Y2,hY2⟩:∃ Q,Y++numsL [z.a,z.n,z.s]=Q:=⟨_,rfl⟩;have HY2:=hid hY2;have hk:=((Below.refl wr.heap.size wr).bMq (.cells #[.int .i64 z.a,.int .i64 z.n,.int .i64 z.s] 81));have hk2:=hk.bMq (.cells #[.int .i64 z.a,.int .i64 z.n,.int .i64 z.s] 3);have hRL:=RdI.lit (wr.alloc (.cells #[.int .i64 z.a,.int .i64 z.n,.int .i64 z.s] 81)) [z.a,z.n,z.s] (by simp) #[.int .i64 z.a,.int .i64 z.n,.int .i64 z.s] rfl;rw[World.size_alloc]at hRL;have HN3:=hid (aGf z.a z.n z.s Y Y2 ax _ cx 3 _ (hXY.o.keep hk2) hRL (by omega) hY2);clear hRL;have HK2:=hid (hXB.o.on hk2);clear hY2 hk hk2;go_wp2_with fail
            (with_reducible refine HN3.o.mono ?_)
            rintro e w7 ⟨ya,yc,rfl,hrd,hb⟩;have HRD:=hid hrd;have HB7:=hid (HK2.o.on hb);clear hrd hb;go_wp2_with fail;go_roundw
            case rel=>exact⟨j+1,ya,yc,Y2,by omega,by go_num,rfl,hid (by rw[HE.o,<-HY2.o,hX.o,List.append_assoc];rfl),HRD,HB7⟩
            case measure=>simp[intOf];omega
          · have hjn:j=JL.length:=by omega
            have HE:Hid (Y=iU nm JL):=hid (by rw[HQE.o,hX.o,hjn,List.take_length]);have HB8:=hid (HB5.o.on hXB.o);have HW8:=hid (HWR5.o.keep hXB.o);clear hX HQL HQE;go_wp2_with fail;refine(aQd _ _).mono ?_;rintro e w8 ⟨rfl,rfl⟩;go_wp2_with fail;refine bodyPost_ret (v:= .tuple #[.slice wa WL.length wc,.slice ax Y.length cx,.int .i64 0]) (by simp[results,Tryz.results14,go_sem]) rfl ⟨wa,wc,ax,cx,by rw[HE.o],HW8.o,by rw[<-HE.o];exact hXY.o,HB8.o⟩
end Go.Proofs.YtaiklhbakldfhaaGreat
