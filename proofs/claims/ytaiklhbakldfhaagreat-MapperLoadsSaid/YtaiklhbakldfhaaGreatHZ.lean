/-
  package mapper: Apply, where a change is made.
  package mapper: Apply, where a note cannot be read to its end; Apply as a whole.
  package mapper: New, Family, Copy, and the notes Trim, Create, Clone, Delete.
  Conditions: as each theorem says.
-/
import Derived.Test.YtaiklhbakldfhaaGreatHK
import Derived.Test.YtaiklhbakldfhaaGreatHL
import Derived.Test.YtaiklhbakldfhaaGreatGJ
namespace Go.Proofs.YtaiklhbakldfhaaGreat
open Go.Lib (hid)
set_option linter.unusedSimpArgs false
set_option linter.unusedVariables false
set_option maxRecDepth 100000
set_option maxHeartbeats 16000000
open Go.RowKit Go.Maps
def ApI (w:World) (M X B:Nat) (F:Fam) (a:Option Addr) (c:Nat) (m:Option Nat) (G:Fam) (q:List UInt8) (x:Int) (y:Value) (wx:World):Prop:=
 ∃Y ga gc gm,y= .pointer (some ⟨Y,0,none⟩)/\AP w wx M x F a c m/\RB1 wx B X q/\Bx wx Y 46 (.slice ga G.N gc) (.map gm)/\bA wx (.agg #[.slice ga G.N gc,.map gm]) G/\w.heap.size<Y/\Y≠X/\Y≠B
theorem bHl {w W:World} {M X B Y:Nat} {x0:Int} {F G:Fam} {a ga:Option Addr} {c gc:Nat} {m gm:Option Nat} {q:List UInt8} (h:AP w W M x0 F a c m) (hr:RB1 W B X q) (hb:Bx W Y 46 (.slice ga G.N gc) (.map gm)) (hg:bA W (.agg #[.slice ga G.N gc,.map gm]) G)
  (h1:w.heap.size<Y) (h2:Y≠X) (h3:Y≠B) (h4:w.heap.size<X) (h5:w.heap.size<B) (x:Int):ApI w M X B F a c m G q x (.pointer (some ⟨Y,0,none⟩)) (W.setCell ⟨w.heap.size,0,none⟩ (.int .i64 x)):=by
 have hge:=bV W ⟨w.heap.size,0,none⟩ (.int .i64 x);exact⟨Y,ga,gc,gm,rfl,h.setE x,hr.other h.eo hge (by omega) (by omega),hb.grown hge (fun e=>by injection e with e;simp only at e;omega),hg.grown h.eo hge,h1,h2,h3⟩
theorem bJy {w W:World} {M X B:Nat} {x0:Int} {F G:Fam} {a ga:Option Addr} {c gc:Nat} {m gm:Option Nat} {q:List UInt8} (h:AP w W M x0 F a c m) (hr:RB1 W B X q) (hg:bA W (.agg #[.slice ga G.N gc,.map gm]) G)
  (h4:w.heap.size<X) (h5:w.heap.size<B) (x:Int):ApI w M X B F a c m G q x (.pointer (some ⟨W.heap.size,0,none⟩)) ((W.alloc (.cells #[.slice ga G.N gc,.map gm] 46)).setCell ⟨w.heap.size,0,none⟩ (.int .i64 x)):=by
 have hk:=(Below.refl W.heap.size W).bMq (.cells #[.slice ga G.N gc,.map gm] 46);have hx:=hr.r.odd.lt;have hb:=World.block_lt_of_cell? W ⟨B,0,none⟩ hr.c;simp only at hb;exact bHl (h.later hk) (hr.later hk) (Bx.new W _ rfl _ _ _) (hg.keep hk) (by omega) (by omega) (by omega) h4 h5 x
theorem bJx {w W:World} {M X B Y:Nat} {x0:Int} {F G:Fam} {a ga:Option Addr} {c gc:Nat} {m gm:Option Nat} {q:List UInt8} {u v:Value} (h:AP w W M x0 F a c m) (hr:RB1 W B X q) (hg:bA W (.agg #[.slice ga G.N gc,.map gm]) G) (hb:Bx W Y 46 (.slice none 0 0) (.map none))
  (h1:w.heap.size<Y) (h2:Y≠X) (h3:Y≠B) (h4:w.heap.size<X) (h5:w.heap.size<B) (x:Int):ApI w M X B F a c m G q x (.pointer (some ⟨Y,0,none⟩)) ((dN W Y (.slice ga G.N gc) (.map gm)).setCell ⟨w.heap.size,0,none⟩ (.int .i64 x)):=by
 have hO:Odd W Y:=hb.odd aWa (fun c e=>by cases e) (fun c e=>by cases e);have hge:=gY W Y (.slice ga G.N gc) (.map gm);exact bHl (h.went hO h1 hge) (hr.other hO hge (Ne.symm h3) (Ne.symm h2)) (hb.put _ _) (hg.grown hO hge) h1 h2 h3 h4 h5 x
structure AQ (w V:World) (M:Nat) (y:Int) (G:Fam):Prop where
 e0:V.cell? ⟨w.heap.size,0,none⟩=some (.int .i64 y)
 ef:V.frozen? ⟨w.heap.size,0,none⟩=false
 eo:Odd V w.heap.size
 mp:dU V M G
 ml:M<w.heap.size
 g:w.grownBy V (some M)
theorem AP.put {w W:World} {M:Nat} {x0:Int} {F G:Fam} {a:Option Addr} {c:Nat} {m:Option Nat} {ga:Option Addr} {gc:Nat} {gm:Option Nat} (h:AP w W M x0 F a c m) (hg:bA W (.agg #[.slice ga G.N gc,.map gm]) G):
  AQ w (dN W M (.slice ga G.N gc) (.map gm)) M x0 G:=by
 have hge:=gY W M (.slice ga G.N gc) (.map gm);have hO:=h.map.odd;have hne:w.heap.size≠M:=by have:=h.ml;omega
 exact⟨jM hge h.e0 hne,oK hge h.e0 h.ef hne,h.eo.grown hge hne,⟨_,_,h.mb.put _ _,hg.grown hO hge⟩,h.ml,(bD h.g (some M)).next hge⟩
theorem AQ.setE {w V:World} {M:Nat} {y:Int} {G:Fam} (h:AQ w V M y G) (z:Int):AQ w (V.setCell ⟨w.heap.size,0,none⟩ (.int .i64 z)) M z G:=by
 have hge:=bV V ⟨w.heap.size,0,none⟩ (.int .i64 z);obtain⟨u,v,hb,hf⟩:=h.mp;refine⟨World.cell?_setCell_same _ _ _ h.e0,by rw[World.frozen?_setCell];exact h.ef,⟨fun i hi=>iE (by omega) (h.eo.two i hi),?_,fun i c=> ?_⟩,⟨u,v,hb.grown hge (fun e=>by injection e with e;simp only at e;have:=h.ml;omega),hf.grown h.eo hge⟩,h.ml,?_⟩
 ·obtain⟨t,h1,h2⟩:=h.eo.ty;exact⟨t,h1,h2.set _ _⟩
 ·match i with
  |0=>rw[World.cell?_setCell_same _ _ _ h.e0];simp
  | i+1=>
   intro e;rw[World.cell?_setCell_other _ _ _ _ (by simp)]at e;exact h.eo.nob _ _ e
 ·have g:=h.g;exact⟨g.os,g.tape,g.output,by simpa [World.setCell]using g.size,fun k hk hne=>(RowKit.Below.heap_setCell _ _ _ _ (by simp only;omega)).trans (g.block k hk hne)⟩
theorem AQ.done {w V:World} {M:Nat} {y:Int} {G:Fam} (h:AQ w V M y G) (z:Int):aJf w M G z (.returned (.int .i64 z)) (V.setCell ⟨w.heap.size,0,none⟩ (.int .i64 z)).drew:=by
 have q:=h.setE z;exact⟨rfl,q.mp.later (Below.refl _ _).drew,q.g.next (bD (Below.refl _ _).drew _)⟩
theorem bHi (M k:Nat) (F G H:Fam) (x y:Int) (l r q:List UInt8) (a:Option Addr) (c:Nat) (w:World) (hF:F.ok) (hs:∀ v∈F.vs,v.l.length<=8000) (h:dU w M F) (hl:l.length<=256) (hr:RdY w a l) (hu:gI l=some (k,r)) (hk:1<=k/\k<=5) (hc:aEj k F r=some (G,x,q)) (he:aEg F G x q=(H,y)):
  Calls Tryz.prog 13 #[.pointer (some ⟨M,0,none⟩),.slice a l.length c] w (aJf w M H y):=by
 have HE:=hid he;clear he;have HOK:=hid (aYc (B:=9000) hF (fun v hv=>by have:=hs v hv;have:=lL hu;omega) hc);have U:=hid hu;have HK:=hid (aFi hu);have HN:=hid hk;have hsh:=lL hu;have HC:=hid (fun fv X W (h1:bA W fv F) (h2:gG W X r)=>by
  have:=bGy k hk F fv X r W hF (fun v hv=>by have:=hs v hv;omega) h1 h2 (by omega);rw[hc]at this
  exact this)
 obtain⟨n,hn⟩:∃ n,aWq k=n:=⟨_,rfl⟩;have hcf:=aHt k hk;rw[hn]at HC hcf;clear hu hk hc hF hs hsh;obtain⟨ma,mc,mm,hmb,hfam⟩:=h.form;have HA:=hid (AP.init hmb hfam);have hl1:¬ (256:Int)<l.length:=by omega
 have hmf:∀ (fn:Fn) (first cap:Array Value) (w:World),(Instr.makeFunc fn first cap).run Tryz.prog w= .ok (.func fn first cap) w:=fun _ _ _ _=>rfl;have hk:=(Below.refl w.heap.size w).bMq (.cells #[.int .i64 0] 36);have hr1:=hr.keep hk;clear h hr hk hmb hfam
 go_enter_defers Tryz.func13,Tryz.ntmps13
 go_wp2_with fail;refine(aEo l a c _ hr1).mono ?_;rintro e w1 ⟨X,rfl,hX,hx,hb⟩;have hX1:w.heap.size<X:=by have h9:=hX;rw[World.size_alloc]at h9;omega
 have hw1:w.heap.size<w1.heap.size:=by have h9:=hb.size;rw[World.size_alloc]at h9;omega
 have hXw:=hx.odd.lt;have hk:=(Below.refl w1.heap.size w1).bMq (.cells #[.pointer (some ⟨X,0,none⟩)] 97);replace HA:=hid ((HA.o.later hb).later hk);have HX:=hid (RB1.mk (B:=w1.heap.size) (by simp) (hx.later hk) (by omega));have e0:=HA.o.e0;have ef:=HA.o.ef;have hrb:=HX.o.c;clear hX hx hb hk hr1;go_wp2_with fail;refine(mZ HX.o.r U.o).mono ?_;rintro e w2 ⟨rfl,hr2,hg⟩;replace HA:=hid (HA.o.went HX.o.r.odd hX1 hg);replace HX:=hid (HX.o.went hr2 hg);have hw2:=hg.size;replace HX:=hid (HX.o.other HA.o.eo (bV w2 ⟨w.heap.size,0,none⟩ (.int .i64 0)) (by omega) (by omega));replace e0:=HA.o.e0;replace ef:=HA.o.ef;replace HA:=hid (HA.o.setE 0);have e1:=HA.o.e0;have ef1:=HA.o.ef;clear hr2 hg hrb;go_wp2_with fail;refine(vX _).mono ?_;rintro e w3 ⟨rfl,rfl⟩;go_wp2_with fail;refine(zJ _).mono ?_;rintro e w4 ⟨b,rfl,hmap,hb⟩;obtain⟨v,hlook,hv⟩:=aHs hmap HK.o;obtain rfl:=hv HN.o;rw[show decide (1<=k/\k<=5)=true by simpa using HN.o]at hlook;replace HA:=hid (HA.o.later hb);replace HX:=hid (HX.o.later hb);clear hmap hb e0 ef e1 ef1 hv;go_upto_region 12 with fail;clear hlook;have e0:=HA.o.e0;have ef:=HA.o.ef;have m0:=HA.o.mb.c0;have m1:=HA.o.mb.c1;have hrb:=HX.o.c;clear hn
 go_cut [9] from 35 to 44 (fun y wx=>ApI w M X w1.heap.size F ma mc mm G q x y wx)
 case first=>
  have HD:=hid HA.o.drew;have HXD:=hid HX.o.drew;have hka:=((Below.refl w4.heap.size w4).bMq (.cells #[.slice none 0 0,.map none] 46)).drew;have HL:=hid (HA.o.later hka);have HXL:=hid (HX.o.later hka);have HBL:=hid ((Bx.new w4 _ rfl (.slice none 0 0) (.map none) 46).later (Below.refl _ _).drew);have hXw4:=HX.o.r.odd.lt;have hBw4:w1.heap.size<w4.heap.size:=World.block_lt_of_cell? w4 ⟨w1.heap.size,0,none⟩ HX.o.c;clear hka;refine wp_region_noPanic ?_
  go_region_with (first
   |((with_reducible refine(HC.o _ _ _ HD.o.fam HXD.o.r).mono ?_);rintro e w5 ⟨gv,rfl,hg,hr5,hg5⟩;obtain⟨ga,gc,gm,rfl⟩:=hg.form;have H5:=hid (HD.o.went HXD.o.r.odd hX1 hg5);have HX5:=hid (HXD.o.went hr5 hg5);have HG5:=hid hg;have e5:=H5.o.e0;have ef5:=H5.o.ef;clear hg hr5 hg5)
   |((with_reducible refine(HC.o _ _ _ HL.o.fam HXL.o.r).mono ?_);rintro e w5 ⟨gv,rfl,hg,hr5,hg5⟩;obtain⟨ga,gc,gm,rfl⟩:=hg.form;have H5:=hid (HL.o.went HXL.o.r.odd hX1 hg5);have HX5:=hid (HXL.o.went hr5 hg5);have HG5:=hid hg;have e5:=H5.o.e0;have ef5:=H5.o.ef;have HB5:=hid (HBL.o.grown hg5 (fun e=>by injection e with e;omega));have y0:=HB5.o.c0;have y1:=HB5.o.c1;have y2:=HB5.o.f0;have y3:=HB5.o.f1;clear hg hr5 hg5))
  all_goals
   refine NoPanic.normal ?_;go_wp2_with fail;go_meet
   first
    |exact bJy H5.o HX5.o HG5.o hX1 hw1 x
    |exact bJx (u:= .map none) (v:= .map none) H5.o HX5.o HG5.o HB5.o (by omega) (by omega) (by omega) hX1 hw1 x
 case rest=>
  obtain⟨Y,ga,gc,gm,rfl,hA,hR,hY,hG,hy1,hy2,hy3⟩:=hcut;replace HA:=hid hA;replace HX:=hid hR;have HY:=hid hY;have HG:=hid hG;clear hA hR hY hG e0 ef m0 m1 hrb HC hcf;have e0:=HA.o.e0;have ef:=HA.o.ef;have hrb:=HX.o.c;have y0:=HY.o.c0;have y1:=HY.o.c1;have hee:=HE.o;unfold aEg at hee;by_cases h0:x=0
  ·subst h0;rw[if_neg (by simp)]at hee;have HD:=hid (fun W (h:gG W X q)=>bDt h _ rfl);by_cases h9:q=[]
   ·subst h9;rw[if_neg (by simp)]at hee;have HRM:=hid (fun fv W (h:bA W fv G)=>lX G _ fv W HOK.o.1 HOK.o.2 h rfl);have hbd:=zZ HOK.o.1;by_cases h8:cB G<0
    ·rw[if_pos h8]at hee;obtain⟨rfl,rfl⟩:F=H/\11=y:=by cases hee;exact⟨rfl,rfl⟩
     generalize cB G=rm at *;clear hee HE;go_wp2_with fail;refine(HD.o _ HX.o.r).mono ?_;rintro e w6 ⟨rfl,rfl⟩;rw[if_pos True.intro];go_wp2_with fail;refine(HRM.o _ _ HG.o).mono ?_;rintro e w6 ⟨rfl,hb⟩;replace HA:=hid (HA.o.later hb);clear hb e0 ef;have e0:=HA.o.e0;have ef:=HA.o.ef;have HA2:=hid (HA.o.setE 11);go_wp2_with fail;refine leaves_cons (f:=32) (args:= #[.pointer (some ⟨w.heap.size,0,none⟩)]) (by simp) (by simp[go_sem]) ?_;refine(qY ⟨w.heap.size,0,none⟩ 11 _ HA2.o.e0 HA2.o.ef).mono ?_;rintro e u' w'' ⟨rfl,rfl,rfl⟩;have j0:=(HA2.o.setE 11).drew.e0;refine⟨.int .i64 11,(by rw[aA rfl];go_simp;done),?_⟩;exact HA2.o.done 11
    ·rw[if_neg h8]at hee;obtain⟨rfl,rfl⟩:G=H/\0=y:=by cases hee;exact⟨rfl,rfl⟩
     generalize cB G=rm at *;clear hee HE;go_wp2_with fail;refine(HD.o _ HX.o.r).mono ?_;rintro e w6 ⟨rfl,rfl⟩;rw[if_pos True.intro];go_wp2_with fail;refine(HRM.o _ _ HG.o).mono ?_;rintro e w6 ⟨rfl,hb⟩;replace HA:=hid (HA.o.later hb);replace HG:=hid (HG.o.keep hb);replace HY:=hid (HY.o.later hb);clear hb e0 ef y0 y1;have e0:=HA.o.e0;have ef:=HA.o.ef;have m0:=HA.o.mb.c0;have m1:=HA.o.mb.c1;have mf0:=HA.o.mb.f0;have mf1:=HA.o.mb.f1;have y0:=HY.o.c0;have y1:=HY.o.c1;have HP:=hid (HA.o.put HG.o);have p0:=HP.o.e0;have pf:=HP.o.ef;have HP2:=hid (HP.o.setE 0);go_wp2_with fail;refine leaves_cons (f:=32) (args:= #[.pointer (some ⟨w.heap.size,0,none⟩)]) (by simp) (by simp[go_sem]) ?_;refine(qY ⟨w.heap.size,0,none⟩ 0 _ HP2.o.e0 HP2.o.ef).mono ?_;rintro e u' w'' ⟨rfl,rfl,rfl⟩;have j0:=(HP2.o.setE 0).e0;refine⟨.int .i64 0,(by rw[aA rfl];go_simp;done),?_⟩;exact HP2.o.done 0
   ·rw[if_pos h9]at hee;obtain⟨rfl,rfl⟩:F=H/\5=y:=by cases hee;exact⟨rfl,rfl⟩
    have h99:(if q=[]then (0:Int)else 5)=5:=if_neg h9;have H99:=hid h99;have HA2:=hid (HA.o.setE 5);clear hee HE h9 h99;go_wp2_with fail;refine(HD.o _ HX.o.r).mono ?_;rintro e w6 ⟨rfl,rfl⟩;rw[H99.o];go_wp2_with fail;refine leaves_cons (f:=32) (args:= #[.pointer (some ⟨w.heap.size,0,none⟩)]) (by simp) (by simp[go_sem]) ?_;refine(qY ⟨w.heap.size,0,none⟩ 5 _ HA2.o.e0 HA2.o.ef).mono ?_;rintro e u' w'' ⟨rfl,rfl,rfl⟩;have j0:=(HA2.o.setE 5).drew.e0;refine⟨.int .i64 5,(by rw[aA rfl];go_simp;done),?_⟩;exact HA2.o.done 5
  ·rw[if_pos h0]at hee;obtain⟨rfl,rfl⟩:F=H/\x=y:=by cases hee;exact⟨rfl,rfl⟩
   have hx0:(x==0)=false:=by simpa using h0
   have hx1:(x != 0)=true:=by simp[bne,hx0]
   have HA2:=hid (HA.o.setE x);clear h0 hee HE;go_wp2_with fail;refine leaves_cons (f:=32) (args:= #[.pointer (some ⟨w.heap.size,0,none⟩)]) (by simp) (by simp[go_sem]) ?_;refine(qY ⟨w.heap.size,0,none⟩ x _ HA2.o.e0 HA2.o.ef).mono ?_;rintro e u' w'' ⟨rfl,rfl,rfl⟩;have j0:=(HA2.o.setE x).drew.e0;refine⟨.int .i64 x,(by rw[aA rfl];go_simp;done),?_⟩;exact HA2.o.done x
open Go.RowKit Go.Maps
theorem qK (a:Act) (d:Nat) (v:Value) (h:d≠4):(a.put (some d) v).tmps.getD 4 undef=a.tmps.getD 4 undef:=by
 show(a.tmps.setIfInBounds d v).getD 4 undef=_;rw[Array.getD_eq_getD_getElem?,Array.getD_eq_getD_getElem?,Array.getElem?_setIfInBounds_ne h]
def PanQ (w:World) (M:Nat) (F:Fam) (a:Option Addr) (c:Nat) (m:Option Nat) (D:List Deferred):Exit->Act->World->Prop
 | .panic ch,act,W=>ch=pan 5/\(∃x,AP w W M x F a c m)/\act.defers=D/\act.tmps.getD 4 undef= .pointer (some ⟨w.heap.size,0,none⟩)
 |_,_,_=>False
theorem bEn {w:World} {M:Nat} {F:Fam} {a:Option Addr} {c:Nat} {m:Option Nat} {act:Act} {W:World} {ch:List PanicEntry} (h:PanQ w M F a c m [{target:= .fn (.func 32) #[.pointer (some ⟨w.heap.size,0,none⟩)],args:= #[]}] (.panic ch) act W):
  bodyPostD Tryz.prog Tryz.f13 (aJf w M F 5) (.panic ch) act W:=by
 obtain⟨rfl,⟨x,h1⟩,h2,h3⟩:=h;show Leaves _ _ act.tmps _ act.defers _ _;rw[h2];refine leaves_cons (f:=32) (args:= #[.pointer (some ⟨w.heap.size,0,none⟩)]) (by simp) (by simp[go_sem]) ?_;refine(aLp ⟨w.heap.size,0,none⟩ _ 5 _ h1.e0 h1.ef).mono ?_;rintro e u' w'' ⟨rfl,rfl,rfl⟩;have j0:=(h1.setE 5).drew.e0;refine⟨.int .i64 5,(by rw[aA rfl,h3];go_simp;done),?_⟩;exact h1.done 5
theorem bCp (M k:Nat) (F:Fam) (l r:List UInt8) (a:Option Addr) (c:Nat) (w:World) (hF:F.ok) (hs:∀ v∈F.vs,v.l.length<=8000) (h:dU w M F) (hl:l.length<=256) (hr:RdY w a l) (hu:gI l=some (k,r)) (hk:1<=k/\k<=5) (hc:aEj k F r=none):
  Calls Tryz.prog 13 #[.pointer (some ⟨M,0,none⟩),.slice a l.length c] w (aJf w M F 5):=by
 have U:=hid hu;have HK:=hid (aFi hu);have HN:=hid hk;have hsh:=lL hu;have HC:=hid (fun fv X W (h1:bA W fv F) (h2:gG W X r)=>by
  have:=bGy k hk F fv X r W hF (fun v hv=>by have:=hs v hv;omega) h1 h2 (by omega);rw[hc]at this
  exact this)
 obtain⟨n,hn⟩:∃ n,aWq k=n:=⟨_,rfl⟩;have hcf:=aHt k hk;rw[hn]at HC hcf;clear hu hk hc hF hs hsh;obtain⟨ma,mc,mm,hmb,hfam⟩:=h.form;have HA:=hid (AP.init hmb hfam);have hl1:¬ (256:Int)<l.length:=by omega
 have hmf:∀ (fn:Fn) (first cap:Array Value) (w:World),(Instr.makeFunc fn first cap).run Tryz.prog w= .ok (.func fn first cap) w:=fun _ _ _ _=>rfl;have hk:=(Below.refl w.heap.size w).bMq (.cells #[.int .i64 0] 36);have hr1:=hr.keep hk;clear h hr hk hmb hfam
 go_enter_defers Tryz.func13,Tryz.ntmps13
 go_wp2_with fail;refine(aEo l a c _ hr1).mono ?_;rintro e w1 ⟨X,rfl,hX,hx,hb⟩;have hX1:w.heap.size<X:=by have h9:=hX;rw[World.size_alloc]at h9;omega
 have hw1:w.heap.size<w1.heap.size:=by have h9:=hb.size;rw[World.size_alloc]at h9;omega
 have hXw:=hx.odd.lt;have hk:=(Below.refl w1.heap.size w1).bMq (.cells #[.pointer (some ⟨X,0,none⟩)] 97);replace HA:=hid ((HA.o.later hb).later hk);have HX:=hid (RB1.mk (B:=w1.heap.size) (by simp) (hx.later hk) (by omega));have e0:=HA.o.e0;have ef:=HA.o.ef;have hrb:=HX.o.c;clear hX hx hb hk hr1;go_wp2_with fail;refine(mZ HX.o.r U.o).mono ?_;rintro e w2 ⟨rfl,hr2,hg⟩;replace HA:=hid (HA.o.went HX.o.r.odd hX1 hg);replace HX:=hid (HX.o.went hr2 hg);have hw2:=hg.size;replace HX:=hid (HX.o.other HA.o.eo (bV w2 ⟨w.heap.size,0,none⟩ (.int .i64 0)) (by omega) (by omega));replace e0:=HA.o.e0;replace ef:=HA.o.ef;replace HA:=hid (HA.o.setE 0);have e1:=HA.o.e0;have ef1:=HA.o.ef;clear hr2 hg hrb;go_wp2_with fail;refine(vX _).mono ?_;rintro e w3 ⟨rfl,rfl⟩;go_wp2_with fail;refine(zJ _).mono ?_;rintro e w4 ⟨b,rfl,hmap,hb⟩;obtain⟨v,hlook,hv⟩:=aHs hmap HK.o;obtain rfl:=hv HN.o;rw[show decide (1<=k/\k<=5)=true by simpa using HN.o]at hlook;replace HA:=hid (HA.o.later hb);replace HX:=hid (HX.o.later hb);clear hmap hb e0 ef e1 ef1 hv;go_upto_region 12 with fail;clear hlook;have e0:=HA.o.e0;have ef:=HA.o.ef;have m0:=HA.o.mb.c0;have m1:=HA.o.mb.c1;have hrb:=HX.o.c;clear hn;refine Code.wp_mono (Q:=PanQ w M F ma mc mm [{target:= .fn (.func 32) #[.pointer (some ⟨w.heap.size,0,none⟩)],args:= #[]}]) (fun e act W h=>by
  cases e with
  |panic ch=>exact bEn h
  |_=>exact h.elim) ?_
 have HD:=hid HA.o.drew;have HXD:=hid HX.o.drew;have hka:=((Below.refl w4.heap.size w4).bMq (.cells #[.slice none 0 0,.map none] 46)).drew;have HL:=hid (HA.o.later hka);have HXL:=hid (HX.o.later hka);have hS0:(w4.drew.cell? ⟨M,0,none⟩=some (.slice ma F.N mc)/\w4.drew.cell? ⟨M,1,none⟩=some (.map mm)/\w4.drew.cell? ⟨w1.heap.size,0,none⟩=some (.pointer (some ⟨X,0,none⟩))):=⟨HD.o.mb.c0,HD.o.mb.c1,HXD.o.c⟩;clear hka;refine wp_region_held_drew (S:=(fun w'=>w'.cell? ⟨M,0,none⟩=some (.slice ma F.N mc)/\w'.cell? ⟨M,1,none⟩=some (.map mm)/\w'.cell? ⟨w1.heap.size,0,none⟩=some (.pointer (some ⟨X,0,none⟩)))) (by kernel_rfl) hS0 (fun hHeld=> ?_);refine wpAnyH_take (i:=0) (v:= ?_) rfl (by kernel_rfl) (by kernel_rfl) (by kernel_rfl) (fun _ _ _ h=>⟨h.1,h.2.1,h.2.2.1,(qK _ _ _ (by decide)).symm.trans h.2.2.2⟩) (Or.inl ⟨by rfl,?_⟩) (by assumption) ?_
 rotate_left
 ·(intro w hSw;(try dsimp only at hSw);go_simp;try with_reducible rfl)
 try simp only[Act.put,List.setIfInBounds_toArray,List.set_cons_zero,List.set_cons_succ]
 refine wpAnyH_take (i:=1) (v:= ?_) rfl (by kernel_rfl) (by kernel_rfl) (by kernel_rfl) (fun _ _ _ h=>⟨h.1,h.2.1,h.2.2.1,(qK _ _ _ (by decide)).symm.trans h.2.2.2⟩) (Or.inl ⟨by rfl,?_⟩) (by assumption) ?_
 rotate_left
 ·(intro w hSw;(try dsimp only at hSw);go_simp;try with_reducible rfl)
 try simp only[Act.put,List.setIfInBounds_toArray,List.set_cons_zero,List.set_cons_succ]
 refine wpAnyH_take (i:=2) (v:= ?_) rfl (by kernel_rfl) (by kernel_rfl) (by kernel_rfl) (fun _ _ _ h=>⟨h.1,h.2.1,h.2.2.1,(qK _ _ _ (by decide)).symm.trans h.2.2.2⟩) (Or.inl ⟨by rfl,?_⟩) (by assumption) ?_
 rotate_left
 ·(intro w hSw;(try dsimp only at hSw);go_simp;try with_reducible rfl)
 try simp only[Act.put,List.setIfInBounds_toArray,List.set_cons_zero,List.set_cons_succ]
 refine wpAnyH_take (i:=3) (v:= ?_) rfl (by kernel_rfl) (by kernel_rfl) (by kernel_rfl) (fun _ _ _ h=>⟨h.1,h.2.1,h.2.2.1,(qK _ _ _ (by decide)).symm.trans h.2.2.2⟩) (Or.inl ⟨by rfl,?_⟩) (by assumption) ?_
 rotate_left
 ·(intro w hSw;(try dsimp only at hSw);go_simp;try with_reducible rfl)
 try simp only[Act.put,List.setIfInBounds_toArray,List.set_cons_zero,List.set_cons_succ]
 refine wpAnyH_take (i:=4) (v:= ?_) rfl (by kernel_rfl) (by kernel_rfl) (by kernel_rfl) (fun _ _ _ h=>⟨h.1,h.2.1,h.2.2.1,(qK _ _ _ (by decide)).symm.trans h.2.2.2⟩) (Or.inl ⟨by rfl,?_⟩) (by assumption) ?_
 rotate_left
 ·(intro w hSw;(try dsimp only at hSw);go_simp;try with_reducible rfl)
 try simp only[Act.put,List.setIfInBounds_toArray,List.set_cons_zero,List.set_cons_succ]
 refine wpAnyH_take (i:=5) (v:= ?_) rfl (by kernel_rfl) (by kernel_rfl) (by kernel_rfl) (fun _ _ _ h=>⟨h.1,h.2.1,h.2.2.1,(qK _ _ _ (by decide)).symm.trans h.2.2.2⟩) (Or.inl ⟨by rfl,?_⟩) (by assumption) ?_
 rotate_left
 ·(intro w hSw;(try dsimp only at hSw);go_simp;try with_reducible rfl)
 try simp only[Act.put,List.setIfInBounds_toArray,List.set_cons_zero,List.set_cons_succ]
 refine wpAnyH_ready (rs:=[6,10]) (by kernel_rfl) (by simp) ?_;refine AllReadyH.cons rfl (fun K hK=> ?_) (AllReadyH.cons rfl (fun K hK=> ?_) AllReadyH.nil)
 ·go_simp;refine(HC.o _ _ _ HD.o.fam HXD.o.r).mono ?_;rintro e w5 ⟨rfl,hg5⟩;exact⟨rfl,⟨_,HD.o.went HXD.o.r.odd hX1 hg5⟩,rfl,rfl⟩
 ·go_simp;refine hK.out _ _ ⟨HL.o.mb.c0,HL.o.mb.c1,HXL.o.c⟩ (fun hHeld=> ?_);clear hK K
  try simp only[Act.put,List.setIfInBounds_toArray,List.set_cons_zero,List.set_cons_succ]
  refine wpAnyH_ready (rs:=[6]) (by kernel_rfl) (by simp) ?_;refine AllReadyH.cons rfl (fun K hK=> ?_) AllReadyH.nil;go_simp;refine(HC.o _ _ _ HL.o.fam HXL.o.r).mono ?_;rintro e w5 ⟨rfl,hg5⟩;exact⟨rfl,⟨_,HL.o.went HXL.o.r.odd hX1 hg5⟩,rfl,rfl⟩
theorem gX (M:Nat) (F G:Fam) (y:Int) (l:List UInt8) (a:Option Addr) (c:Nat) (w:World) (hF:F.ok) (hs:∀ v∈F.vs,v.l.length<=8000) (h:dU w M F) (hr:RdY w a l) (he:fO F l=(G,y)):
  Calls Tryz.prog 13 #[.pointer (some ⟨M,0,none⟩),.slice a l.length c] w (aJf w M G y):=by
 unfold fO at he;by_cases hl:256<l.length
 ·rw[if_pos hl]at he;cases he;exact bCq M F l a c w h hl hr.1
 ·rw [if_neg hl]at he
  cases hu:gI l with
  | none=>
   rw[hu]at he;cases he;exact bCr M F l a c w h (by omega) hr hu
  | some p=>
   obtain⟨k,r⟩:=p;rw[hu]at he;simp only at he;by_cases hk:1<=k/\k<=5
   ·rw [if_pos hk]at he
    cases hc:aEj k F r with
    | none=>
     rw[hc]at he;cases he;exact bCp M k F l r a c w hF hs h (by omega) hr hu hk hc
    | some p=>
     obtain⟨G',x,q⟩:=p;rw[hc]at he;exact bHi M k F G' G x y l r q a c w hF hs h (by omega) hr hu hk hc he
   ·rw[if_neg hk]at he;cases he;exact aXb M k F l r a c w h (by omega) hr hu hk
open Go.RowKit Go.Maps
theorem RdI.lit (W:World) (L:List Int) (h:L.length<=65536) (cs:Array Value) (hc:cs=(L.map (Value.int .i64)).toArray):RdI (W.alloc (.cells cs 3)) (some ⟨W.heap.size,0,none⟩) L:=by
 subst hc;refine⟨h,.inr ⟨_,_,rfl,⟨_,_,Array.getElem?_push_size⟩,fun k x hk=> ?_⟩⟩;rw[Nat.zero_add,World.cell?_alloc_new];simp[hk]
def aLy (w:World) (l:List UInt8) (x:Int) (e:Ending) (w':World):Prop:=
 ∃a c,e= .returned (.tuple #[.slice a l.length c,.int .i64 x])/\RdY w' a l/\Below w.heap.size w w'
theorem aAl (n:Nat) (w:World) (hn:n<=65536):
  Calls Tryz.prog 11 #[.int .i64 n] w fun e w'=>∃ M,e= .returned (.tuple #[.pointer (some ⟨M,0,none⟩),.int .i64 0])/\w.heap.size<=M/\dU w' M ⟨n,[]⟩/\Below w.heap.size w w':=by
 go_enter Tryz.func11,Tryz.ntmps11;go_wp2_with fail;refine(bGd n w hn).mono ?_;rintro e w1 ⟨fv,rfl,hf,hb⟩;obtain⟨a,c,m,rfl⟩:=hf.form;have hk:=(Below.refl w1.heap.size w1).bMq (.cells #[.slice a n c,.map m] 46);have hk2:=hk.bMq (.cells #[.slice a n c,.map m] 69);have HM:Hid (dU ((w1.alloc (.cells #[.slice a n c,.map m] 46)).alloc (.cells #[.slice a n c,.map m] 69)) (w1.heap.size+1) ⟨n,[]⟩):=hid ⟨_,_,Bx.new _ _ (by simp) _ _ _,hf.keep hk2⟩;have HB:=hid (hb.on hk2);have hle:=hb.size;clear hf hb hk hk2;go_wp2_with fail;go_ret2;exact⟨_,rfl,by omega,HM.o,HB.o⟩
theorem nJ (M:Nat) (F:Fam) (w:World) (h:dU w M F):
  Calls Tryz.prog 10 #[.pointer (some ⟨M,0,none⟩)] w fun e w'=>∃ fv,e= .returned fv/\bA w' fv F/\Below w.heap.size w w':=by
 obtain⟨a,c,m,hb,hf⟩:=h.form;have hk:=(Below.refl w.heap.size w).bMq (.cells #[.slice none 0 0,.map none] 46);have m0:=(hb.later hk).c0;have m1:=(hb.later hk).c1;have hk3:=(Below.refl w.heap.size w).bMq (.cells #[.slice a F.N c,.map m] 46);have HF:=hid (hf.keep hk3);have HB:=hid hk3;clear hb hf h hk hk3;go_enter Tryz.func10,Tryz.ntmps10;go_wp2_with fail;have j0:(w.alloc (.cells #[.slice a F.N c,.map m] 46)).cell? ⟨w.heap.size,0,none⟩=some (.slice a F.N c):=by simp
 have j1:(w.alloc (.cells #[.slice a F.N c,.map m] 46)).cell? ⟨w.heap.size,1,none⟩=some (.map m):=by simp
 (try simp only[Exit.inBlock,Exit.then])
 refine bodyPost_ret (v:= .agg #[.slice a F.N c,.map m]) (by first|(rw[results_cell_tmp rfl];go_simp;done)|(rw[aB rfl];go_simp;done)|(rw[aA rfl];go_simp;done)) rfl ?_;exact⟨_,rfl,HF.o,HB.o⟩
theorem aDk (w:World):
  Calls Tryz.prog 10 #[.pointer none] w fun e w'=>e= .returned (.agg #[.slice none 0 0,.map none])/\Below w.heap.size w w':=by
 go_enter Tryz.func10,Tryz.ntmps10;go_wp2_with fail;have j0:(w.alloc (.cells #[.slice none 0 0,.map none] 46)).cell? ⟨w.heap.size,0,none⟩=some (.slice none 0 0):=by simp
 have j1:(w.alloc (.cells #[.slice none 0 0,.map none] 46)).cell? ⟨w.heap.size,1,none⟩=some (.map none):=by simp
 (try simp only[Exit.inBlock,Exit.then])
 refine bodyPost_ret (v:= .agg #[.slice none 0 0,.map none]) (by first|(rw[results_cell_tmp rfl];go_simp;done)|(rw[aB rfl];go_simp;done)|(rw[aA rfl];go_simp;done)) rfl ?_;exact⟨rfl,(Below.refl _ _).bMq _⟩
theorem xH (l R:List UInt8) (x:Int) (a:Option Addr) (c:Nat) (w:World) (h:RdY w a l) (hR:(if x=0 then l else [])=R):
  Calls Tryz.prog 30 #[.slice a l.length c,.int .i64 x] w (aLy w R x):=by
 by_cases hx:x=0
 ·subst hx;rw[if_pos rfl]at hR;subst hR;refine(aQd _ _).mono ?_;rintro e w' ⟨rfl,rfl⟩;exact⟨a,c,rfl,h,Below.refl _ _⟩
 ·rw[if_neg hx]at hR;subst hR;refine(bIk _ x (by simpa using hx) _).mono ?_;rintro e w' ⟨rfl,rfl⟩;exact⟨none,0,rfl,RdY.nil _,Below.refl _ _⟩
theorem aEt (k:Nat) (nm:List UInt8) (hk:k<128) (hn:nm.length<=1000000):(pG k nm).length<=nm.length+20:=by
 unfold pG;rw[List.length_append,Go.Lib.uvarint_small hk];have:=sV nm (by omega);simp;omega
theorem aGg (p n:Int) (l P:List UInt8) (a:Option Addr) (c:Nat) (w:World) (h:RdY w a l) (hl:l.length<=8000000) (hP:l++numsL [p,n]=P):
  Calls Tryz.prog 18 #[.slice a l.length c,.slice (some ⟨w.heap.size,0,none⟩) 2 2] (w.alloc (.cells #[.int .i64 p,.int .i64 n] 3)) fun e w'=>∃ a c,e= .returned (.slice a P.length c)/\RdY w' a P/\Below w.heap.size w w':=by
 have hk:=(Below.refl w.heap.size w).bMq (.cells #[.int .i64 p,.int .i64 n] 3);refine(tV [p,n] l a _ c 2 _ (h.keep hk) (RdI.lit w [p,n] (by simp) _ rfl) (by omega) (by simp)).mono ?_;rintro e w' ⟨v,rfl,⟨na,nc,rfl,hrd⟩,hb⟩;rw[hP]at hrd ⊢;exact⟨na,nc,rfl,hrd,hk.on hb⟩
theorem aQg (M:Nat) (F G:Fam) (L:List E) (e0:Int) (nm R:List UInt8) (p n:Int) (w:World) (hF:F.ok) (hs:∀ v∈F.vs,v.l.length<=9000) (h:dU w M F) (hn:nm.length<=1000000) (hp: -9223372036854775808<=p/\p<=9223372036854775807) (he:bY F nm p n=(G,L,e0)) (hR:(if e0=0 then pE nm p n else [])=R):
  Calls Tryz.prog 112 #[.pointer (some ⟨M,0,none⟩),nmV nm,.int .i64 p,.int .i64 n] w (aLy w R e0):=by
 obtain⟨a,c,m,hb,hf⟩:=h.form;have HM:=hid hb;have HFA:=hid hf;have hnm:nm.length<=maxLen:=by simp only[maxLen];omega
 clear hb hf h;have m0:=HM.o.c0;have m1:=HM.o.c1;have HU:=hid (aXh F G L e0 _ nm p n w hF hs HFA.o hnm hp he);have HLN:=hid (aEt 2 nm (by omega) hn);obtain⟨P,hP⟩:∃ P,pE nm p n=P:=⟨_,rfl⟩;have HP:Hid (pG 2 nm++numsL [p,n]=P):=hid hP;rw[hP]at hR;have HR:=hid hR;clear he hR hP;go_enter Tryz.func112,Tryz.ntmps112;go_wp2_with fail;refine HU.o.mono ?_;rintro e w1 ⟨gv,sv,rfl,hg,ho,hb⟩;obtain⟨ga,gc,gm,rfl⟩:=hg.form;have HB:=hid (hb.bMq (.cells #[.slice ga G.N gc,.map gm] 46));clear hg ho hb m0 m1;go_wp2_with fail;refine(nL 2 nm _ (by omega) hn).mono ?_;rintro e w2 ⟨v2,rfl,ho,hb⟩;obtain⟨va,vc,rfl,_,_,hrd⟩:=ho.rd (by have:=HLN.o;omega);replace HB:=hid (HB.o.on hb);have HN:=hid (aGg p n (pG 2 nm) P va vc w2 hrd (by have:=HLN.o;omega) HP.o);clear ho hb hrd;go_wp2_with fail;refine HN.o.mono ?_;rintro e w3 ⟨na,nc,rfl,hrd,hb⟩;have HNO:=hid (xH P R _ na nc _ hrd HR.o);replace HB:=hid (HB.o.on hb);clear hb hrd;go_wp2_with fail;refine HNO.o.mono ?_;rintro e w4 ⟨ra,rc,rfl,hrd,hb⟩;have HRD:=hid hrd;replace HB:=hid (HB.o.on hb);clear hb hrd;go_wp2_with fail;go_ret2;exact⟨ra,rc,rfl,HRD.o,HB.o⟩
theorem aGl (M:Nat) (F G:Fam) (L:List E) (e0:Int) (nm R:List UInt8) (w:World) (hF:F.ok) (hs:∀ v∈F.vs,v.l.length<=9000) (h:dU w M F) (hn:nm.length<=1000000) (he:bC F nm=(G,L,e0)) (hR:(if e0=0 then pF nm else [])=R):
  Calls Tryz.prog 111 #[.pointer (some ⟨M,0,none⟩),nmV nm] w (aLy w R e0):=by
 obtain⟨a,c,m,hb,hf⟩:=h.form;have HM:=hid hb;have HFA:=hid hf;have hnm:nm.length<=maxLen:=by simp only[maxLen];omega
 clear hb hf h;have m0:=HM.o.c0;have m1:=HM.o.c1;have HU:=hid (aRx F G L e0 _ nm w hF hs HFA.o hnm he);have HLN:=hid (aEt 5 nm (by omega) hn);obtain⟨P,hP⟩:∃ P,pF nm=P:=⟨_,rfl⟩;have HP:Hid (pG 5 nm=P):=hid hP;rw[hP]at hR;have HR:=hid hR;clear he hR hP;go_enter Tryz.func111,Tryz.ntmps111;go_wp2_with fail;refine HU.o.mono ?_;rintro e w1 ⟨gv,sv,rfl,hg,ho,hb⟩;obtain⟨ga,gc,gm,rfl⟩:=hg.form;have HB:=hid (hb.bMq (.cells #[.slice ga G.N gc,.map gm] 46));clear hg ho hb m0 m1;go_wp2_with fail;refine(nL 5 nm _ (by omega) hn).mono ?_;rintro e w2 ⟨v2,rfl,ho,hb⟩;rw[HP.o]at ho;obtain⟨na,nc,rfl,_,_,hrd⟩:=ho.rd (by rw[<-HP.o];have:=HLN.o;omega);clear ho;have HNO:=hid (xH P R _ na nc _ hrd HR.o);replace HB:=hid (HB.o.on hb);clear hb hrd;go_wp2_with fail;refine HNO.o.mono ?_;rintro e w4 ⟨ra,rc,rfl,hrd,hb⟩;have HRD:=hid hrd;replace HB:=hid (HB.o.on hb);clear hb hrd;go_wp2_with fail;go_ret2;exact⟨ra,rc,rfl,HRD.o,HB.o⟩
def crE (F:Fam) (nm:List UInt8) (n r:Int):Int:=if (aU F nm n r).2=0 then eQ F n r else (aU F nm n r).2
def clE (F:Fam) (nm ot:List UInt8):Int:=if (bJ F nm ot).2=0 then fB F nm else (bJ F nm ot).2
theorem yY (M:Nat) (F:Fam) (e0:Int) (nm R:List UInt8) (p n:Int) (w:World) (hF:F.ok) (hs:∀ v∈F.vs,v.l.length<=9000) (h:dU w M F) (hn:nm.length<=1000000) (he:crE F nm p n=e0) (hR:(if e0=0 then kE nm p n else [])=R):
  Calls Tryz.prog 12 #[.pointer (some ⟨M,0,none⟩),nmV nm,.int .i64 p,.int .i64 n] w (aLy w R e0):=by
 obtain⟨a,c,m,hb,hf⟩:=h.form;have HM:=hid hb;have HFA:=hid hf;have hnm:nm.length<=maxLen:=by simp only[maxLen];omega
 clear hb hf h;have m0:=HM.o.c0;have m1:=HM.o.c1;obtain⟨G,x,hc⟩:∃ G x,aU F nm p n=(G,x):=⟨_,_,rfl⟩;have HU:=hid (aSa F G x _ nm p n w hF HFA.o hnm hc);have HLN:=hid (aEt 3 nm (by omega) hn);obtain⟨P,hP⟩:∃ P,kE nm p n=P:=⟨_,rfl⟩;have HP:Hid (pG 3 nm++numsL [p,n]=P):=hid hP;rw[hP]at hR;have HR:=hid hR;unfold crE at he;rw[hc]at he;simp only at he;by_cases hx:x=0
 ·subst hx;rw[if_pos rfl]at he;have HQ:=hid (fun W (h:bA W (.agg #[.slice a F.N c,.map m]) F)=>aTh F e0 _ p n W hF hs h he);clear he hR hP hc;go_enter Tryz.func12,Tryz.ntmps12;go_wp2_with fail;refine HU.o.mono ?_;rintro e w1 ⟨gv,rfl,hg,hb⟩;obtain⟨ga,gc,gm,rfl⟩:=hg.form;have HB:=hid (hb.bMq (.cells #[.slice ga G.N gc,.map gm] 46));clear hg hb m0 m1;have m0:=(HM.o.later HB.o).c0;have m1:=(HM.o.later HB.o).c1;go_wp2_with fail;refine(HQ.o _ (HFA.o.keep HB.o)).mono ?_;rintro e w5 ⟨rfl,hb⟩;replace HB:=hid (HB.o.on hb);clear hb m0 m1;go_wp2_with fail;refine(nL 3 nm _ (by omega) hn).mono ?_;rintro e w2 ⟨v2,rfl,ho,hb⟩;obtain⟨va,vc,rfl,_,_,hrd⟩:=ho.rd (by have:=HLN.o;omega);replace HB:=hid (HB.o.on hb);have HN:=hid (aGg p n (pG 3 nm) P va vc w2 hrd (by have:=HLN.o;omega) HP.o);clear ho hb hrd;go_wp2_with fail;refine HN.o.mono ?_;rintro e w3 ⟨na,nc,rfl,hrd,hb⟩;have HNO:=hid (xH P R _ na nc _ hrd HR.o);replace HB:=hid (HB.o.on hb);clear hb hrd;go_wp2_with fail;refine HNO.o.mono ?_;rintro e w4 ⟨ra,rc,rfl,hrd,hb⟩;have HRD:=hid hrd;replace HB:=hid (HB.o.on hb);clear hb hrd;go_wp2_with fail;go_ret2;exact⟨ra,rc,rfl,HRD.o,HB.o⟩
 ·rw[if_neg hx]at he;subst he;have hx0:(x==0)=false:=by simpa using hx
  clear hR hP hc hx;go_enter Tryz.func12,Tryz.ntmps12;go_wp2_with fail;refine HU.o.mono ?_;rintro e w1 ⟨gv,rfl,hg,hb⟩;obtain⟨ga,gc,gm,rfl⟩:=hg.form;have HB:=hid (hb.bMq (.cells #[.slice ga G.N gc,.map gm] 46));clear hg hb m0 m1;go_wp2_with fail;refine(nL 3 nm _ (by omega) hn).mono ?_;rintro e w2 ⟨v2,rfl,ho,hb⟩;obtain⟨va,vc,rfl,_,_,hrd⟩:=ho.rd (by have:=HLN.o;omega);replace HB:=hid (HB.o.on hb);have HN:=hid (aGg p n (pG 3 nm) P va vc w2 hrd (by have:=HLN.o;omega) HP.o);clear ho hb hrd;go_wp2_with fail;refine HN.o.mono ?_;rintro e w3 ⟨na,nc,rfl,hrd,hb⟩;have HNO:=hid (xH P R _ na nc _ hrd HR.o);replace HB:=hid (HB.o.on hb);clear hb hrd;go_wp2_with fail;refine HNO.o.mono ?_;rintro e w4 ⟨ra,rc,rfl,hrd,hb⟩;have HRD:=hid hrd;replace HB:=hid (HB.o.on hb);clear hb hrd;go_wp2_with fail;go_ret2;exact⟨ra,rc,rfl,HRD.o,HB.o⟩
theorem bAv (M:Nat) (F:Fam) (e0:Int) (nm ot R:List UInt8) (w:World) (hF:F.ok) (hs:∀ v∈F.vs,v.l.length<=9000) (h:dU w M F) (hn:nm.length<=1000000) (ho:ot.length<=1000000) (he:clE F nm ot=e0) (hR:(if e0=0 then vW nm ot else [])=R):
  Calls Tryz.prog 110 #[.pointer (some ⟨M,0,none⟩),nmV nm,nmV ot] w (aLy w R e0):=by
 obtain⟨a,c,m,hb,hf⟩:=h.form;have HM:=hid hb;have HFA:=hid hf;have hnm:nm.length<=maxLen:=by simp only[maxLen];omega
 clear hb hf h;have m0:=HM.o.c0;have m1:=HM.o.c1;have hot:ot.length<=maxLen:=by simp only[maxLen];omega
 obtain⟨G,x,hc⟩:∃ G x,bJ F nm ot=(G,x):=⟨_,_,rfl⟩;have HU:=hid (aYa F G x _ nm ot w hF hs HFA.o hnm hot hc);have HLN:=hid (aEt 4 nm (by omega) hn);obtain⟨P,hP⟩:∃ P,vW nm ot=P:=⟨_,rfl⟩;have HP:Hid (pG 4 nm++wN ot=P):=hid hP;rw[hP]at hR;have HR:=hid hR;unfold clE at he;rw[hc]at he;simp only at he;have hol:=ho;clear ho;by_cases hx:x=0
 ·subst hx;rw[if_pos rfl]at he;have HQ:=hid (fun W (h:bA W (.agg #[.slice a F.N c,.map m]) F)=>aYw F e0 _ nm W hF hs h hnm he);clear he hR hP hc;go_enter Tryz.func110,Tryz.ntmps110;go_wp2_with fail;refine HU.o.mono ?_;rintro e w1 ⟨gv,rfl,hg,hb⟩;obtain⟨ga,gc,gm,rfl⟩:=hg.form;have HB:=hid (hb.bMq (.cells #[.slice ga G.N gc,.map gm] 46));clear hg hb m0 m1;have m0:=(HM.o.later HB.o).c0;have m1:=(HM.o.later HB.o).c1;go_wp2_with fail;refine(HQ.o _ (HFA.o.keep HB.o)).mono ?_;rintro e w5 ⟨rfl,hb⟩;replace HB:=hid (HB.o.on hb);clear hb m0 m1;go_wp2_with fail;refine(nL 4 nm _ (by omega) hn).mono ?_;rintro e w2 ⟨v2,rfl,ho,hb⟩;obtain⟨va,vc,rfl,_,_,hrd⟩:=ho.rd (by have:=HLN.o;omega);replace HB:=hid (HB.o.on hb);have hol:ot.length<=1000000000:=by omega
  obtain⟨cap,W1,hconv,hcell,hbel⟩:=wQ ot w2 hol;have HN:=hid (yC ot (pG 4 nm) va _ vc cap W1 (hrd.keep hbel) hcell (by have:=HLN.o;omega) (by omega));rw[HP.o]at HN;replace HB:=hid (HB.o.on hbel);clear ho hb hrd hcell hbel;go_wp2_with fail;refine HN.o.mono ?_;rintro e w3 ⟨v3,rfl,ho,hb⟩;obtain⟨na,nc,rfl,_,_,hrd⟩:=ho.rd (by rw[<-HP.o,List.length_append];have:=HLN.o;have:=sV ot (by omega);omega);clear ho hconv;have HNO:=hid (xH P R _ na nc _ hrd HR.o);replace HB:=hid (HB.o.on hb);clear hb hrd;go_wp2_with fail;refine HNO.o.mono ?_;rintro e w4 ⟨ra,rc,rfl,hrd,hb⟩;have HRD:=hid hrd;replace HB:=hid (HB.o.on hb);clear hb hrd;go_wp2_with fail;go_ret2;exact⟨ra,rc,rfl,HRD.o,HB.o⟩
 ·rw[if_neg hx]at he;subst he;have hx0:(x==0)=false:=by simpa using hx
  clear hR hP hc hx;go_enter Tryz.func110,Tryz.ntmps110;go_wp2_with fail;refine HU.o.mono ?_;rintro e w1 ⟨gv,rfl,hg,hb⟩;obtain⟨ga,gc,gm,rfl⟩:=hg.form;have HB:=hid (hb.bMq (.cells #[.slice ga G.N gc,.map gm] 46));clear hg hb m0 m1;go_wp2_with fail;refine(nL 4 nm _ (by omega) hn).mono ?_;rintro e w2 ⟨v2,rfl,ho,hb⟩;obtain⟨va,vc,rfl,_,_,hrd⟩:=ho.rd (by have:=HLN.o;omega);replace HB:=hid (HB.o.on hb);have hol:ot.length<=1000000000:=by omega
  obtain⟨cap,W1,hconv,hcell,hbel⟩:=wQ ot w2 hol;have HN:=hid (yC ot (pG 4 nm) va _ vc cap W1 (hrd.keep hbel) hcell (by have:=HLN.o;omega) (by omega));rw[HP.o]at HN;replace HB:=hid (HB.o.on hbel);clear ho hb hrd hcell hbel;go_wp2_with fail;refine HN.o.mono ?_;rintro e w3 ⟨v3,rfl,ho,hb⟩;obtain⟨na,nc,rfl,_,_,hrd⟩:=ho.rd (by rw[<-HP.o,List.length_append];have:=HLN.o;have:=sV ot (by omega);omega);clear ho hconv;have HNO:=hid (xH P R _ na nc _ hrd HR.o);replace HB:=hid (HB.o.on hb);clear hb hrd;go_wp2_with fail;refine HNO.o.mono ?_;rintro e w4 ⟨ra,rc,rfl,hrd,hb⟩;have HRD:=hid hrd;replace HB:=hid (HB.o.on hb);clear hb hrd;go_wp2_with fail;go_ret2;exact⟨ra,rc,rfl,HRD.o,HB.o⟩
theorem aKh (a b c:Value) (w:World):Calls Tryz.prog 112 #[.pointer none,a,b,c] w fun e w'=>e= .returned (.tuple #[.slice none 0 0,.int .i64 8])/\w=w':=by
 go_enter Tryz.func112,Tryz.ntmps112;go_wp2;go_ret2;exact⟨rfl,rfl⟩
theorem aDn (a b c:Value) (w:World):Calls Tryz.prog 12 #[.pointer none,a,b,c] w fun e w'=>e= .returned (.tuple #[.slice none 0 0,.int .i64 8])/\w=w':=by
 go_enter Tryz.func12,Tryz.ntmps12;go_wp2;go_ret2;exact⟨rfl,rfl⟩
theorem aGn (a b:Value) (w:World):Calls Tryz.prog 110 #[.pointer none,a,b] w fun e w'=>e= .returned (.tuple #[.slice none 0 0,.int .i64 8])/\w=w':=by
 go_enter Tryz.func110,Tryz.ntmps110;go_wp2;go_ret2;exact⟨rfl,rfl⟩
theorem aDm (a:Value) (w:World):Calls Tryz.prog 111 #[.pointer none,a] w fun e w'=>e= .returned (.tuple #[.slice none 0 0,.int .i64 8])/\w=w':=by
 go_enter Tryz.func111,Tryz.ntmps111;go_wp2;go_ret2;exact⟨rfl,rfl⟩
end Go.Proofs.YtaiklhbakldfhaaGreat
