/-
  package mapper: the changes that notes describe.
  package mapper: the changes that notes describe: clone, create, unmap.
  package mapper: the changes that notes describe: create, unmap.
  Conditions: as each theorem says.
-/
import Derived.Test.YtaiklhbakldfhaaGreatHI
import Derived.Test.YtaiklhbakldfhaaGreatHQ
import Derived.Deep.RegionWith
import Derived.Deep.CutRange
namespace Go.Proofs.YtaiklhbakldfhaaGreat
open Go.Lib (hid)
set_option linter.unusedSimpArgs false
set_option linter.unusedVariables false
set_option maxRecDepth 100000
set_option maxHeartbeats 16000000
open Go.RowKit Go.Maps
structure CL (w W:World) (X:Nat) (u v:Value) (F:Fam) (l:List UInt8):Prop where
 fb:Bx W w.heap.size 46 u v
 fam:bA W (.agg #[u,v]) F
 rb:W.cell? ⟨w.heap.size+1,0,none⟩=some (.pointer (some ⟨X,0,none⟩))
 r:gG W X l
 r1:Bx W (w.heap.size+1+1) 46 (.slice none 0 0) (.map none)
 lt:X<w.heap.size
 g:w.grownBy W (some X)
section
variable {w W W':World} {X:Nat} {u v:Value} {F G:Fam} {l r:List UInt8}
theorem CL.le (h:CL w W X u v F l):w.heap.size+1+1<W.heap.size:=h.r1.lt
theorem CL.later (h:CL w W X u v F l) (hb:Below W.heap.size W W'):CL w W' X u v F l:=
 ⟨h.fb.later hb,h.fam.keep hb,hb.keep h.rb,h.r.later hb,h.r1.later hb,h.lt,h.g.next (bD hb _)⟩
theorem CL.went (h:CL w W X u v F l) (hr:gG W' X r) (hg:W.grownBy W' (some X)):CL w W' X u v F r:=by
 have hO:=h.r.odd;have hlt:=h.lt;have h1:∀ k,w.heap.size<=k->some X≠some k:=fun k hk e=>by injection e with e;omega
 exact⟨h.fb.grown hg (h1 _ (Nat.le_refl _)),h.fam.grown hO hg,jM hg h.rb (by omega),hr,h.r1.grown hg (h1 _ (by omega)),h.lt,h.g.next hg⟩
theorem aWa:3≠46:=by decide
theorem bA.oddBox {T:Nat} {u v x:Value} {F:Fam} (hx:bA W (.agg #[u,v]) F) (h:Bx W T 46 u v):Odd W T:=by
 obtain⟨a,c,m,he⟩:=hx.form;injection he with he;have h1:=congrArg Array.toList he;simp at h1;obtain⟨rfl,rfl⟩:=h1;exact h.odd aWa (fun c e=>by cases e) (fun c e=>by cases e)
theorem CL.init (w:World) (X:Nat) (u v:Value) (F:Fam) (l:List UInt8) (hf:bA w (.agg #[u,v]) F) (hr:gG w X l) (W:World)
  (hW:W=((w.alloc (.cells #[u,v] 46)).alloc (.cells #[.pointer (some ⟨X,0,none⟩)] 97)).alloc (.cells #[.slice none 0 0,.map none] 46)):CL w W X u v F l:=by
 subst hW;have k1:=(Below.refl w.heap.size w).bMq (.cells #[u,v] 46);have k2:=(Below.refl _ (w.alloc (.cells #[u,v] 46))).bMq (.cells #[.pointer (some ⟨X,0,none⟩)] 97);have k3:=(Below.refl _ ((w.alloc (.cells #[u,v] 46)).alloc (.cells #[.pointer (some ⟨X,0,none⟩)] 97))).bMq (.cells #[.slice none 0 0,.map none] 46);have kk:=(k1.on k2).on k3;have e:((w.alloc (.cells #[u,v] 46)).alloc (.cells #[.pointer (some ⟨X,0,none⟩)] 97)).cell? ⟨w.heap.size+1,0,none⟩=some (.pointer (some ⟨X,0,none⟩)):=by simp
 exact⟨((Bx.new w _ rfl u v _).later k2).later k3,hf.keep kk,k3.keep e,hr.later kk,Bx.new _ _ (by simp) _ _ _,hr.odd.lt,bD kk _⟩
end
theorem aHe {w W:World} {row:Option Nat} {T:Nat} (hg:w.grownBy W row) (hT:w.heap.size<=T) (x y:Value):w.grownBy (dN W T x y) row:=
 ⟨hg.os,hg.tape,hg.output,by simpa [dN,World.setCell]using hg.size,fun k hk hne=>(aCk (by omega)).trans (hg.block k hk hne)⟩
def aXe (w:World) (X:Nat) (o:Option (Fam × Int × List UInt8)) (e:Ending) (w':World):Prop:=match o with
 |some (G,x,q)=>∃ gv,e= .returned (.tuple #[gv,.int .i64 x])/\bA w' gv G/\gG w' X q/\w.grownBy w' (some X)
 |none=>e= .panicked (pan 5)/\w.grownBy w' (some X)
theorem uM {w W:World} {X:Nat} {u v x y:Value} {F G:Fam} {l:List UInt8} (h:CL w W X u v F l) (hg:bA W (.agg #[x,y]) G) (e:Int):
  aXe w X (some (G,e,l)) (.returned (.tuple #[.agg #[x,y],.int .i64 e])) (dN W (w.heap.size+1+1) x y):=by
 have hlt:=h.lt;have hO:Odd W (w.heap.size+1+1):=h.r1.odd aWa (fun c e=>by cases e) (fun c e=>by cases e);have hgr:=gY W (w.heap.size+1+1) x y;exact⟨_,rfl,hg.grown hO hgr,h.r.other hO hgr (by omega),aHe h.g (by omega) _ _⟩
theorem CL.putF {w W:World} {X:Nat} {u v x y:Value} {F G:Fam} {l:List UInt8} (h:CL w W X u v F l) (hg:bA W (.agg #[x,y]) G):CL w (dN W w.heap.size x y) X x y G l:=by
 have hlt:=h.lt;have hO:Odd W w.heap.size:=h.fam.oddBox (x:=x) h.fb;have hgr:=gY W w.heap.size x y;exact⟨h.fb.put x y,hg.grown hO hgr,jM hgr h.rb (by omega),h.r.other hO hgr (by omega),h.r1.far (by omega) x y,hlt,aHe h.g (Nat.le_refl _) _ _⟩
theorem CL.farR {w W:World} {X:Nat} {u v:Value} {F:Fam} {l:List UInt8} (h:CL w W X u v F l) (x y:Value):(dN W (w.heap.size+1+1) x y).cell? ⟨w.heap.size,0,none⟩=some u/\(dN W (w.heap.size+1+1) x y).cell? ⟨w.heap.size,1,none⟩=some v/\(dN W (w.heap.size+1+1) x y).cell? ⟨w.heap.size+1,0,none⟩=some (.pointer (some ⟨X,0,none⟩)):=
 ⟨(cO (by simp only;omega)).trans h.fb.c0,(cO (by simp only;omega)).trans h.fb.c1,(cO (by simp only;omega)).trans h.rb⟩
def CLI (w:World) (X:Nat) (G:Fam) (q:List UInt8) (x:Int) (e:Value) (wx:World):Prop:=e= .int .i64 x/\ ∃ga gc gm,CL w wx X (.slice ga G.N gc) (.map gm) G q
theorem bJn (F:Fam) (fv:Value) (X:Nat) (l:List UInt8) (w:World) (hF:F.ok) (hs:∀ v∈F.vs,v.l.length<=9000) (hf:bA w fv F) (hr:gG w X l) (hl:l.length<=1000000):
  Calls Tryz.prog 88 #[fv,.agg #[.pointer (some ⟨X,0,none⟩)]] w (aXe w X (deP F l)):=by
 obtain⟨a,c,m,rfl⟩:=hf.form;have H:=hid (CL.init w X _ _ F l hf hr _ rfl)
 cases hb:eT l with
 | none=>
  have U:=hid hb;have HP:Hid (deP F l=none):=hid (by unfold deP;rw[hb]);clear hb hf hr;rw[HP.o];have b0:=H.o.fb.c0;have b1:=H.o.fb.c1;have hrb:=H.o.rb;have HD:=hid (H.o.later (Below.refl _ _).drew);go_enter Tryz.func88,Tryz.ntmps88;go_wp2_with fail;refine wp_region_held_drew (S:=(fun w'=>w'.cell? ⟨w.heap.size,0,none⟩=some (.slice a F.N c)/\w'.cell? ⟨w.heap.size,1,none⟩=some (.map m)/\w'.cell? ⟨w.heap.size+1,0,none⟩=some (.pointer (some ⟨X,0,none⟩)))) (by kernel_rfl) ⟨HD.o.fb.c0,HD.o.fb.c1,HD.o.rb⟩ (fun hHeld=> ?_);refine wpAnyH_take (i:=0) (v:= ?_) rfl (by kernel_rfl) (by kernel_rfl) (by kernel_rfl) (fun _ _ _ h=>h) (Or.inl ⟨by rfl,?_⟩) (by assumption) ?_
  rotate_left
  ·(intro w hSw;(try dsimp only at hSw);go_simp;try with_reducible rfl)
  try simp only[Act.put,List.setIfInBounds_toArray,List.set_cons_zero,List.set_cons_succ]
  refine wpAnyH_take (i:=1) (v:= ?_) rfl (by kernel_rfl) (by kernel_rfl) (by kernel_rfl) (fun _ _ _ h=>h) (Or.inl ⟨by rfl,?_⟩) (by assumption) ?_
  rotate_left
  ·(intro w hSw;(try dsimp only at hSw);go_simp;try with_reducible rfl)
  try simp only[Act.put,List.setIfInBounds_toArray,List.set_cons_zero,List.set_cons_succ]
  refine wpAnyH_ready (rs:=[2]) (by kernel_rfl) (by simp) ?_;refine AllReadyH.cons rfl (fun K hK=> ?_) AllReadyH.nil;go_simp;refine(sN HD.o.r U.o).mono ?_;rintro e w1 ⟨rfl,hg1⟩;exact⟨rfl,rfl,HD.o.g.next hg1⟩
 | some p=>
  obtain⟨nm,q⟩:=p;have hnm:nm.length<=maxLen:=by have:=iJ hb;simp only[maxLen];omega
  obtain⟨G,L,x,hd⟩:∃ G L x,bC F nm=(G,L,x):=⟨_,_,_,rfl⟩;have U:=hid hb;have HP:Hid (deP F l=some (G,x,q)):=hid (by unfold deP;rw[hb];simp only;rw[hd]);have HDE:=hid hd;have HNM:=hid hnm;have HF:=hid hF;have HS:=hid hs;clear hb hf hr hd hnm hF hs;rw[HP.o];have b0:=H.o.fb.c0;have b1:=H.o.fb.c1;have hrb:=H.o.rb;have f0:=H.o.fb.f0;have f1:=H.o.fb.f1;go_enter Tryz.func88,Tryz.ntmps88;go_wp2_with fail;generalize ((w.alloc (.cells #[.slice a F.N c,.map m] 46)).alloc (.cells #[.pointer (some ⟨X,0,none⟩)] 97)).alloc (.cells #[.slice none 0 0,.map none] 46)=W at*
  go_cut [7] from 6 to 15 (fun e wx=>CLI w X G q x e wx)
  case first=>
   have HD:=hid (H.o.later (Below.refl _ _).drew)
   go_region_with (first
    |(go_at_call 66;(with_reducible refine(gW HD.o.r U.o).mono ?_);rintro e w1 ⟨rfl,hr1,hg1⟩;have H1:=hid (HD.o.went hr1 hg1);have b10:=H1.o.fb.c0;have b11:=H1.o.fb.c1;clear hr1 hg1)
    |(go_at_call 89;(with_reducible refine(aRx F G L x _ nm _ HF.o HS.o H1.o.fam HNM.o HDE.o).mono ?_);rintro e w2 ⟨gv,sv,rfl,hg,ho,hb2⟩;obtain⟨ga,gc,gm,rfl⟩:=hg.form;have H2:=hid (H1.o.later hb2);have HG:=hid hg;have b20:=H2.o.fb.c0;have b21:=H2.o.fb.c1;have f20:=H2.o.fb.f0;have f21:=H2.o.fb.f1;clear hg ho hb2))
   all_goals
    have HZ:Hid (CLI w X G q x (.int .i64 x) (dN w2 w.heap.size (.slice ga G.N gc) (.map gm))):=hid ⟨rfl,ga,gc,gm,H2.o.putF HG.o⟩;go_wp2_with fail;go_meet;exact HZ.o
  case rest=>
   obtain⟨rfl,ga,gc,gm,hcl⟩:=hcut;have HC:=hid hcl;clear hcl H;have b0:=HC.o.fb.c0;have b1:=HC.o.fb.c1;have r0:=HC.o.r1.c0;have r1:=HC.o.r1.c1;have g0:=HC.o.r1.f0;have g1:=HC.o.r1.f1;go_wp2_with fail;have j0:=(HC.o.r1.put (.slice ga G.N gc) (.map gm)).c0;have j1:=(HC.o.r1.put (.slice ga G.N gc) (.map gm)).c1
   (try simp only[Exit.inBlock,Exit.then])
   refine bodyPost_ret (v:= .tuple #[.agg #[.slice ga G.N gc,.map gm],.int .i64 x]) (by first|(rw[results_cell_tmp rfl];go_simp;done)|(rw[aB rfl];go_simp;done)|(rw[aA rfl];go_simp;done)) rfl ?_;exact uM HC.o HC.o.fam x
open Go.RowKit Go.Maps
theorem bJo (F:Fam) (fv:Value) (X:Nat) (l:List UInt8) (w:World) (hF:F.ok) (hs:∀ v∈F.vs,v.l.length<=9000) (hf:bA w fv F) (hr:gG w X l) (hl:l.length<=1000000):
  Calls Tryz.prog 86 #[fv,.agg #[.pointer (some ⟨X,0,none⟩)]] w (aXe w X (clP F l)):=by
 obtain⟨a,c,m,rfl⟩:=hf.form;have H:=hid (CL.init w X _ _ F l hf hr _ rfl)
 cases hb:eT l with
 | none=>
  have U:=hid hb;have HP:Hid (clP F l=none):=hid (by unfold clP;rw[hb]);clear hb hf hr;rw[HP.o];have hrb:=H.o.rb;go_enter Tryz.func86,Tryz.ntmps86;go_wp2_with fail;refine(sN H.o.r U.o).mono ?_;rintro e w1 ⟨rfl,hg1⟩;exact⟨rfl,rfl,H.o.g.next hg1⟩
 | some p=>
  obtain⟨nm,l1⟩:=p;have hsh:=iJ hb;have hnm:nm.length<=maxLen:=by simp only[maxLen];omega
  have U:=hid hb
  cases hb2:eT l1 with
  | none=>
   have U2:=hid hb2;have HP:Hid (clP F l=none):=hid (by unfold clP;rw[hb];simp only;rw[hb2]);clear hb hb2 hf hr;rw[HP.o];have hrb:=H.o.rb;go_enter Tryz.func86,Tryz.ntmps86;go_wp2_with fail;refine(gW H.o.r U.o).mono ?_;rintro e w1 ⟨rfl,hr1,hg1⟩;replace H:=hid (H.o.went hr1 hg1);clear hr1 hg1 hrb;go_wp2_with fail;have HD:=hid (H.o.later (Below.refl _ _).drew);have hS:(w1.drew.cell? ⟨w.heap.size,0,none⟩=some (.slice a F.N c)/\w1.drew.cell? ⟨w.heap.size,1,none⟩=some (.map m)/\w1.drew.cell? ⟨w.heap.size+1,0,none⟩=some (.pointer (some ⟨X,0,none⟩))):=⟨HD.o.fb.c0,HD.o.fb.c1,HD.o.rb⟩;refine wp_region_held_drew (S:=(fun w'=>w'.cell? ⟨w.heap.size,0,none⟩=some (.slice a F.N c)/\w'.cell? ⟨w.heap.size,1,none⟩=some (.map m)/\w'.cell? ⟨w.heap.size+1,0,none⟩=some (.pointer (some ⟨X,0,none⟩)))) (by kernel_rfl) hS (fun hHeld=> ?_);refine wpAnyH_take (i:=0) (v:= ?_) rfl (by kernel_rfl) (by kernel_rfl) (by kernel_rfl) (fun _ _ _ h=>h) (Or.inl ⟨by rfl,?_⟩) (by assumption) ?_
   rotate_left
   ·(intro w hSw;(try dsimp only at hSw);go_simp;try with_reducible rfl)
   try simp only[Act.put,List.setIfInBounds_toArray,List.set_cons_zero,List.set_cons_succ]
   refine wpAnyH_take (i:=1) (v:= ?_) rfl (by kernel_rfl) (by kernel_rfl) (by kernel_rfl) (fun _ _ _ h=>h) (Or.inl ⟨by rfl,?_⟩) (by assumption) ?_
   rotate_left
   ·(intro w hSw;(try dsimp only at hSw);go_simp;try with_reducible rfl)
   try simp only[Act.put,List.setIfInBounds_toArray,List.set_cons_zero,List.set_cons_succ]
   refine wpAnyH_take (i:=2) (v:= ?_) rfl (by kernel_rfl) (by kernel_rfl) (by kernel_rfl) (fun _ _ _ h=>h) (Or.inl ⟨by rfl,?_⟩) (by assumption) ?_
   rotate_left
   ·(intro w hSw;(try dsimp only at hSw);go_simp;try with_reducible rfl)
   try simp only[Act.put,List.setIfInBounds_toArray,List.set_cons_zero,List.set_cons_succ]
   refine wpAnyH_ready (rs:=[3]) (by kernel_rfl) (by simp) ?_;refine AllReadyH.cons rfl (fun K hK=> ?_) AllReadyH.nil;go_simp;refine(sN HD.o.r U2.o).mono ?_;rintro e w2 ⟨rfl,hg1⟩;exact⟨rfl,rfl,HD.o.g.next hg1⟩
  | some p=>
   obtain⟨ot,q⟩:=p;have hot:ot.length<=maxLen:=by have:=iJ hb2;simp only[maxLen];omega
   obtain⟨G,x,hd⟩:∃ G x,bJ F nm ot=(G,x):=⟨_,_,rfl⟩;have U2:=hid hb2;have HP:Hid (clP F l=some (G,x,q)):=hid (by unfold clP;rw[hb];simp only;rw[hb2];simp only;rw[hd]);have HDE:=hid hd;have HNM:=hid hnm;have HOT:=hid hot;have HF:=hid hF;have HS:=hid hs;clear hb hb2 hf hr hd hnm hot hF hs hsh;rw[HP.o];have hrb:=H.o.rb;go_enter Tryz.func86,Tryz.ntmps86;go_wp2_with fail;refine(gW H.o.r U.o).mono ?_;rintro e w1 ⟨rfl,hr1,hg1⟩;replace H:=hid (H.o.went hr1 hg1);clear hr1 hg1 hrb;go_wp2_with fail;have HD:=hid (H.o.later (Below.refl _ _).drew)
   go_cut [5] from 5 to 15 (fun e wx=>∃ ga gc gm W2,e= .int .i64 x/\wx=dN W2 (w.heap.size+1+1) (.slice ga G.N gc) (.map gm)/\CL w W2 X (.slice a F.N c) (.map m) F q/\bA W2 (.agg #[.slice ga G.N gc,.map gm]) G)
   case first=>
    go_region_held3 (fun w'=>w'.cell? ⟨w.heap.size,0,none⟩=some (.slice a F.N c)/\w'.cell? ⟨w.heap.size,1,none⟩=some (.map m)/\w'.cell? ⟨w.heap.size+1,0,none⟩=some (.pointer (some ⟨X,0,none⟩)))
     (first
      |with_reducible exact⟨HD.o.fb.c0,HD.o.fb.c1,HD.o.rb⟩
      |with_reducible exact⟨H1.o.fb.c0,H1.o.fb.c1,H1.o.rb⟩
      |with_reducible exact⟨H2.o.fb.c0,H2.o.fb.c1,H2.o.rb⟩
      |with_reducible exact H3.o)
     (first
      |(go_at_call 66;(with_reducible refine(gW HD.o.r U2.o).mono ?_);rintro e w2 ⟨rfl,hr1,hg1⟩;have H1:=hid (HD.o.went hr1 hg1);clear hr1 hg1)
      |(go_at_call 87;(with_reducible refine(aYa F G x _ nm ot _ HF.o HS.o H1.o.fam HNM.o HOT.o HDE.o).mono ?_);rintro e w3 ⟨gv,rfl,hg,hb3⟩;obtain⟨ga,gc,gm,rfl⟩:=hg.form;have H2:=hid (H1.o.later hb3);have HG:=hid hg;have k0:=H2.o.r1.c0;have k1:=H2.o.r1.c1;have k2:=H2.o.r1.f0;have k3:=H2.o.r1.f1;have H3:=hid (H2.o.farR (.slice ga G.N gc) (.map gm));clear hg hb3))
    all_goals
     go_wp2_with fail;go_meet;exact⟨ga,gc,gm,w3,rfl,rfl,H2.o,HG.o⟩
   case rest=>
    obtain⟨ga,gc,gm,W2,rfl,rfl,hc,hg⟩:=hcut;have HC:=hid hc;have HG:=hid hg;clear hc hg H HD;go_wp2_with fail;have j0:=(HC.o.r1.put (.slice ga G.N gc) (.map gm)).c0;have j1:=(HC.o.r1.put (.slice ga G.N gc) (.map gm)).c1
    (try simp only[Exit.inBlock,Exit.then])
    refine bodyPost_ret (v:= .tuple #[.agg #[.slice ga G.N gc,.map gm],.int .i64 x]) (by first|(rw[results_cell_tmp rfl];go_simp;done)|(rw[aB rfl];go_simp;done)|(rw[aA rfl];go_simp;done)) rfl ?_;exact uM HC.o HG.o x
open Go.RowKit Go.Maps
theorem bJp (F:Fam) (fv:Value) (X:Nat) (l:List UInt8) (w:World) (hF:F.ok) (hs:∀ v∈F.vs,v.l.length<=9000) (hf:bA w fv F) (hr:gG w X l) (hl:l.length<=1000000):
  Calls Tryz.prog 85 #[fv,.agg #[.pointer (some ⟨X,0,none⟩)]] w (aXe w X (crP F l)):=by
 obtain⟨a,c,m,rfl⟩:=hf.form;have H:=hid (CL.init w X _ _ F l hf hr _ rfl);have hrb:=H.o.rb
 cases hb:eT l with
 | none=>
  have U:=hid hb;have HP:Hid (crP F l=none):=hid (by unfold crP;rw[hb]);clear hb hf hr;rw[HP.o];go_enter Tryz.func85,Tryz.ntmps85;go_wp2_with fail;have HD:=hid (H.o.later (Below.refl _ _).drew);refine wp_region_held_drew (S:=(fun w'=>w'.cell? ⟨w.heap.size+1,0,none⟩=some (.pointer (some ⟨X,0,none⟩)))) (by kernel_rfl) HD.o.rb (fun hHeld=> ?_);refine wpAnyH_take (i:=0) (v:= ?_) rfl (by kernel_rfl) (by kernel_rfl) (by kernel_rfl) (fun _ _ _ h=>h) (Or.inl ⟨by rfl,?_⟩) (by assumption) ?_
  rotate_left
  ·(intro w hSw;(try dsimp only at hSw);go_simp;try with_reducible rfl)
  try simp only[Act.put,List.setIfInBounds_toArray,List.set_cons_zero,List.set_cons_succ]
  refine wpAnyH_take (i:=2) (v:= ?_) rfl (by kernel_rfl) (by kernel_rfl) (by kernel_rfl) (fun _ _ _ h=>h) (Or.inl ⟨by rfl,?_⟩) (by assumption) ?_
  rotate_left
  ·(intro w hSw;(try dsimp only at hSw);go_simp;try with_reducible rfl)
  try simp only[Act.put,List.setIfInBounds_toArray,List.set_cons_zero,List.set_cons_succ]
  refine wpAnyH_ready (rs:=[1]) (by kernel_rfl) (by simp) ?_;refine AllReadyH.cons rfl (fun K hK=> ?_) AllReadyH.nil;go_simp;refine(sN HD.o.r U.o).mono ?_;rintro e w1 ⟨rfl,hg1⟩;exact⟨rfl,rfl,HD.o.g.next hg1⟩
 | some p=>
  obtain⟨nm,l1⟩:=p;have hsh:=iJ hb;have hnm:nm.length<=maxLen:=by simp only[maxLen];omega
  have U:=hid hb
  cases hb2:fP l1 with
  | none=>
   have U2:=hid hb2;have HP:Hid (crP F l=none):=hid (by unfold crP;rw[hb];simp only;rw[hb2]);clear hb hb2 hf hr;rw[HP.o];go_enter Tryz.func85,Tryz.ntmps85;go_wp2_with fail;have HD:=hid (H.o.later (Below.refl _ _).drew);refine wp_region_held_drew (S:=(fun w'=>w'.cell? ⟨w.heap.size+1,0,none⟩=some (.pointer (some ⟨X,0,none⟩)))) (by kernel_rfl) HD.o.rb (fun hHeld=> ?_);refine wpAnyH_take (i:=0) (v:= ?_) rfl (by kernel_rfl) (by kernel_rfl) (by kernel_rfl) (fun _ _ _ h=>h) (Or.inl ⟨by rfl,?_⟩) (by assumption) ?_
   rotate_left
   ·(intro w hSw;(try dsimp only at hSw);go_simp;try with_reducible rfl)
   try simp only[Act.put,List.setIfInBounds_toArray,List.set_cons_zero,List.set_cons_succ]
   refine wpAnyH_take (i:=2) (v:= ?_) rfl (by kernel_rfl) (by kernel_rfl) (by kernel_rfl) (fun _ _ _ h=>h) (Or.inl ⟨by rfl,?_⟩) (by assumption) ?_
   rotate_left
   ·(intro w hSw;(try dsimp only at hSw);go_simp;try with_reducible rfl)
   try simp only[Act.put,List.setIfInBounds_toArray,List.set_cons_zero,List.set_cons_succ]
   refine wpAnyH_ready (rs:=[1]) (by kernel_rfl) (by simp) ?_;refine AllReadyH.cons rfl (fun K hK=> ?_) AllReadyH.nil;go_simp;refine(gW HD.o.r U.o).mono ?_;rintro e w1 ⟨rfl,hr1,hg1⟩;have H1:=hid (HD.o.went hr1 hg1);clear hr1 hg1;refine hK.out _ _ H1.o.rb (fun hHeld=> ?_);clear hK K
   try simp only[Act.put,List.setIfInBounds_toArray,List.set_cons_zero,List.set_cons_succ]
   refine wpAnyH_ready (rs:=[3]) (by kernel_rfl) (by simp) ?_;refine AllReadyH.cons rfl (fun K hK=> ?_) AllReadyH.nil;go_simp;refine(rH H1.o.r U2.o).mono ?_;rintro e w2 ⟨rfl,hg1⟩;exact⟨rfl,rfl,H1.o.g.next hg1⟩
  | some p=>
   obtain⟨n,l2⟩:=p;have hn0:=(jJ hb2).2;have U2:=hid hb2
   cases hb3:fP l2 with
   | none=>
    have U3:=hid hb3;have HP:Hid (crP F l=none):=hid (by unfold crP;rw[hb];simp only;rw[hb2];simp only;rw[hb3]);clear hb hb2 hb3 hf hr;rw[HP.o];go_enter Tryz.func85,Tryz.ntmps85;go_wp2_with fail;have HD:=hid (H.o.later (Below.refl _ _).drew);have hS0:=HD.o.rb
    go_region_held3 (fun w'=>w'.cell? ⟨w.heap.size+1,0,none⟩=some (.pointer (some ⟨X,0,none⟩)))
     (first
      |with_reducible exact H.o.rb
      |with_reducible exact hS0
      |with_reducible exact hS1
      |with_reducible exact hS2)
     (first
      |(go_at_call 66;(with_reducible refine(gW HD.o.r U.o).mono ?_);rintro e w1 ⟨rfl,hr1,hg1⟩;have H1:=hid (HD.o.went hr1 hg1);have hS1:=H1.o.rb;clear hr1 hg1)
      |(go_at_call 65;(with_reducible refine(iT H1.o.r U2.o).mono ?_);rintro e w2 ⟨rfl,hr2,hg2⟩;have H2:=hid (H1.o.went hr2 hg2);have hS2:=H2.o.rb;clear hr2 hg2))
    clear hS0 hS1 hS2 hrb;go_wp2_with fail;replace HD:=hid (H2.o.later (Below.refl _ _).drew);refine wp_region_held_drew (S:=(fun w'=>w'.cell? ⟨w.heap.size,0,none⟩=some (.slice a F.N c)/\w'.cell? ⟨w.heap.size,1,none⟩=some (.map m)/\w'.cell? ⟨w.heap.size+1,0,none⟩=some (.pointer (some ⟨X,0,none⟩)))) (by kernel_rfl) ⟨HD.o.fb.c0,HD.o.fb.c1,HD.o.rb⟩ (fun hHeld=> ?_);refine wpAnyH_take (i:=0) (v:= ?_) rfl (by kernel_rfl) (by kernel_rfl) (by kernel_rfl) (fun _ _ _ h=>h) (Or.inl ⟨by rfl,?_⟩) (by assumption) ?_
    rotate_left
    ·(intro w hSw;(try dsimp only at hSw);go_simp;try with_reducible rfl)
    try simp only[Act.put,List.setIfInBounds_toArray,List.set_cons_zero,List.set_cons_succ]
    refine wpAnyH_take (i:=1) (v:= ?_) rfl (by kernel_rfl) (by kernel_rfl) (by kernel_rfl) (fun _ _ _ h=>h) (Or.inl ⟨by rfl,?_⟩) (by assumption) ?_
    rotate_left
    ·(intro w hSw;(try dsimp only at hSw);go_simp;try with_reducible rfl)
    try simp only[Act.put,List.setIfInBounds_toArray,List.set_cons_zero,List.set_cons_succ]
    refine wpAnyH_take (i:=2) (v:= ?_) rfl (by kernel_rfl) (by kernel_rfl) (by kernel_rfl) (fun _ _ _ h=>h) (Or.inl ⟨by rfl,?_⟩) (by assumption) ?_
    rotate_left
    ·(intro w hSw;(try dsimp only at hSw);go_simp;try with_reducible rfl)
    try simp only[Act.put,List.setIfInBounds_toArray,List.set_cons_zero,List.set_cons_succ]
    refine wpAnyH_take (i:=3) (v:= ?_) rfl (by kernel_rfl) (by kernel_rfl) (by kernel_rfl) (fun _ _ _ h=>h) (Or.inl ⟨by rfl,?_⟩) (by assumption) ?_
    rotate_left
    ·(intro w hSw;(try dsimp only at hSw);go_simp;try with_reducible rfl)
    try simp only[Act.put,List.setIfInBounds_toArray,List.set_cons_zero,List.set_cons_succ]
    refine wpAnyH_ready (rs:=[4]) (by kernel_rfl) (by simp) ?_;refine AllReadyH.cons rfl (fun K hK=> ?_) AllReadyH.nil;go_simp;refine(rH HD.o.r U3.o).mono ?_;rintro e w3 ⟨rfl,hg1⟩;exact⟨rfl,rfl,HD.o.g.next hg1⟩
   | some p=>
    obtain⟨r,q⟩:=p;have hr0:=(jJ hb3).2;have U3:=hid hb3;obtain⟨G,x,hd⟩:∃ G x,aU F nm n r=(G,x):=⟨_,_,rfl⟩;have HP:Hid (crP F l=some (G,x,q)):=hid (by unfold crP;rw[hb];simp only;rw[hb2];simp only;rw[hb3];simp only;rw[hd]);have HDE:=hid hd;have HNM:=hid hnm;have HF:=hid hF;have HS:=hid hs;clear hb hb2 hb3 hf hr hd hnm hF hs hsh;rw[HP.o];go_enter Tryz.func85,Tryz.ntmps85;go_wp2_with fail;have HD:=hid (H.o.later (Below.refl _ _).drew);have hS0:=HD.o.rb
    go_region_held3 (fun w'=>w'.cell? ⟨w.heap.size+1,0,none⟩=some (.pointer (some ⟨X,0,none⟩)))
     (first
      |with_reducible exact H.o.rb
      |with_reducible exact hS0
      |with_reducible exact hS1
      |with_reducible exact hS2)
     (first
      |(go_at_call 66;(with_reducible refine(gW HD.o.r U.o).mono ?_);rintro e w1 ⟨rfl,hr1,hg1⟩;have H1:=hid (HD.o.went hr1 hg1);have hS1:=H1.o.rb;clear hr1 hg1)
      |(go_at_call 65;(with_reducible refine(iT H1.o.r U2.o).mono ?_);rintro e w2 ⟨rfl,hr2,hg2⟩;have H2:=hid (H1.o.went hr2 hg2);have hS2:=H2.o.rb;clear hr2 hg2))
    clear hS0 hS1 hS2 hrb;go_wp2_with fail;replace HD:=hid (H2.o.later (Below.refl _ _).drew)
    go_cut [5] from 5 to 19 (fun e wx=>∃ ga gc gm W2,e= .int .i64 x/\wx=dN W2 (w.heap.size+1+1) (.slice ga G.N gc) (.map gm)/\CL w W2 X (.slice a F.N c) (.map m) F q/\bA W2 (.agg #[.slice ga G.N gc,.map gm]) G)
    case first=>
     go_region_held3 (fun w'=>w'.cell? ⟨w.heap.size,0,none⟩=some (.slice a F.N c)/\w'.cell? ⟨w.heap.size,1,none⟩=some (.map m)/\w'.cell? ⟨w.heap.size+1,0,none⟩=some (.pointer (some ⟨X,0,none⟩)))
      (first
       |with_reducible exact⟨HD.o.fb.c0,HD.o.fb.c1,HD.o.rb⟩
       |with_reducible exact⟨H3.o.fb.c0,H3.o.fb.c1,H3.o.rb⟩
       |with_reducible exact⟨H4.o.fb.c0,H4.o.fb.c1,H4.o.rb⟩
       |with_reducible exact H5.o)
      (first
       |(go_at_call 65;(with_reducible refine(iT HD.o.r U3.o).mono ?_);rintro e w3 ⟨rfl,hr3,hg3⟩;have H3:=hid (HD.o.went hr3 hg3);have b10:=H3.o.fb.c0;have b11:=H3.o.fb.c1;clear hr3 hg3)
       |(go_at_call 28;(with_reducible refine(aSa F G x _ nm n r _ HF.o H3.o.fam HNM.o HDE.o).mono ?_);rintro e w4 ⟨gv,rfl,hg,hb4⟩;obtain⟨ga,gc,gm,rfl⟩:=hg.form;have H4:=hid (H3.o.later hb4);have HG:=hid hg;have k0:=H4.o.r1.c0;have k1:=H4.o.r1.c1;have k2:=H4.o.r1.f0;have k3:=H4.o.r1.f1;have H5:=hid (H4.o.farR (.slice ga G.N gc) (.map gm));clear hg hb4))
     all_goals
      go_wp2_with fail;go_meet;exact⟨ga,gc,gm,w4,rfl,rfl,H4.o,HG.o⟩
    case rest=>
     obtain⟨ga,gc,gm,W2,rfl,rfl,hc,hg⟩:=hcut;have HC:=hid hc;have HG:=hid hg;clear hc hg H HD H1 H2;go_wp2_with fail;have j0:=(HC.o.r1.put (.slice ga G.N gc) (.map gm)).c0;have j1:=(HC.o.r1.put (.slice ga G.N gc) (.map gm)).c1
     (try simp only[Exit.inBlock,Exit.then])
     refine bodyPost_ret (v:= .tuple #[.agg #[.slice ga G.N gc,.map gm],.int .i64 x]) (by first|(rw[results_cell_tmp rfl];go_simp;done)|(rw[aB rfl];go_simp;done)|(rw[aA rfl];go_simp;done)) rfl ?_;exact uM HC.o HG.o x
theorem bJq (F:Fam) (fv:Value) (X:Nat) (l:List UInt8) (w:World) (hF:F.ok) (hs:∀ v∈F.vs,v.l.length<=9000) (hf:bA w fv F) (hr:gG w X l) (hl:l.length<=1000000):
  Calls Tryz.prog 83 #[fv,.agg #[.pointer (some ⟨X,0,none⟩)]] w (aXe w X (unP F l)):=by
 obtain⟨a,c,m,rfl⟩:=hf.form;have H:=hid (CL.init w X _ _ F l hf hr _ rfl);have hrb:=H.o.rb
 cases hb:eT l with
 | none=>
  have U:=hid hb;have HP:Hid (unP F l=none):=hid (by unfold unP;rw[hb]);clear hb hf hr;rw[HP.o];go_enter Tryz.func83,Tryz.ntmps83;go_wp2_with fail;have HD:=hid (H.o.later (Below.refl _ _).drew);refine wp_region_held_drew (S:=(fun w'=>w'.cell? ⟨w.heap.size+1,0,none⟩=some (.pointer (some ⟨X,0,none⟩)))) (by kernel_rfl) HD.o.rb (fun hHeld=> ?_);refine wpAnyH_take (i:=0) (v:= ?_) rfl (by kernel_rfl) (by kernel_rfl) (by kernel_rfl) (fun _ _ _ h=>h) (Or.inl ⟨by rfl,?_⟩) (by assumption) ?_
  rotate_left
  ·(intro w hSw;(try dsimp only at hSw);go_simp;try with_reducible rfl)
  try simp only[Act.put,List.setIfInBounds_toArray,List.set_cons_zero,List.set_cons_succ]
  refine wpAnyH_take (i:=2) (v:= ?_) rfl (by kernel_rfl) (by kernel_rfl) (by kernel_rfl) (fun _ _ _ h=>h) (Or.inl ⟨by rfl,?_⟩) (by assumption) ?_
  rotate_left
  ·(intro w hSw;(try dsimp only at hSw);go_simp;try with_reducible rfl)
  try simp only[Act.put,List.setIfInBounds_toArray,List.set_cons_zero,List.set_cons_succ]
  refine wpAnyH_ready (rs:=[1]) (by kernel_rfl) (by simp) ?_;refine AllReadyH.cons rfl (fun K hK=> ?_) AllReadyH.nil;go_simp;refine(sN HD.o.r U.o).mono ?_;rintro e w1 ⟨rfl,hg1⟩;exact⟨rfl,rfl,HD.o.g.next hg1⟩
 | some p=>
  obtain⟨nm,l1⟩:=p;have hsh:=iJ hb;have hnm:nm.length<=maxLen:=by simp only[maxLen];omega
  have U:=hid hb
  cases hb2:fP l1 with
  | none=>
   have U2:=hid hb2;have HP:Hid (unP F l=none):=hid (by unfold unP;rw[hb];simp only;rw[hb2]);clear hb hb2 hf hr;rw[HP.o];go_enter Tryz.func83,Tryz.ntmps83;go_wp2_with fail;have HD:=hid (H.o.later (Below.refl _ _).drew);refine wp_region_held_drew (S:=(fun w'=>w'.cell? ⟨w.heap.size+1,0,none⟩=some (.pointer (some ⟨X,0,none⟩)))) (by kernel_rfl) HD.o.rb (fun hHeld=> ?_);refine wpAnyH_take (i:=0) (v:= ?_) rfl (by kernel_rfl) (by kernel_rfl) (by kernel_rfl) (fun _ _ _ h=>h) (Or.inl ⟨by rfl,?_⟩) (by assumption) ?_
   rotate_left
   ·(intro w hSw;(try dsimp only at hSw);go_simp;try with_reducible rfl)
   try simp only[Act.put,List.setIfInBounds_toArray,List.set_cons_zero,List.set_cons_succ]
   refine wpAnyH_take (i:=2) (v:= ?_) rfl (by kernel_rfl) (by kernel_rfl) (by kernel_rfl) (fun _ _ _ h=>h) (Or.inl ⟨by rfl,?_⟩) (by assumption) ?_
   rotate_left
   ·(intro w hSw;(try dsimp only at hSw);go_simp;try with_reducible rfl)
   try simp only[Act.put,List.setIfInBounds_toArray,List.set_cons_zero,List.set_cons_succ]
   refine wpAnyH_ready (rs:=[1]) (by kernel_rfl) (by simp) ?_;refine AllReadyH.cons rfl (fun K hK=> ?_) AllReadyH.nil;go_simp;refine(gW HD.o.r U.o).mono ?_;rintro e w1 ⟨rfl,hr1,hg1⟩;have H1:=hid (HD.o.went hr1 hg1);clear hr1 hg1;refine hK.out _ _ H1.o.rb (fun hHeld=> ?_);clear hK K
   try simp only[Act.put,List.setIfInBounds_toArray,List.set_cons_zero,List.set_cons_succ]
   refine wpAnyH_ready (rs:=[3]) (by kernel_rfl) (by simp) ?_;refine AllReadyH.cons rfl (fun K hK=> ?_) AllReadyH.nil;go_simp;refine(rH H1.o.r U2.o).mono ?_;rintro e w2 ⟨rfl,hg1⟩;exact⟨rfl,rfl,H1.o.g.next hg1⟩
  | some p=>
   obtain⟨n,l2⟩:=p;have hn0:=(jJ hb2).2;have U2:=hid hb2
   cases hb3:fP l2 with
   | none=>
    have U3:=hid hb3;have HP:Hid (unP F l=none):=hid (by unfold unP;rw[hb];simp only;rw[hb2];simp only;rw[hb3]);clear hb hb2 hb3 hf hr;rw[HP.o];go_enter Tryz.func83,Tryz.ntmps83;go_wp2_with fail;have HD:=hid (H.o.later (Below.refl _ _).drew);have hS0:=HD.o.rb
    go_region_held3 (fun w'=>w'.cell? ⟨w.heap.size+1,0,none⟩=some (.pointer (some ⟨X,0,none⟩)))
     (first
      |with_reducible exact H.o.rb
      |with_reducible exact hS0
      |with_reducible exact hS1
      |with_reducible exact hS2)
     (first
      |(go_at_call 66;(with_reducible refine(gW HD.o.r U.o).mono ?_);rintro e w1 ⟨rfl,hr1,hg1⟩;have H1:=hid (HD.o.went hr1 hg1);have hS1:=H1.o.rb;clear hr1 hg1)
      |(go_at_call 65;(with_reducible refine(iT H1.o.r U2.o).mono ?_);rintro e w2 ⟨rfl,hr2,hg2⟩;have H2:=hid (H1.o.went hr2 hg2);have hS2:=H2.o.rb;clear hr2 hg2))
    clear hS0 hS1 hS2 hrb;go_wp2_with fail;replace HD:=hid (H2.o.later (Below.refl _ _).drew);refine wp_region_held_drew (S:=(fun w'=>w'.cell? ⟨w.heap.size,0,none⟩=some (.slice a F.N c)/\w'.cell? ⟨w.heap.size,1,none⟩=some (.map m)/\w'.cell? ⟨w.heap.size+1,0,none⟩=some (.pointer (some ⟨X,0,none⟩)))) (by kernel_rfl) ⟨HD.o.fb.c0,HD.o.fb.c1,HD.o.rb⟩ (fun hHeld=> ?_);refine wpAnyH_take (i:=0) (v:= ?_) rfl (by kernel_rfl) (by kernel_rfl) (by kernel_rfl) (fun _ _ _ h=>h) (Or.inl ⟨by rfl,?_⟩) (by assumption) ?_
    rotate_left
    ·(intro w hSw;(try dsimp only at hSw);go_simp;try with_reducible rfl)
    try simp only[Act.put,List.setIfInBounds_toArray,List.set_cons_zero,List.set_cons_succ]
    refine wpAnyH_take (i:=1) (v:= ?_) rfl (by kernel_rfl) (by kernel_rfl) (by kernel_rfl) (fun _ _ _ h=>h) (Or.inl ⟨by rfl,?_⟩) (by assumption) ?_
    rotate_left
    ·(intro w hSw;(try dsimp only at hSw);go_simp;try with_reducible rfl)
    try simp only[Act.put,List.setIfInBounds_toArray,List.set_cons_zero,List.set_cons_succ]
    refine wpAnyH_take (i:=2) (v:= ?_) rfl (by kernel_rfl) (by kernel_rfl) (by kernel_rfl) (fun _ _ _ h=>h) (Or.inl ⟨by rfl,?_⟩) (by assumption) ?_
    rotate_left
    ·(intro w hSw;(try dsimp only at hSw);go_simp;try with_reducible rfl)
    try simp only[Act.put,List.setIfInBounds_toArray,List.set_cons_zero,List.set_cons_succ]
    refine wpAnyH_take (i:=3) (v:= ?_) rfl (by kernel_rfl) (by kernel_rfl) (by kernel_rfl) (fun _ _ _ h=>h) (Or.inl ⟨by rfl,?_⟩) (by assumption) ?_
    rotate_left
    ·(intro w hSw;(try dsimp only at hSw);go_simp;try with_reducible rfl)
    try simp only[Act.put,List.setIfInBounds_toArray,List.set_cons_zero,List.set_cons_succ]
    refine wpAnyH_ready (rs:=[4]) (by kernel_rfl) (by simp) ?_;refine AllReadyH.cons rfl (fun K hK=> ?_) AllReadyH.nil;go_simp;refine(rH HD.o.r U3.o).mono ?_;rintro e w3 ⟨rfl,hg1⟩;exact⟨rfl,rfl,HD.o.g.next hg1⟩
   | some p=>
    obtain⟨r,q⟩:=p;have hr0:=(jJ hb3).2;have U3:=hid hb3;obtain⟨G,L,x,hd⟩:∃ G L x,bY F nm n r=(G,L,x):=⟨_,_,_,rfl⟩;have HP:Hid (unP F l=some (G,x,q)):=hid (by unfold unP;rw[hb];simp only;rw[hb2];simp only;rw[hb3];simp only;rw[hd]);have HDE:=hid hd;have HNM:=hid hnm;have HF:=hid hF;have HS:=hid hs;clear hb hb2 hb3 hf hr hd hnm hF hs hsh;rw[HP.o];go_enter Tryz.func83,Tryz.ntmps83;go_wp2_with fail;have HD:=hid (H.o.later (Below.refl _ _).drew);have hS0:=HD.o.rb
    go_region_held3 (fun w'=>w'.cell? ⟨w.heap.size+1,0,none⟩=some (.pointer (some ⟨X,0,none⟩)))
     (first
      |with_reducible exact H.o.rb
      |with_reducible exact hS0
      |with_reducible exact hS1
      |with_reducible exact hS2)
     (first
      |(go_at_call 66;(with_reducible refine(gW HD.o.r U.o).mono ?_);rintro e w1 ⟨rfl,hr1,hg1⟩;have H1:=hid (HD.o.went hr1 hg1);have hS1:=H1.o.rb;clear hr1 hg1)
      |(go_at_call 65;(with_reducible refine(iT H1.o.r U2.o).mono ?_);rintro e w2 ⟨rfl,hr2,hg2⟩;have H2:=hid (H1.o.went hr2 hg2);have hS2:=H2.o.rb;clear hr2 hg2))
    clear hS0 hS1 hS2 hrb;go_wp2_with fail;replace HD:=hid (H2.o.later (Below.refl _ _).drew);have b0:=H2.o.fb.c0;have b1:=H2.o.fb.c1;have f0:=H2.o.fb.f0;have f1:=H2.o.fb.f1;have hrb:=H2.o.rb
    go_cut [9] from 8 to 23 (fun e wx=>CLI w X G q x e wx)
    case first=>
     go_region_with (first
      |(go_at_call 65;(with_reducible refine(iT HD.o.r U3.o).mono ?_);rintro e w3 ⟨rfl,hr3,hg3⟩;have H3:=hid (HD.o.went hr3 hg3);have b10:=H3.o.fb.c0;have b11:=H3.o.fb.c1;clear hr3 hg3)
      |(go_at_call 84;(with_reducible refine(aXh F G L x _ nm n r _ HF.o HS.o H3.o.fam HNM.o (by omega) HDE.o).mono ?_);rintro e w4 ⟨gv,sv,rfl,hg,ho,hb4⟩;obtain⟨ga,gc,gm,rfl⟩:=hg.form;have H4:=hid (H3.o.later hb4);have HG:=hid hg;have b20:=H4.o.fb.c0;have b21:=H4.o.fb.c1;have f20:=H4.o.fb.f0;have f21:=H4.o.fb.f1;clear hg ho hb4))
     all_goals
      have HZ:Hid (CLI w X G q x (.int .i64 x) (dN w4 w.heap.size (.slice ga G.N gc) (.map gm))):=hid ⟨rfl,ga,gc,gm,H4.o.putF HG.o⟩;go_wp2_with fail;go_meet;exact HZ.o
    case rest=>
     obtain⟨rfl,ga,gc,gm,hcl⟩:=hcut;have HC:=hid hcl;clear hcl H HD H1 H2 b0 b1 f0 f1 hrb;have b0:=HC.o.fb.c0;have b1:=HC.o.fb.c1;have r0:=HC.o.r1.c0;have r1:=HC.o.r1.c1;have g0:=HC.o.r1.f0;have g1:=HC.o.r1.f1;go_wp2_with fail;have j0:=(HC.o.r1.put (.slice ga G.N gc) (.map gm)).c0;have j1:=(HC.o.r1.put (.slice ga G.N gc) (.map gm)).c1
     (try simp only[Exit.inBlock,Exit.then])
     refine bodyPost_ret (v:= .tuple #[.agg #[.slice ga G.N gc,.map gm],.int .i64 x]) (by first|(rw[results_cell_tmp rfl];go_simp;done)|(rw[aB rfl];go_simp;done)|(rw[aA rfl];go_simp;done)) rfl ?_;exact uM HC.o HC.o.fam x
end Go.Proofs.YtaiklhbakldfhaaGreat
