/-
  What a state yields when it is loaded: the family that was written.
  package mapper: load.
  package mapper: Load; how long a state is; what Load makes of a state.
  Conditions: as each theorem says.
-/
import Derived.Test.YtaiklhbakldfhaaGreatHG
import Derived.Test.YtaiklhbakldfhaaGreatGH
import Derived.Test.YtaiklhbakldfhaaGreatGI
import Derived.Test.YtaiklhbakldfhaaGreatHZ
import Derived.Test.YtaiklhbakldfhaaGreatMpV
import Derived.Test.YtaiklhbakldfhaaGreatMqL
namespace Go.Proofs.YtaiklhbakldfhaaGreat
open Go.Lib (hid)
set_option linter.unusedSimpArgs false
set_option linter.unusedVariables false
set_option maxRecDepth 100000
set_option maxHeartbeats 16000000
theorem bFj (v:Vol) (vs:List Vol) (h:∀ w∈vs,bytesBefore w.nm v.nm=true):pX v vs=vs++[v]:=by
 induction vs with
 |nil=>rfl
 | cons w r ih=>
  unfold pX;rw[if_neg (by rw[qD _ _ (h w (by simp))];simp),ih fun x hx=>h x (by simp[hx])];rfl
theorem bDz (v:Vol) (vs:List Vol) (h:∀ w∈vs,bytesBefore w.nm v.nm=true):eB vs v=vs++[v]:=by
 have hn:aP vs v.nm=none:=iY.2 fun w hw e=>by
  have:=h w hw;rw[e,before_irrefl]at this;cases this
 unfold eB;rw[oQ hn];exact bFj v vs h
theorem aJw (vs:List Vol) (u v:Vol) (h:u.nm=v.nm):eB (eB vs u) v=eB vs v:=by
 unfold eB;rw[show bP (pX u (bP vs u.nm)) v.nm=bP vs v.nm by
  rw[<-h]
  exact bJj fun w hw=>(gM.1 hw).2]
theorem aTb (F:Fam) (v w:Vol) (h:v.nm=w.nm):(F.with v).with w=F.with w:=by
 unfold Fam.with;rw[aJw _ _ _ h]
theorem bDy (A:List E) (x:E) (hv:aI (A++[x])=true) (hn:eX (A++[x])=true):bK A x=A++[x]:=by
 obtain⟨h1,h2,_,h4,_⟩:=iR (A:=A) (x:=x) (B:=[]) hv;rw[aGi]at hn;simp only[Bool.and_eq_true]at hn;obtain⟨hn1,hn2⟩:=hn;rw[aPj A x h1 hn1];have e1:aJ A 0 x.a=A:=lQ A 0 x.a fun y hy=>⟨aK h1 y hy,((aD y).1 (aK h1 y hy)).2.1,h4 y hy⟩;have e2:aJ A (x.a+x.n) 65536=[]:=nG A _ _ fun y hy=> .inl (by have:=h4 y hy;have:=((aD x).1 h2).1;omega);rw[e1,e2];show fD A x=A++[x];unfold bBj at hn2;by_cases hA:A=[]
 ·subst hA;rfl
 ·obtain⟨A',y,rfl⟩:=fC A hA;simp only[List.getLast?_append,List.getLast?_singleton]at hn2;exact eD _ _ _ (by simpa using hn2)
section
variable {F:Fam} {v:Vol}
theorem bHe (nm:List UInt8) (l:List E):∀ (F:Fam) (v:Vol),F.ok->aP F.vs nm=some v->aI (v.l++l)=true->eX (v.l++l)=true->inside l v.n->aS F.N l=true->
  aIi F nm l/\aCu F nm l=(if l=[]then F else F.with (v.set (v.l++l))):=by
 induction l with
 |nil=>intro F v _ _ _ _ _ _;exact⟨trivial,rfl⟩
 | cons x r ih=>
  intro F v hF hg hv hn hi hp;have hnm:v.nm=nm:=(aH hg).2;have hxv:aI (v.l++[x])=true:=by
   have:=vB (v.l++x::r) (v.l.length+1) hv
   rwa [List.take_append,List.take_of_length_le (by omega),show v.l.length+1-v.l.length=1 by omega,List.take_succ_cons,List.take_zero]at this
  have hxn:eX (v.l++[x])=true:=by
   have h1:=(mD _).2 hn;have:∀ (A B:List E),eX (A++B)=true->eX A=true:=by
    intro A
    induction A with
    |nil=>intros;rfl
    | cons a A ih=>
     intro B hB
     cases A with
     |nil=>rfl
     | cons b A=>
      rw[List.cons_append,List.cons_append,jK,Bool.and_eq_true]at hB;rw[jK,Bool.and_eq_true];exact⟨hB.1,ih B hB.2⟩
   refine this (v.l++[x]) r ?_;rw[List.append_assoc];exact hn
  have hx:okB x=true:=(iR (A:=v.l) (x:=x) (B:=r) hv).2.1;obtain⟨o1,o2,o3,o4,o5⟩:=(aD x).1 hx;have hpx:=(aO _ _).1 hp x (by simp);have hix:=hi x (by simp);have hin:(inB x.a x.n v.n&&qN F.N x)=true:=by
   rw[Bool.and_eq_true,iN];exact⟨⟨o2,by omega,by omega,by omega⟩,decide_eq_true hpx⟩
  have hput:=bDy v.l x hxv hxn;have ha:aQ F nm x=(F.with (v.set (v.l++[x])),dS F (F.with (v.set (v.l++[x]))),0):=by
   unfold aQ;rw[hg];simp only;rw[if_neg (by rw[hin];simp),hput]
  have hvo:=(hF.vol v (aH hg).1).put hF.hN hin;rw[hput]at hvo;have hF':(F.with (v.set (v.l++[x]))).ok:=hF.with hvo.2 (w:=v) (by rw[show(v.set (v.l++[x])).nm=v.nm from rfl,hnm];exact hg);have hg':aP (F.with (v.set (v.l++[x]))).vs nm=some (v.set (v.l++[x])):=by
   show aP (eB F.vs _) nm=_;rw[iX hF.sorted];exact if_pos hnm.symm
  obtain⟨h1,h2⟩:=ih (F.with (v.set (v.l++[x]))) (v.set (v.l++[x])) hF' hg' (by show aI (v.l++[x]++r)=true;rw[List.append_assoc];exact hv) (by show eX (v.l++[x]++r)=true;rw[List.append_assoc];exact hn) (fun y hy=>hi y (by simp[hy])) ((aO _ _).2 fun y hy=>(aO _ _).1 hp y (by simp[hy]))
  constructor
  ·show(aQ F nm x).2.2=0/\aIi (aQ F nm x).1 nm r;rw[ha];exact⟨rfl,h1⟩
  ·show aCu (aQ F nm x).1 nm r=_;rw[ha,h2,if_neg (show ¬(x::r=[]) by simp)];by_cases hr:r=[]
   ·subst hr;rw[if_pos rfl]
   ·rw[if_neg hr];refine(aTb F (v.set (v.l++[x])) ((v.set (v.l++[x])).set ((v.set (v.l++[x])).l++r)) rfl).trans ?_;show F.with (v.set (v.l++[x]++r))=_;rw[List.append_assoc];rfl
end
theorem bHf {F:Fam} {v:Vol} (hF:F.ok) (hv:v.ok F.N) (hg:aP F.vs v.nm=some (v.set [])) (r:List UInt8):
  ∃G,wT v.l.length F v.nm (iZ v.l++r)=some (G,0,r)/\G=(if v.l=[]then F else F.with v):=by
 obtain⟨h1,h2⟩:=bHe v.nm v.l F (v.set []) hF hg hv.valid hv.norm hv.ins hv.perm;exact⟨_,aIh v.nm r v.l F (fun x hx=>aK hv.valid x hx) h1,h2⟩
theorem bCy {F:Fam} {v:Vol} (hF:F.ok) (hv:v.ok F.N) (hf:F.vs.length<32) (hs:∀ w∈F.vs,bytesBefore w.nm v.nm=true) (r:List UInt8):
  bKw F (wL v++r)=some (⟨F.N,F.vs++[v]⟩,r):=by
 have hnm:v.nm.length<=16:=by
  have:=hv.name;unfold gK at this;simp only[Bool.and_eq_true,decide_eq_true_eq]at this;exact this.2.2
 have hsh:=hv.short;have hn:aP F.vs v.nm=none:=iY.2 fun w hw e=>by
  have:=hs w hw;rw[e,before_irrefl]at this;cases this
 have hc:aU F v.nm v.n v.r=(⟨F.N,eB F.vs (v.set [])⟩,0):=by
  unfold aU;rw[if_neg (by
   rw[hv.name];have:aMt v.n v.r=true:=decide_eq_true ⟨hv.n1,hv.n2,hv.r0,hv.r1⟩;rw[this]
   simp),hn,if_neg (by simp),if_neg (by omega)]
  rfl
 have hFc:(⟨F.N,eB F.vs (v.set [])⟩:Fam).ok:=hF.add (v:=v.set []) ⟨hv.name,hv.n1,hv.n2,hv.r0,hv.r1,rfl,rfl,fun x hx=>by simp[Vol.set]at hx,rfl⟩ hn hf;have hgc:aP (⟨F.N,eB F.vs (v.set [])⟩:Fam).vs v.nm=some (v.set []):=by
  show aP (eB F.vs (v.set [])) v.nm=_;rw[iX hF.sorted];exact if_pos rfl
 obtain ⟨G,hG,he⟩:=bHf hFc hv hgc r;have hpl:eB F.vs v=F.vs++[v]:=bDz v F.vs hs;have hG':G=⟨F.N,F.vs++[v]⟩:=by
  rw[he];by_cases h0:v.l=[]
  ·rw[if_pos h0,show v.set []=v by rw[<-h0];exact Vol.set_self v,hpl]
  ·rw[if_neg h0];unfold Fam.with;simp only;rw[aJw F.vs (v.set []) v rfl,hpl]
 subst hG';unfold bKw wL;rw[List.append_assoc,List.append_assoc,zL _ _ (by omega)];simp only;unfold numsL;simp only[List.flatMap_cons,List.flatMap_nil,List.append_nil,List.append_assoc];have h1:=hv.n1;have h2:=hv.n2;have h3:=hv.r0;have h4:=hv.r1;rw[kT (by omega) h2];simp only;rw[kT h3 (by omega)];simp only;rw[Int.toNat_of_nonneg (by omega),Int.toNat_of_nonneg h3,hc];simp only;rw[if_pos True.intro,kT (by omega) (by omega)];simp only;rw[Int.toNat_natCast,hG];simp
theorem aYo (r:List UInt8) (ws:List Vol):∀ (F:Fam),F.ok->(∀v∈ws,v.ok F.N)->F.vs.length+ws.length<=32->fI (F.vs++ws)->aOd ws.length F (ws.flatMap wL++r)=some (⟨F.N,F.vs++ws⟩,r):=by
 induction ws with
 |nil=>intro F _ _ _ _;rw[List.append_nil];rfl
 | cons v ws ih=>
  intro F hF hv hl hs;have hbe:∀ w∈F.vs,bytesBefore w.nm v.nm=true:=fun w hw=>(List.pairwise_append.1 hs).2.2 w hw v (by simp);have hl':F.vs.length+(ws.length+1)<=32:=by simpa using hl
  show aOd (ws.length+1) F _=_;unfold aOd;rw[List.flatMap_cons,List.append_assoc,bCy hF (hv v (by simp)) (by omega) hbe];simp only;have hs':fI (F.vs++[v]++ws):=by rw[List.append_assoc];exact hs
  have hF':(⟨F.N,F.vs++[v]⟩:Fam).ok:=⟨hF.hN,(List.pairwise_append.1 hs').1,by simp;omega,fun w hw=>by
   rcases List.mem_append.1 hw with h|h
   ·exact hF.vol w h
   ·simp at h;subst h;exact hv w (by simp)⟩
  rw[ih ⟨F.N,F.vs++[v]⟩ hF' (fun w hw=>hv w (by simp[hw])) (by simp;omega) hs'];simp
theorem bLh {F:Fam} (hF:F.ok):bKj F.N (jG F)=some F:=by
 have hfew:=hF.few;have h0:(⟨F.N,[]⟩:Fam).ok:=⟨hF.hN,List.Pairwise.nil,by simp,fun v hv=>by simp at hv⟩;unfold bKj jG;rw[kT (by omega) (by omega)];simp only;have:=aYo [] F.vs ⟨F.N,[]⟩ h0 hF.vol (by simpa using hfew) (by simpa using hF.sorted);rw[List.append_nil]at this;rw[Int.toNat_natCast,this];simp
open Go.RowKit Go.Maps
theorem results_cells {fn:Func} {p q:Tmp} {t t':TypeId} (h:fn.results= #[.cell p t,.cell q t']) (tmps:Array Value) (P:Program) (w:World):
  (results fn tmps).run P w=((asAddr (tmps.getD p undef)).run P w).andThen fun a w₁=>((loadVar t a).run P w₁).andThen fun v w₂=>((asAddr (tmps.getD q undef)).run P w₂).andThen fun b w₃=>((loadVar t' b).run P w₃).andThen fun u w₄=> .ok (.tuple #[v,u]) w₄:=by
 simp only[results,h];simp[Sem.run_bind,Result.andThen]
structure LF (w W:World) (x:Int) (u v:Value) (G:Fam):Prop where
 fb:Bx W w.heap.size 46 u v
 fam:bA W (.agg #[u,v]) G
 e0:W.cell? ⟨w.heap.size+1,0,none⟩=some (.int .i64 x)
 ef:W.frozen? ⟨w.heap.size+1,0,none⟩=false
 eo:Odd W (w.heap.size+1)
 g:Below w.heap.size w W
theorem odd_err (V:World):Odd (V.alloc (.cells #[.int .i64 0] 36)) V.heap.size:=
 ⟨fun i hi=>by rw[World.cell?_alloc_new];simp;omega,⟨_,bMk,_,_,Array.getElem?_push_size⟩,fun i c=>by
  rw[World.cell?_alloc_new]
  match i with
  |0=>simp
  |i+1=>simp⟩
section
variable {w W W':World} {x y:Int} {u v u' v':Value} {G H:Fam} {X:Nat}
theorem LF.init (w:World):LF w ((w.alloc (.cells #[.slice none 0 0,.map none] 46)).alloc (.cells #[.int .i64 0] 36)) 0 (.slice none 0 0) (.map none) dR:=by
 have k1:=(Below.refl w.heap.size w).bMq (.cells #[.slice none 0 0,.map none] 46);have k2:=(Below.refl _ (w.alloc (.cells #[.slice none 0 0,.map none] 46))).bMq (.cells #[.int .i64 0] 36);have hO:=odd_err (w.alloc (.cells #[.slice none 0 0,.map none] 46));rw[World.size_alloc]at hO;exact⟨(Bx.new w _ rfl _ _ _).later k2,bA.zero _,by simp,by simp,hO,k1.on k2⟩
theorem LF.later (h:LF w W x u v G) (hb:Below W.heap.size W W'):LF w W' x u v G:=
 ⟨h.fb.later hb,h.fam.keep hb,hb.keep h.e0,hb.bMw h.e0 h.ef,h.eo.later hb,h.g.on hb⟩
theorem LF.went (h:LF w W x u v G) (hX:Odd W X) (hlt:w.heap.size+1<X) (hg:W.grownBy W' (some X)):LF w W' x u v G:=
 ⟨h.fb.grown hg (fun e=>by injection e with e;omega),h.fam.grown hX hg,jM hg h.e0 (by omega),oK hg h.e0 h.ef (by omega),h.eo.grown hg (by omega),h.g.bMu hg fun k hk=>by injection hk with hk;omega⟩
theorem LF.setE (h:LF w W x u v G) (y:Int):LF w (W.setCell ⟨w.heap.size+1,0,none⟩ (.int .i64 y)) y u v G:=by
 have hg:=bV W ⟨w.heap.size+1,0,none⟩ (.int .i64 y);refine⟨h.fb.grown hg (fun e=>by injection e with e;simp only at e;omega),h.fam.grown h.eo hg,World.cell?_setCell_same _ _ _ h.e0,by rw[World.frozen?_setCell];exact h.ef,⟨fun i hi=>iE (by omega) (h.eo.two i hi),?_,fun i c=> ?_⟩,h.g.setCell (Nat.le_succ _) _⟩
 ·obtain⟨t,h1,h2⟩:=h.eo.ty;exact⟨t,h1,h2.set _ _⟩
 ·match i with
  |0=>rw[World.cell?_setCell_same _ _ _ h.e0];simp
  | i+1=>
   intro e;rw[World.cell?_setCell_other _ _ _ _ (by simp)]at e;exact h.eo.nob _ _ e
theorem LF.put (h:LF w W x u v G) (hg:bA W (.agg #[u',v']) H):LF w (dN W w.heap.size u' v') x u' v' H:=by
 have hO:Odd W w.heap.size:=h.fam.oddBox (x:=u') h.fb;have hgr:=gY W w.heap.size u' v';exact⟨h.fb.put _ _,hg.grown hO hgr,jM hgr h.e0 (by simp),oK hgr h.e0 h.ef (by simp),h.eo.grown hgr (by simp),(h.g.setCell (Nat.le_refl _) _).setCell (Nat.le_refl _) _⟩
theorem LF.drew (h:LF w W x u v G):LF w W.drew x u v G:=h.later (Below.refl _ _).drew
theorem LF.odd (h:LF w W x u v G):Odd W w.heap.size:=h.fam.oddBox (x:=u) h.fb
theorem LF.rb (h:LF w W x u v G) {B:Nat} {l:List UInt8} (hr:RB1 W B X l) (hx:w.heap.size+1<X) (hB:w.heap.size+1<B) (p q:Value) (y:Int) (hpq:bA W (.agg #[p,q]) H):RB1 ((dN W w.heap.size p q).setCell ⟨w.heap.size+1,0,none⟩ (.int .i64 y)) B X l:=
 (hr.other h.odd (gY W w.heap.size p q) (by omega) (by omega)).other (h.put hpq).eo (bV _ _ _) (by omega) (by omega)
end
def LdQ (w:World) (N:Nat) (o:Option Fam) (e:Ending) (w':World):Prop:=
 ∃u v G x,e= .returned (.tuple #[.agg #[u,v],.int .i64 x])/\bA w' (.agg #[u,v]) G/\Below w.heap.size w w'/\(x=0->o=some G/\G.ok/\G.N=N/\ ∀v∈G.vs,v.l.length<=9000)/\(x≠0->o=none)
theorem LF.done {w W:World} {x:Int} {u v:Value} {G:Fam} {o:Option Fam} {N:Nat} (h:LF w W x u v G) (h0:x=0->o=some G/\G.ok/\G.N=N/\ ∀v∈G.vs,v.l.length<=9000) (h1:x≠0->o=none):LdQ w N o (.returned (.tuple #[.agg #[u,v],.int .i64 x])) W:=
 ⟨u,v,G,x,rfl,h.fam,h.g,h0,h1⟩
def LPan (w:World) (o:Option Fam) (D:List Deferred):Exit->Act->World->Prop
 | .panic ch,act,W=>ch=pan 5/\o=none/\(∃x u v G,LF w W x u v G)/\act.defers=D/\act.tmps.getD 4 undef= .pointer (some ⟨w.heap.size,0,none⟩)/\act.tmps.getD 5 undef= .pointer (some ⟨w.heap.size+1,0,none⟩)
 |_,_,_=>False
theorem getD_putn (a:Act) (d k:Nat) (v:Value) (h:d≠k):(a.put (some d) v).tmps.getD k undef=a.tmps.getD k undef:=by
 show(a.tmps.setIfInBounds d v).getD k undef=_;rw[Array.getD_eq_getD_getElem?,Array.getD_eq_getD_getElem?,Array.getElem?_setIfInBounds_ne h]
theorem lpan_out {w:World} {N:Nat} {o:Option Fam} {act:Act} {W:World} {ch:List PanicEntry} (h:LPan w o [{target:= .fn (.func 64) #[.pointer (some ⟨w.heap.size+1,0,none⟩)],args:= #[]}] (.panic ch) act W):
  bodyPostD Tryz.prog Tryz.f23 (LdQ w N o) (.panic ch) act W:=by
 obtain⟨rfl,rfl,⟨x,u,v,G,h1⟩,h2,h3,h4⟩:=h;show Leaves _ _ act.tmps _ act.defers _ _;rw[h2];refine leaves_cons (f:=64) (args:= #[.pointer (some ⟨w.heap.size+1,0,none⟩)]) (by simp) (by simp[go_sem]) ?_;refine(bLn ⟨w.heap.size+1,0,none⟩ _ 5 _ h1.e0 h1.ef).mono ?_;rintro e u' w'' ⟨rfl,rfl,rfl⟩;have j:=(h1.setE 5).drew;have j0:=j.e0;have j1:=j.fb.c0;have j2:=j.fb.c1;refine⟨.tuple #[.agg #[u,v],.int .i64 5],(by rw[results_cells rfl,h3,h4];go_simp;done),?_⟩;exact j.done (fun e=>by cases e) (fun _=>rfl)
def endL:Option (Fam × List UInt8)->Option Fam
 |none=>none
 |some (F,q)=>if q=[]then some F else none
def endA (k:Nat):Option (Fam × Int × List UInt8)->Option Fam
 |none=>none
 |some (G,e,r)=>if e=0 then endL (aOd k G r)else none
theorem load_eq (N:Nat) (l:List UInt8):bKj N l=match fP l with|none=>none|some (k,r)=>endL (aOd k ⟨N,[]⟩ r):=by
 unfold bKj endL
 cases fP l with
 |none=>rfl
 | some p=>
  obtain⟨k,r⟩:=p;simp only
  cases aOd k ⟨N,[]⟩ r with
  |none=>rfl
  |some p=>rfl
theorem vols_step (k:Nat) (F:Fam) (l:List UInt8):endL (aOd (k+1) F l)=match eT l with
    |none=>none
    | some (nm,l1)=>match fP l1 with
      |none=>none
      | some (n,l2)=>match fP l2 with
        |none=>none
        | some (r,l3)=>if (aU F nm n r).2=0 then (match fP l3 with
            |none=>none
            |some (j,l4)=>endA k (wT j (aU F nm n r).1 nm l4))else none:=by
  show endL (match bKw F l with|none=>none|some (G,r)=>aOd k G r)=_;unfold bKw
  cases eT l with
  |none=>rfl
  | some p =>
    obtain⟨nm,l1⟩:=p;simp only
    cases fP l1 with
    |none=>rfl
    | some p =>
      obtain⟨n,l2⟩:=p;simp only
      cases fP l2 with
      |none=>rfl
      | some p =>
        obtain⟨r,l3⟩:=p;simp only;by_cases h:(aU F nm n r).2=0
        · rw [if_pos h,if_pos h]
          cases fP l3 with
          |none=>rfl
          | some p=>
            obtain⟨j,l4⟩:=p;simp only;unfold endA
            cases wT j (aU F nm n r).1 nm l4 with
            |none=>rfl
            | some p=>
              obtain⟨G,e,l5⟩:=p;simp only;by_cases he:e=0
              · rw[if_pos he,if_pos he]
              · rw[if_neg he,if_neg he];rfl
        · rw[if_neg h,if_neg h];rfl
def fits (G:Fam) (r:List UInt8):Prop:=r.length<=13000/\ ∀v∈G.vs,3*v.l.length+2*r.length<=27000
theorem fits.short {G:Fam} {r:List UInt8} (h:fits G r):∀ v∈G.vs,v.l.length<=9000:=fun v hv=>by have:=h.2 v hv;omega
theorem fits.less {G:Fam} {r q:List UInt8} (h:fits G r) (hq:q.length<=r.length):fits G q:=⟨Nat.le_trans hq h.1,fun v hv=>by have:=h.2 v hv;omega⟩
theorem fits.create {G:Fam} {r:List UInt8} (h:fits G r) (nm:List UInt8) (n m:Int):fits (aU G nm n m).1 r:=⟨h.1,fun v hv=>by
 have h1:=h.1;unfold aU at hv
 split at hv
 ·cases hv
 ·split at hv
  ·cases hv
  ·split at hv
   ·cases hv
   ·rcases eF.1 hv with rfl|⟨hv,_⟩
    ·simp;omega
    ·exact h.2 v hv⟩
theorem fits.assign {G:Fam} (hG:G.ok) {r q nm:List UInt8} {x:E} (h:fits G r) (hq:q.length+3<=r.length) (he:(aQ G nm x).2.2=0):fits (aQ G nm x).1 q:=⟨by have:=h.1;omega,fun v hv=>by
 have:=aLt hG (nm:=nm) (x:=x) (B:=(27000-2*r.length)/3) (fun u hu=>by have:=h.2 u hu;omega) he v hv;have h1:=h.1
 omega⟩
theorem create_N {G:Fam} {nm:List UInt8} {n m:Int} (h:(aU G nm n m).2=0):(aU G nm n m).1.N=G.N:=by
 unfold aU at h ⊢
 split at h
 ·simp at h
 ·rename_i h1
  rw[if_neg h1]
  split at h
  ·simp at h
  ·rename_i h2
   rw[if_neg h2]
   split at h
   ·simp at h
   ·rename_i h3
    rw[if_neg h3]
theorem assign_N {G:Fam} {nm:List UInt8} {x:E} (h:(aQ G nm x).2.2=0):(aQ G nm x).1.N=G.N:=by
 unfold aQ at h ⊢
 cases hg:aP G.vs nm with
 |none=>rw[hg]at h;simp at h
 | some u=>
  rw[hg]at h;simp only at h ⊢
  split at h
  ·simp at h
  ·rename_i h1
   rw[if_neg h1];rfl
def LdI (w:World) (X Y N:Nat) (o:Option Fam) (k j:Nat) (wr:World):Prop:=
 ∃(G:Fam) (ga:Option Addr) (gc:Nat) (gm:Option Nat) (r:List UInt8),LF w wr 0 (.slice ga G.N gc) (.map gm) G/\RB1 wr Y X r/\G.ok/\G.N=N/\fits G r/\endL (aOd (k-j) G r)=o
def LdJ (w:World) (X Y N:Nat) (o:Option Fam) (nm:List UInt8) (b k j:Nat) (wr:World):Prop:=
 ∃(G:Fam) (ga:Option Addr) (gc:Nat) (gm:Option Nat) (r:List UInt8),LF w wr 0 (.slice ga G.N gc) (.map gm) G/\RB1 wr Y X r/\G.ok/\G.N=N/\fits G r/\endA b (wT (k-j) G nm r)=o
def LdC (w:World) (X Y:Nat) (G:Fam) (x:Int) (r:List UInt8) (wr:World):Prop:=
 ∃(ga:Option Addr) (gc:Nat) (gm:Option Nat),LF w wr x (.slice ga G.N gc) (.map gm) G/\RB1 wr Y X r
theorem load_is (N:Nat) (l:List UInt8) (a:Option Addr) (c:Nat) (w:World) (hN:N<=65536) (hl:l.length<=13000) (hr:RdY w a l):
  Calls Tryz.prog 23 #[.slice a l.length c,.int .i64 N] w (LdQ w N (bKj N l)):=by
 have hmf:∀ (fn:Fn) (first cap:Array Value) (w:World),(Instr.makeFunc fn first cap).run Tryz.prog w= .ok (.func fn first cap) w:=fun _ _ _ _=>rfl;obtain⟨o,ho⟩:∃ o,bKj N l=o:=⟨_,rfl⟩;rw[ho];have HO:=hid ((load_eq N l).symm.trans ho);have HA:=hid (LF.init w);have HR:=hid hr;clear ho hr
 go_enter_defers Tryz.func23,Tryz.ntmps23
 go_wp2_with fail;refine(bGd N _ hN).mono ?_;rintro e w1 ⟨fv,rfl,hf,hb⟩;obtain⟨fa,fc,fm,rfl⟩:=hf.form;replace HA:=hid (HA.o.later hb);have b0:=HA.o.fb.c0;have b1:=HA.o.fb.c1;have b2:=HA.o.fb.f0;have b3:=HA.o.fb.f1;have e0:=HA.o.e0;have ef:=HA.o.ef;have HP:=hid ((HA.o.put hf).setE 0);have e1:=HP.o.e0;clear hf hb HA;go_wp2_with fail;clear b0 b1 b2 b3 e0 ef e1;generalize ((w1.setCell ⟨w.heap.size,0,none⟩ (.slice fa N fc)).setCell ⟨w.heap.size,1,none⟩ (.map fm)).setCell ⟨w.heap.size+1,0,none⟩ (.int .i64 0)=W1 at *;refine(vX _).mono ?_;rintro e w2 ⟨rfl,rfl⟩;go_wp2_with fail;refine(aEo l a c _ (HR.o.keep HP.o.g)).mono ?_;rintro e w3 ⟨X,rfl,hX,hx,hb⟩;have hXw:=hx.odd.lt;have hk:=(Below.refl w3.heap.size w3).bMq (.cells #[.pointer (some ⟨X,0,none⟩)] 97);have hWs:=HP.o.eo.lt;have hX1:w.heap.size+1<X:=by omega
 have hY1:w.heap.size+1<w3.heap.size:=by have:=hb.size;omega
 have HF:=hid ((HP.o.later hb).later hk);have HX:=hid (RB1.mk (B:=w3.heap.size) (by simp) (hx.later hk) (by omega));have hrb:=HX.o.c;clear hX hx hb hk hXw hWs HP HR;go_wp2_with fail;generalize w3.alloc (.cells #[.pointer (some ⟨X,0,none⟩)] 97)=W4 at *;generalize w3.heap.size=Y at*
 cases hn:fP l with
 | none=>
  have U:=hid hn;obtain rfl:o=none:=by have:=HO.o;rw[hn]at this;exact this.symm
  clear hn;refine(rH HX.o.r U.o).mono ?_;rintro e w5 ⟨rfl,hg⟩;replace HF:=hid (HF.o.went HX.o.r.odd hX1 hg);clear hg hrb;go_wp2_with fail;refine leaves_cons (f:=64) (args:= #[.pointer (some ⟨w.heap.size+1,0,none⟩)]) (by simp) (by simp[go_sem]) ?_;refine(bLn ⟨w.heap.size+1,0,none⟩ _ 5 _ HF.o.e0 HF.o.ef).mono ?_;rintro e u' w'' ⟨rfl,rfl,rfl⟩;have j:=(HF.o.setE 5).drew;have j0:=j.e0;have j1:=j.fb.c0;have j2:=j.fb.c1;refine⟨.tuple #[.agg #[(.slice fa N fc),(.map fm)],.int .i64 5],(by rw[results_cells rfl];go_simp;done),?_⟩;exact j.done (fun e=>by cases e) (fun _=>rfl)
 | some p =>
  obtain⟨k,l1⟩:=p;have hs:=jJ hn;have U:=hid hn;have HE:Hid (endL (aOd k ⟨N,[]⟩ l1)=o):=hid (by have:=HO.o;rw[hn]at this;exact this);have hk:k<=65536:=hs.2;have HL:Hid (l1.length<=13000):=hid (by omega);clear hn HO hs;refine(iT HX.o.r U.o).mono ?_;rintro e w5 ⟨rfl,hr5,hg⟩;replace HF:=hid (HF.o.went HX.o.r.odd hX1 hg);replace HX:=hid (HX.o.went hr5 hg);clear hr5 hg hrb U;go_wp2_with fail;go_loopw [22] (fun i wr=>∃ j:Nat,j<=k/\i= .int .i64 j/\LdI w X Y N o k j wr) (fun i _=>k-(intOf i).toNat)
  case atStart=>exact⟨0,Nat.zero_le _,rfl,⟨N,[]⟩,fa,fc,fm,l1,HF.o,HX.o,⟨hN,List.Pairwise.nil,by simp,fun v hv=>by simp at hv⟩,rfl,⟨HL.o,fun v hv=>by simp at hv⟩,HE.o⟩
  case round =>
   clear HF HX HE HL;obtain⟨j,hj,rfl,G,ga,gc,gm,r,hf,hx,hGo,hGN,hfit,hE⟩:=hrel;have HF:=hid hf;have HX:=hid hx;have HGO:=hid hGo;have HGN:=hid hGN;have HFI:=hid hfit;clear hf hx hGo hGN hfit;by_cases hlt:j<k
   ·obtain ⟨b, hb⟩:∃ b,k-j-1=b:=⟨_,rfl⟩;rw[show k-j=(k-j-1)+1 by omega,vols_step,hb]at hE
    cases hnm:eT r with
    | none=>
     rw [hnm]at hE;obtain rfl:o=none:=hE.symm;have U:=hid hnm;clear hnm hE;go_upto_region 7 with fail;refine Code.wp_mono (Q:=LPan w none [{target:= .fn (.func 64) #[.pointer (some ⟨w.heap.size+1,0,none⟩)],args:= #[]}]) (fun e act W h=>by
      cases e with
      |panic ch=>exact lpan_out h
      |_=>exact h.elim) ?_
     have HFd:=hid HF.o.drew;have HXd:=hid HX.o.drew;refine wp_region_held_drew (S:=(fun w'=>w'.cell? ⟨Y,0,none⟩=some (.pointer (some ⟨X,0,none⟩)))) (by kernel_rfl) HXd.o.c (fun hHeld=> ?_);refine wpAnyH_take (i:=0) (v:= ?_) rfl (by kernel_rfl) (by kernel_rfl) (by kernel_rfl) (fun _ _ _ h=>⟨h.1,h.2.1,h.2.2.1,h.2.2.2.1,(getD_putn _ _ _ _ (by decide)).symm.trans h.2.2.2.2.1,(getD_putn _ _ _ _ (by decide)).symm.trans h.2.2.2.2.2⟩) (Or.inl ⟨by rfl,?_⟩) (by assumption) ?_
     rotate_left
     ·(intro w hSw;(try dsimp only at hSw);go_simp;try with_reducible rfl)
     try simp only[Act.put,List.setIfInBounds_toArray,List.set_cons_zero,List.set_cons_succ]
     refine wpAnyH_take (i:=2) (v:= ?_) rfl (by kernel_rfl) (by kernel_rfl) (by kernel_rfl) (fun _ _ _ h=>⟨h.1,h.2.1,h.2.2.1,h.2.2.2.1,(getD_putn _ _ _ _ (by decide)).symm.trans h.2.2.2.2.1,(getD_putn _ _ _ _ (by decide)).symm.trans h.2.2.2.2.2⟩) (Or.inl ⟨by rfl,?_⟩) (by assumption) ?_
     rotate_left
     ·(intro w hSw;(try dsimp only at hSw);go_simp;try with_reducible rfl)
     try simp only[Act.put,List.setIfInBounds_toArray,List.set_cons_zero,List.set_cons_succ]
     refine wpAnyH_ready (rs:=[1]) (by kernel_rfl) (by simp) ?_;refine AllReadyH.cons rfl (fun K hK=> ?_) AllReadyH.nil;go_simp;refine(sN HXd.o.r U.o).mono ?_;rintro e w6 ⟨rfl,hg⟩;exact⟨rfl,rfl,⟨_,_,_,_,HFd.o.went HXd.o.r.odd hX1 hg⟩,rfl,rfl,rfl⟩
    | some p =>
     obtain⟨nm,l2⟩:=p;rw[hnm]at hE;simp only at hE;have hs1:=iJ hnm;have hfl:=HFI.o.1;have hnl:nm.length<=maxLen:=by simp only[maxLen];omega
     have U:=hid hnm;have HNM:=hid hnl;clear hnm hnl hfl
     cases hn2:fP l2 with
     | none=>
      rw [hn2]at hE;obtain rfl:o=none:=hE.symm;have U2:=hid hn2;clear hn2 hE;go_upto_region 7 with fail;refine Code.wp_mono (Q:=LPan w none [{target:= .fn (.func 64) #[.pointer (some ⟨w.heap.size+1,0,none⟩)],args:= #[]}]) (fun e act W h=>by
       cases e with
       |panic ch=>exact lpan_out h
       |_=>exact h.elim) ?_
      have HFd:=hid HF.o.drew;have HXd:=hid HX.o.drew;refine wp_region_held_drew (S:=(fun w'=>w'.cell? ⟨Y,0,none⟩=some (.pointer (some ⟨X,0,none⟩)))) (by kernel_rfl) HXd.o.c (fun hHeld=> ?_);refine wpAnyH_take (i:=0) (v:= ?_) rfl (by kernel_rfl) (by kernel_rfl) (by kernel_rfl) (fun _ _ _ h=>⟨h.1,h.2.1,h.2.2.1,h.2.2.2.1,(getD_putn _ _ _ _ (by decide)).symm.trans h.2.2.2.2.1,(getD_putn _ _ _ _ (by decide)).symm.trans h.2.2.2.2.2⟩) (Or.inl ⟨by rfl,?_⟩) (by assumption) ?_
      rotate_left
      ·(intro w hSw;(try dsimp only at hSw);go_simp;try with_reducible rfl)
      try simp only[Act.put,List.setIfInBounds_toArray,List.set_cons_zero,List.set_cons_succ]
      refine wpAnyH_take (i:=2) (v:= ?_) rfl (by kernel_rfl) (by kernel_rfl) (by kernel_rfl) (fun _ _ _ h=>⟨h.1,h.2.1,h.2.2.1,h.2.2.2.1,(getD_putn _ _ _ _ (by decide)).symm.trans h.2.2.2.2.1,(getD_putn _ _ _ _ (by decide)).symm.trans h.2.2.2.2.2⟩) (Or.inl ⟨by rfl,?_⟩) (by assumption) ?_
      rotate_left
      ·(intro w hSw;(try dsimp only at hSw);go_simp;try with_reducible rfl)
      try simp only[Act.put,List.setIfInBounds_toArray,List.set_cons_zero,List.set_cons_succ]
      refine wpAnyH_ready (rs:=[1]) (by kernel_rfl) (by simp) ?_;refine AllReadyH.cons rfl (fun K hK=> ?_) AllReadyH.nil;go_simp;refine(gW HXd.o.r U.o).mono ?_;rintro e w6 ⟨rfl,hr1,hg⟩;have HF6:=hid (HFd.o.went HXd.o.r.odd hX1 hg);have HX6:=hid (HXd.o.went hr1 hg);clear hr1 hg;refine hK.out _ _ HX6.o.c (fun hHeld=> ?_);clear hK K
      try simp only[Act.put,List.setIfInBounds_toArray,List.set_cons_zero,List.set_cons_succ]
      refine wpAnyH_ready (rs:=[3]) (by kernel_rfl) (by simp) ?_;refine AllReadyH.cons rfl (fun K hK=> ?_) AllReadyH.nil;go_simp;refine(rH HX6.o.r U2.o).mono ?_;rintro e w7 ⟨rfl,hg⟩;exact⟨rfl,rfl,⟨_,_,_,_,HF6.o.went HX6.o.r.odd hX1 hg⟩,rfl,rfl,rfl⟩
     | some p =>
      obtain⟨n,l3⟩:=p;rw[hn2]at hE;simp only at hE;have hs2:=jJ hn2;have U2:=hid hn2;clear hn2;go_upto_region 7 with fail;have HFd:=hid HF.o.drew;have HXd:=hid HX.o.drew;have hrb:=HX.o.c;have hS0:=HXd.o.c
      go_region_held3 (fun w'=>w'.cell? ⟨Y,0,none⟩=some (.pointer (some ⟨X,0,none⟩)))
       (first
        |with_reducible exact hrb
        |with_reducible exact hS0
        |with_reducible exact hS1
        |with_reducible exact hS2)
       (first
        |(go_at_call 66;(with_reducible refine(gW HXd.o.r U.o).mono ?_);rintro e w6 ⟨rfl,hr1,hg1⟩;have HF6:=hid (HFd.o.went HXd.o.r.odd hX1 hg1);have HX6:=hid (HXd.o.went hr1 hg1);have hS1:=HX6.o.c;clear hr1 hg1)
        |(go_at_call 65;(with_reducible refine(iT HX6.o.r U2.o).mono ?_);rintro e w7 ⟨rfl,hr2,hg2⟩;have HF7:=hid (HF6.o.went HX6.o.r.odd hX1 hg2);have HX7:=hid (HX6.o.went hr2 hg2);have hS2:=HX7.o.c;clear hr2 hg2))
      clear hS0 hS1 hS2 hrb HFd HXd HF6 HX6 HF HX U U2;go_wp2_with fail
      cases hn3:fP l3 with
      | none=>
       rw [hn3]at hE;obtain rfl:o=none:=hE.symm;have U:=hid hn3;clear hn3 hE;refine Code.wp_mono (Q:=LPan w none [{target:= .fn (.func 64) #[.pointer (some ⟨w.heap.size+1,0,none⟩)],args:= #[]}]) (fun e act W h=>by
        cases e with
        |panic ch=>exact lpan_out h
        |_=>exact h.elim) ?_
       have HFd:=hid HF7.o.drew;have HXd:=hid HX7.o.drew;refine wp_region_held_drew (S:=(fun w'=>w'.cell? ⟨w.heap.size,0,none⟩=some (.slice ga G.N gc)/\w'.cell? ⟨w.heap.size,1,none⟩=some (.map gm)/\w'.cell? ⟨Y,0,none⟩=some (.pointer (some ⟨X,0,none⟩)))) (by kernel_rfl) ⟨HFd.o.fb.c0,HFd.o.fb.c1,HXd.o.c⟩ (fun hHeld=> ?_);refine wpAnyH_take (i:=0) (v:= ?_) rfl (by kernel_rfl) (by kernel_rfl) (by kernel_rfl) (fun _ _ _ h=>⟨h.1,h.2.1,h.2.2.1,h.2.2.2.1,(getD_putn _ _ _ _ (by decide)).symm.trans h.2.2.2.2.1,(getD_putn _ _ _ _ (by decide)).symm.trans h.2.2.2.2.2⟩) (Or.inl ⟨by rfl,?_⟩) (by assumption) ?_
       rotate_left
       ·(intro w hSw;(try dsimp only at hSw);go_simp;try with_reducible rfl)
       try simp only[Act.put,List.setIfInBounds_toArray,List.set_cons_zero,List.set_cons_succ]
       refine wpAnyH_take (i:=1) (v:= ?_) rfl (by kernel_rfl) (by kernel_rfl) (by kernel_rfl) (fun _ _ _ h=>⟨h.1,h.2.1,h.2.2.1,h.2.2.2.1,(getD_putn _ _ _ _ (by decide)).symm.trans h.2.2.2.2.1,(getD_putn _ _ _ _ (by decide)).symm.trans h.2.2.2.2.2⟩) (Or.inl ⟨by rfl,?_⟩) (by assumption) ?_
       rotate_left
       ·(intro w hSw;(try dsimp only at hSw);go_simp;try with_reducible rfl)
       try simp only[Act.put,List.setIfInBounds_toArray,List.set_cons_zero,List.set_cons_succ]
       refine wpAnyH_take (i:=2) (v:= ?_) rfl (by kernel_rfl) (by kernel_rfl) (by kernel_rfl) (fun _ _ _ h=>⟨h.1,h.2.1,h.2.2.1,h.2.2.2.1,(getD_putn _ _ _ _ (by decide)).symm.trans h.2.2.2.2.1,(getD_putn _ _ _ _ (by decide)).symm.trans h.2.2.2.2.2⟩) (Or.inl ⟨by rfl,?_⟩) (by assumption) ?_
       rotate_left
       ·(intro w hSw;(try dsimp only at hSw);go_simp;try with_reducible rfl)
       try simp only[Act.put,List.setIfInBounds_toArray,List.set_cons_zero,List.set_cons_succ]
       refine wpAnyH_take (i:=3) (v:= ?_) rfl (by kernel_rfl) (by kernel_rfl) (by kernel_rfl) (fun _ _ _ h=>⟨h.1,h.2.1,h.2.2.1,h.2.2.2.1,(getD_putn _ _ _ _ (by decide)).symm.trans h.2.2.2.2.1,(getD_putn _ _ _ _ (by decide)).symm.trans h.2.2.2.2.2⟩) (Or.inl ⟨by rfl,?_⟩) (by assumption) ?_
       rotate_left
       ·(intro w hSw;(try dsimp only at hSw);go_simp;try with_reducible rfl)
       try simp only[Act.put,List.setIfInBounds_toArray,List.set_cons_zero,List.set_cons_succ]
       refine wpAnyH_ready (rs:=[4]) (by kernel_rfl) (by simp) ?_;refine AllReadyH.cons rfl (fun K hK=> ?_) AllReadyH.nil;go_simp;refine(rH HXd.o.r U.o).mono ?_;rintro e w8 ⟨rfl,hg⟩;exact⟨rfl,rfl,⟨_,_,_,_,HFd.o.went HXd.o.r.odd hX1 hg⟩,rfl,rfl,rfl⟩
      | some p =>
       obtain⟨rs,l4⟩:=p;rw[hn3]at hE;simp only at hE;have hs3:=jJ hn3;have U:=hid hn3;obtain⟨G1,x,hd⟩:∃ G1 x,aU G nm n rs=(G1,x):=⟨_,_,rfl⟩;have hok:=aKe HGO.o nm n rs;have hfc:=(HFI.o.less (q:=l4) (by omega)).create nm n rs;have hN1:(aU G nm n rs).2=0->(aU G nm n rs).1.N=G.N:=create_N;rw[hd]at hE hok hfc hN1;simp only at hE hok hfc hN1;have HE:=hid hE;have HDE:=hid hd;have HOK:=hid hok;have HFC:=hid hfc;have HN1:=hid hN1;clear hn3 hE hd hok hfc hN1 hs1 hs2 hs3;have b0:=HF7.o.fb.c0;have b1:=HF7.o.fb.c1;have b2:=HF7.o.fb.f0;have b3:=HF7.o.fb.f1;have e0:=HF7.o.e0;have ef:=HF7.o.ef;have hrb:=HX7.o.c
       go_cut [] from 28 to 36 (fun wx=>LdC w X Y G1 x l4 wx)
       case first=>
        have HFd:=hid HF7.o.drew;have HXd:=hid HX7.o.drew;refine wp_region_noPanic ?_
        go_region_with (first
         |(go_at_call 65;(with_reducible refine(iT HXd.o.r U.o).mono ?_);rintro e w8 ⟨rfl,hr3,hg3⟩;have HF8:=hid (HFd.o.went HXd.o.r.odd hX1 hg3);have HX8:=hid (HXd.o.went hr3 hg3);have b10:=HF8.o.fb.c0;have b11:=HF8.o.fb.c1;clear hr3 hg3)
         |(go_at_call 28;(with_reducible refine(aSa G G1 x _ nm n rs _ HGO.o HF8.o.fam HNM.o HDE.o).mono ?_);rintro e w9 ⟨gv,rfl,hg,hb4⟩;obtain⟨ga1,gc1,gm1,rfl⟩:=hg.form;have HF9:=hid (HF8.o.later hb4);have HX9:=hid (HX8.o.later hb4);have HG:=hid hg;have b20:=HF9.o.fb.c0;have b21:=HF9.o.fb.c1;have b22:=HF9.o.fb.f0;have b23:=HF9.o.fb.f1;have e20:=HF9.o.e0;have e21:=HF9.o.ef;clear hg hb4))
        all_goals
         refine NoPanic.normal ?_;have HZ:Hid (LdC w X Y G1 x l4 ((dN w9 w.heap.size (.slice ga1 G1.N gc1) (.map gm1)).setCell ⟨w.heap.size+1,0,none⟩ (.int .i64 x))):=hid ⟨ga1,gc1,gm1,(HF9.o.put HG.o).setE x,HF9.o.rb HX9.o hX1 hY1 _ _ _ HG.o⟩;go_wp2_with fail;go_meet;exact HZ.o
       case rest =>
        obtain⟨ga1,gc1,gm1,hf1,hx1⟩:=hcut;have HF:=hid hf1;have HX:=hid hx1;clear hf1 hx1 b0 b1 b2 b3 e0 ef hrb HF7 HX7 HFI;have e0:=HF.o.e0;by_cases h0:x=0
        ·subst h0;have hE:=HE.o;rw[if_pos rfl]at hE;have HGN1:Hid (G1.N=N):=hid ((HN1.o rfl).trans HGN.o);have HFI:=HFC;go_wp2_with fail;refine(vX _).mono ?_;rintro e w10 ⟨rfl,rfl⟩;have hrb:=HX.o.c;go_wp2_with fail;clear e0 hrb
         cases hn4:fP l4 with
         | none=>
          rw[hn4]at hE;obtain rfl:o=none:=hE.symm;have U:=hid hn4;clear hn4 hE;refine(rH HX.o.r U.o).mono ?_;rintro e w11 ⟨rfl,hg⟩;replace HF:=hid (HF.o.went HX.o.r.odd hX1 hg);clear hg;go_wp2_with fail;refine leaves_cons (f:=64) (args:= #[.pointer (some ⟨w.heap.size+1,0,none⟩)]) (by simp) (by simp[go_sem]) ?_;refine(bLn ⟨w.heap.size+1,0,none⟩ _ 5 _ HF.o.e0 HF.o.ef).mono ?_;rintro e u' w'' ⟨rfl,rfl,rfl⟩;have j:=(HF.o.setE 5).drew;have j0:=j.e0;have j1:=j.fb.c0;have j2:=j.fb.c1;refine⟨.tuple #[.agg #[(.slice ga1 G1.N gc1),(.map gm1)],.int .i64 5],(by rw[results_cells rfl];go_simp;done),?_⟩;exact j.done (fun e=>by cases e) (fun _=>rfl)
         | some p=>
          obtain⟨k2,l5⟩:=p;rw[hn4]at hE;simp only at hE;have hs4:=jJ hn4;have hk2:k2<=65536:=hs4.2;have U:=hid hn4;have HE:=hid hE;have HFI:=hid (HFI.o.less (q:=l5) (by omega));clear hn4 hE hs4;refine(iT HX.o.r U.o).mono ?_;rintro e w11 ⟨rfl,hr5,hg⟩;replace HF:=hid (HF.o.went HX.o.r.odd hX1 hg);replace HX:=hid (HX.o.went hr5 hg);clear hr5 hg U;go_wp2_with fail;go_loopw [41] (fun i wr=>∃ q:Nat,q<=k2/\i= .int .i64 q/\LdJ w X Y N o nm b k2 q wr) (fun i _=>k2-(intOf i).toNat)
          case atStart=>exact⟨0,Nat.zero_le _,rfl,G1,ga1,gc1,gm1,l5,HF.o,HX.o,HOK.o,HGN1.o,HFI.o,HE.o⟩
          case round=>
           clear HF HX HE HFI HOK HFC HN1 HGN1 HDE HGO HGN;obtain⟨q,hq,rfl,G,ga,gc,gm,r,hf,hx,hGo,hGN,hfit,hE⟩:=hrel;have HF:=hid hf;have HX:=hid hx;have HGO:=hid hGo;have HGN:=hid hGN;have HFI:=hid hfit;clear hf hx hGo hGN hfit;by_cases hlq:q<k2
           ·cases hx:uW r with
            | none=>
             rw [show k2-q=(k2-q-1)+1 by omega,aLv hx]at hE;obtain rfl:o=none:=hE.symm;have U:=hid hx;clear hx hE;go_upto_region 12 with fail;refine Code.wp_mono (Q:=LPan w none [{target:= .fn (.func 64) #[.pointer (some ⟨w.heap.size+1,0,none⟩)],args:= #[]}]) (fun e act W h=>by
              cases e with
              |panic ch=>exact lpan_out h
              |_=>exact h.elim) ?_
             have HFd:=hid HF.o.drew;have HXd:=hid HX.o.drew;refine wp_region_held_drew (S:=(fun w'=>w'.cell? ⟨w.heap.size,0,none⟩=some (.slice ga G.N gc)/\w'.cell? ⟨w.heap.size,1,none⟩=some (.map gm)/\w'.cell? ⟨Y,0,none⟩=some (.pointer (some ⟨X,0,none⟩)))) (by kernel_rfl) ⟨HFd.o.fb.c0,HFd.o.fb.c1,HXd.o.c⟩ (fun hHeld=> ?_);refine wpAnyH_take (i:=0) (v:= ?_) rfl (by kernel_rfl) (by kernel_rfl) (by kernel_rfl) (fun _ _ _ h=>⟨h.1,h.2.1,h.2.2.1,h.2.2.2.1,(getD_putn _ _ _ _ (by decide)).symm.trans h.2.2.2.2.1,(getD_putn _ _ _ _ (by decide)).symm.trans h.2.2.2.2.2⟩) (Or.inl ⟨by rfl,?_⟩) (by assumption) ?_
             rotate_left
             ·(intro w hSw;(try dsimp only at hSw);go_simp;try with_reducible rfl)
             try simp only[Act.put,List.setIfInBounds_toArray,List.set_cons_zero,List.set_cons_succ]
             refine wpAnyH_take (i:=1) (v:= ?_) rfl (by kernel_rfl) (by kernel_rfl) (by kernel_rfl) (fun _ _ _ h=>⟨h.1,h.2.1,h.2.2.1,h.2.2.2.1,(getD_putn _ _ _ _ (by decide)).symm.trans h.2.2.2.2.1,(getD_putn _ _ _ _ (by decide)).symm.trans h.2.2.2.2.2⟩) (Or.inl ⟨by rfl,?_⟩) (by assumption) ?_
             rotate_left
             ·(intro w hSw;(try dsimp only at hSw);go_simp;try with_reducible rfl)
             try simp only[Act.put,List.setIfInBounds_toArray,List.set_cons_zero,List.set_cons_succ]
             refine wpAnyH_take (i:=2) (v:= ?_) rfl (by kernel_rfl) (by kernel_rfl) (by kernel_rfl) (fun _ _ _ h=>⟨h.1,h.2.1,h.2.2.1,h.2.2.2.1,(getD_putn _ _ _ _ (by decide)).symm.trans h.2.2.2.2.1,(getD_putn _ _ _ _ (by decide)).symm.trans h.2.2.2.2.2⟩) (Or.inl ⟨by rfl,?_⟩) (by assumption) ?_
             rotate_left
             ·(intro w hSw;(try dsimp only at hSw);go_simp;try with_reducible rfl)
             try simp only[Act.put,List.setIfInBounds_toArray,List.set_cons_zero,List.set_cons_succ]
             refine wpAnyH_ready (rs:=[3]) (by kernel_rfl) (by simp) ?_;refine AllReadyH.cons rfl (fun K hK=> ?_) AllReadyH.nil;go_simp;refine(bId HXd.o.r U.o).mono ?_;rintro e w12 ⟨rfl,hg⟩;exact⟨rfl,rfl,⟨_,_,_,_,HFd.o.went HXd.o.r.odd hX1 hg⟩,rfl,rfl,rfl⟩
            | some p=>
             obtain⟨x,r2⟩:=p;obtain⟨G2,L2,x0,hd⟩:∃ G2 L2 x0,aQ G nm x=(G2,L2,x0):=⟨_,_,_,rfl⟩;rw[show k2-q=(k2-q-1)+1 by omega,aLu hx,hd]at hE;simp only at hE;have hxs:=(zF hx).1;have hok:=nH HGO.o nm x;have hfa:=fun h0=>HFI.o.assign HGO.o (q:=r2) (nm:=nm) (x:=x) hxs h0;have hN1:(aQ G nm x).2.2=0->(aQ G nm x).1.N=G.N:=assign_N;rw[hd]at hok hfa hN1;simp only at hok hfa hN1;have HS9:=hid HFI.o.short;have HE:=hid hE;have HDE:=hid hd;have HOK:=hid hok;have HFA:=hid hfa;have HN1:=hid hN1;have U:=hid hx;have HWF:=hid (bLl hx);clear hx hE hd hok hfa hN1 hxs;go_upto_region 12 with fail;have b0:=HF.o.fb.c0;have b1:=HF.o.fb.c1;have b2:=HF.o.fb.f0;have b3:=HF.o.fb.f1;have e0:=HF.o.e0;have ef:=HF.o.ef;have hrb:=HX.o.c
             go_cut [] from 43 to 51 (fun wx=>LdC w X Y G2 x0 r2 wx)
             case first=>
              have HFd:=hid HF.o.drew;have HXd:=hid HX.o.drew;refine wp_region_noPanic ?_
              go_region_with (first
               |(go_at_call 68;(with_reducible refine(bDr HXd.o.r U.o).mono ?_);rintro e w8 ⟨rfl,hr3,hg3⟩;have HF8:=hid (HFd.o.went HXd.o.r.odd hX1 hg3);have HX8:=hid (HXd.o.went hr3 hg3);have b10:=HF8.o.fb.c0;have b11:=HF8.o.fb.c1;clear hr3 hg3)
               |(go_at_call 67;(with_reducible refine(bHd G G2 L2 x0 _ nm x _ HGO.o HS9.o HF8.o.fam HNM.o HWF.o HDE.o).mono ?_);rintro e w9 ⟨gv,sv,rfl,hg,ho,hb4⟩;obtain⟨ga2,gc2,gm2,rfl⟩:=hg.form;have HF9:=hid (HF8.o.later hb4);have HX9:=hid (HX8.o.later hb4);have HG:=hid hg;have b20:=HF9.o.fb.c0;have b21:=HF9.o.fb.c1;have b22:=HF9.o.fb.f0;have b23:=HF9.o.fb.f1;have e20:=HF9.o.e0;have e21:=HF9.o.ef;clear hg ho hb4))
              all_goals
               refine NoPanic.normal ?_;have HZ:Hid (LdC w X Y G2 x0 r2 ((dN w9 w.heap.size (.slice ga2 G2.N gc2) (.map gm2)).setCell ⟨w.heap.size+1,0,none⟩ (.int .i64 x0))):=hid ⟨ga2,gc2,gm2,(HF9.o.put HG.o).setE x0,HF9.o.rb HX9.o hX1 hY1 _ _ _ HG.o⟩;go_wp2_with fail;go_meet;exact HZ.o
             case rest=>
              obtain⟨ga2,gc2,gm2,hf1,hx1⟩:=hcut;replace HF:=hid hf1;replace HX:=hid hx1;clear hf1 hx1 b0 b1 b2 b3 e0 ef hrb;have e0:=HF.o.e0;by_cases h0:x0=0
              ·subst h0;have hE:=HE.o;rw[if_pos rfl]at hE;have HE2:Hid (endA b (wT (k2-(q+1)) G2 nm r2)=o):=hid (by rw[show k2-(q+1)=k2-q-1 by omega];exact hE);clear hE;go_wp2_with fail;refine(vX _).mono ?_;rintro e w10 ⟨rfl,rfl⟩;clear e0;go_wp2_with fail;go_roundw
               case rel=>exact⟨q+1,by omega,by go_num,G2,ga2,gc2,gm2,r2,HF.o,HX.o,HOK.o,(HN1.o (by first|trivial|rfl)).trans HGN.o,HFA.o (by first|trivial|rfl),HE2.o⟩
               case measure=>simp[intOf];omega
              ·have hE:=HE.o;rw[if_neg h0]at hE;have hE2:o=none:=by
                unfold endA at hE;simp only at hE;rw[if_neg h0]at hE;exact hE.symm
               subst hE2;have hx0:(x0==0)=false:=by simpa using h0
               have H0:=hid h0;clear h0 hE;go_wp2_with fail;refine(aMw x0 hx0 _).mono ?_;rintro e w10 ⟨rfl,rfl⟩;clear e0;go_wp2_with fail;refine leaves_cons (f:=64) (args:= #[.pointer (some ⟨w.heap.size+1,0,none⟩)]) (by simp) (by simp[go_sem]) ?_;refine(bLn ⟨w.heap.size+1,0,none⟩ _ x0 _ HF.o.e0 HF.o.ef).mono ?_;rintro e u' w'' ⟨rfl,rfl,rfl⟩;have j:=(HF.o.setE x0).drew;have j0:=j.e0;have j1:=j.fb.c0;have j2:=j.fb.c1;refine⟨.tuple #[.agg #[(.slice ga2 G2.N gc2),(.map gm2)],.int .i64 x0],(by rw[results_cells rfl];go_simp;done),?_⟩;exact j.done (fun e=>absurd e H0.o) (fun _=>rfl)
           ·have hqk:q=k2:=by omega
            subst hqk;have HE2:Hid (endL (aOd (k-(j+1)) G r)=o):=hid (by
             rw[Nat.sub_self]at hE;rw[show k-(j+1)=b by omega]
             exact hE)
            clear hE;go_wp2_with fail;go_roundw
            case rel=>exact⟨j+1,by omega,by go_num,G,ga,gc,gm,r,HF.o,HX.o,HGO.o,HGN.o,HFI.o,HE2.o⟩
            case measure=>simp[intOf];omega
        ·have hE:=HE.o;rw[if_neg h0]at hE;obtain rfl:o=none:=hE.symm;have hx0:(x==0)=false:=by simpa using h0
         have H0:=hid h0;clear h0 hE;go_wp2_with fail;refine(aMw x hx0 _).mono ?_;rintro e w10 ⟨rfl,rfl⟩;clear e0;go_wp2_with fail;refine leaves_cons (f:=64) (args:= #[.pointer (some ⟨w.heap.size+1,0,none⟩)]) (by simp) (by simp[go_sem]) ?_;refine(bLn ⟨w.heap.size+1,0,none⟩ _ x _ HF.o.e0 HF.o.ef).mono ?_;rintro e u' w'' ⟨rfl,rfl,rfl⟩;have j:=(HF.o.setE x).drew;have j0:=j.e0;have j1:=j.fb.c0;have j2:=j.fb.c1;refine⟨.tuple #[.agg #[(.slice ga1 G1.N gc1),(.map gm1)],.int .i64 x],(by rw[results_cells rfl];go_simp;done),?_⟩;exact j.done (fun e=>absurd e H0.o) (fun _=>rfl)
   ·have hjk:j=k:=by omega
    subst hjk;rw[Nat.sub_self]at hE;have hE2:(if r=[]then some G else none)=o:=hE;obtain⟨d,hd⟩:∃ d:Int,d=if r=[]then 0 else 5:=⟨_,rfl⟩;have hdo:(d=0->o=some G)/\(d≠0->o=none):=by
     by_cases h9:r=[]
     ·rw[if_pos h9]at hd hE2;exact⟨fun _=>hE2.symm,fun h=>absurd hd h⟩
     ·rw[if_neg h9]at hd hE2;exact⟨fun h=>by omega,fun _=>hE2.symm⟩
    have HD:=hid (fun W (h:gG W X r)=>bDt h d hd);have HDO:=hid hdo;clear hE hE2 hd hdo;go_upto_region 16 with fail;have b0:=HF.o.fb.c0;have b1:=HF.o.fb.c1;have b2:=HF.o.fb.f0;have b3:=HF.o.fb.f1;have e0:=HF.o.e0;have ef:=HF.o.ef;have hrb:=HX.o.c;have HXd:=hid HX.o.drew;have HZ:=hid ((HF.o.drew.put HF.o.drew.fam).setE d);refine wp_region_noPanic ?_
    go_region_with ((go_at_call 38;(with_reducible refine(HD.o _ HXd.o.r).mono ?_);rintro e w8 ⟨rfl,rfl⟩))
    all_goals
     refine NoPanic.normal ?_;clear b0 b1 b2 b3 e0 ef hrb;go_wp2_with fail;refine leaves_cons (f:=64) (args:= #[.pointer (some ⟨w.heap.size+1,0,none⟩)]) (by simp) (by simp[go_sem]) ?_;refine(bKo ⟨w.heap.size+1,0,none⟩ d _ HZ.o.e0 HZ.o.ef).mono ?_;rintro e u' w'' ⟨rfl,rfl,rfl⟩;have j:=(HZ.o.setE d).drew;have j0:=j.e0;have j1:=j.fb.c0;have j2:=j.fb.c1;refine⟨.tuple #[.agg #[.slice ga G.N gc,.map gm],.int .i64 d],(by rw[results_cells rfl];go_simp;done),?_⟩;exact j.done (fun e=>⟨HDO.o.1 e,HGO.o,HGN.o,HFI.o.short⟩) HDO.o.2
open Go.RowKit Go.Maps
theorem sumAdd38 (C:List Int) (s:Nat) (d:Int) (k:Nat) (h:s+k<=C.length):(oW C s d k).sum=C.sum+d*k:=by
 induction k with
 |zero=>simp[oW]
 | succ k ih=>
  have hl:s+k<(oW C s d k).length:=by rw[kH];omega
  have h1:∀ (L:List Int) (j:Nat) (v:Int),j<L.length->(L.set j v).sum=L.sum-L.getD j 0+v:=by
   intro L
   induction L with
   |nil=>intro j v hj;simp at hj
   | cons a r ih=>
    intro j v hj
    cases j with
    |zero=>simp;omega
    | succ j=>
     have:=ih j v (by simpa using hj);simp only[List.set_cons_succ,List.sum_cons,List.getD_cons_succ];omega
  simp only[oW];rw[h1 _ _ _ hl,ih (by omega)];rw[show((k+1:Nat):Int)=k+1 by omega,Int.mul_add];omega
theorem sumChg38 (l:List E) (d:Int):∀ (C:List Int),aS C.length l=true->(eZ C l d).sum=C.sum+d*aT l:=by
 induction l with
 |nil=>intro C _;simp[eZ,aT]
 | cons x r ih=>
  intro C hp;have hp':=(aO _ _).1 hp;obtain⟨h1,h2,h3⟩:=hp' x (by simp);have:=ih (oW C x.s.toNat d x.n.toNat) (by rw[kH];exact(aO _ _).2 fun y hy=>hp' y (by simp[hy]));simp only[eZ,List.foldl_cons]at this ⊢;rw[this,xP];rw[sumAdd38 _ _ _ _ (by omega),Int.mul_add,Int.toNat_of_nonneg (by omega)];omega
theorem list_few {N:Nat} {v:Vol} (hv:v.ok N) (ho:aVn v.l):v.l.length<=N:=by
 have hp:aS (List.replicate N (0:Int)).length v.l=true:=by rw[List.length_replicate];exact hv.perm
 have hs:=sumChg38 v.l 1 (List.replicate N 0) hp;have h0:=aYx (List.replicate N (0:Int)) 0 0 (fun x hx=>by rw[List.eq_of_mem_replicate hx];exact⟨Int.le_refl 0,Int.le_refl 0⟩);have hg:=mM v.l 1 (List.replicate N 0) hp;have hl:(eZ (List.replicate N 0) v.l 1).length=N:=by rw[eY,List.length_replicate]
 have hr:inR 0 1 (eZ (List.replicate N 0) v.l 1):=pY.2 fun i hi=>by
  rw[hl]at hi;have h1:=aXx hv.valid ho i;have h2:=(bZ v.l i).1;have h3:(List.replicate N (0:Int)).getD i 0=0:=by simp[List.getD,List.getElem?_replicate,hi]
  rw[hg i (by rw[List.length_replicate];exact hi),h3];omega
 have h1:=aYx _ 0 1 hr;rw[hl]at h1;have h2:(v.l.length:Int)<=aT v.l:=by
  have key:∀ (l:List E),(∀x∈l,1<=x.n)->(l.length:Int)<=aT l:=by
   intro l
   induction l with
   |nil=>intro _;simp[aT]
   | cons x r ih=>
    intro h;have:=ih fun y hy=>h y (by simp[hy]);have:=h x (by simp);rw[xP,List.length_cons];omega
  exact key v.l fun x hx=>((aO _ _).1 hv.perm x hx).1
 rw[List.length_replicate]at h0;omega
theorem encV_two {N:Nat} {v:Vol} (hv:v.ok N) (hn:v.n<=255) (hN:N<50) (hl:v.l.length<50):(wL v).length<=350:=by
 have h1:=(jU hv.name).2;have h2:=aRu 6 v.l fun x hx=>by
  obtain⟨c1,c2,c3,c4,c5⟩:=(aD x).1 (aK hv.valid x hx);have h1:=hv.ins x hx;have h2:=(aO _ _).1 hv.perm x hx;unfold aEh numsL;simp only[List.flatMap_cons,List.flatMap_nil,List.append_nil,List.length_append];have a:=bMl (x:=x.a) c2 (by omega);have b:=bMl (x:=x.n) (by omega) (by omega);have c:=bMl (x:=x.s) c3 (by omega);omega
 have r0:=hv.r0;have r1:=hv.r1;have n1:=hv.n1;have a:=bMl (x:=v.n) (by omega) (by omega);have b:=bMl (x:=v.r) (by omega) (by omega);have c:=bMl (x:=(v.l.length:Int)) (by omega) (by omega);unfold wL numsL;simp only[List.flatMap_cons,List.flatMap_nil,List.append_nil,List.length_append];rw[aHn _ (by omega)];omega
theorem state_fits {F:Fam} (hF:F.sound) (ho:F.once) (hN:F.N<50):1<=(jG F).length/\(jG F).length<=13000:=by
 have hfew:=hF.ok.few;have a:=bMl (x:=(F.vs.length:Int)) (by omega) (by omega);have a1:=(wM (F.vs.length:Int)).1;have key:∀ (vs:List Vol),(∀v∈vs,v∈F.vs)->(vs.flatMap wL).length<=350*vs.length:=by
  intro vs
  induction vs with
  |nil=>intro _;simp
  | cons v r ih=>
   intro h;have h1:=ih fun u hu=>h u (by simp[hu]);have hv:=h v (by simp);have h2:=list_few (hF.ok.vol v hv) (ho v hv);have h3:=encV_two (hF.ok.vol v hv) (hF.small v hv) hN (by omega);rw[List.flatMap_cons,List.length_append,List.length_cons];omega
 have:=key F.vs fun v hv=>hv;unfold jG;rw[List.length_append];omega
theorem chain_fun {F G:Fam} {Ns:List (List UInt8)} (h:yN F Ns G):
  ∃f:Nat->Fam,f 0=F/\f Ns.length=G/\ ∀i N,Ns[i]? =some N->(f i).sound/\(f i).once/\(f i).N=F.N/\fO (f i) N=(f (i+1),0):=by
 induction h with
 |nil=>exact⟨fun _=>_,rfl,rfl,fun i N hi=>by simp at hi⟩
 | @snoc G H Ns N hc hs ho hN0 _ _ ha ih=>
  obtain⟨f,h0,hn,hi⟩:=ih;refine⟨fun i=>if i<=Ns.length then f i else H,by simp[h0],by simp only[List.length_append,List.length_singleton];rw[if_neg (by omega)],fun i N' hN'=> ?_⟩;by_cases hlt:i<Ns.length
  ·rw[List.getElem?_append_left hlt]at hN';simp only;rw[if_pos (by omega),if_pos (by omega)];exact hi i N' hN'
  ·rw [List.getElem?_append_right (by omega)]at hN';have h9:i=Ns.length:=by
    have:=(List.getElem?_eq_some_iff.1 hN').1;simp at this;omega
   subst h9;simp at hN';subst hN';simp only;rw[if_pos (Nat.le_refl _),if_neg (by omega),hn];exact⟨hs,ho,hN0,ha⟩
theorem bequal_any (l m:List UInt8) (a b:Option Addr) (c d:Nat) (w:World) (h1:RdY w a l) (h2:RdY w b m):
  Calls Tryz.prog 24 #[.slice a l.length c,.slice b m.length d] w fun e w'=>e= .returned (.bool (l==m))/\w=w':=by
 have hc1:=h1.bMz (c:=c);have hc2:=h2.bMz (c:=d);clear h1 h2;go_enter Tryz.func24,Tryz.ntmps24;go_wp2;go_ret;exact⟨rfl,rfl⟩
def LoadQ (w:World) (N:Nat) (l:List UInt8) (e:Ending) (w':World):Prop:=
 (∃M G,e= .returned (.tuple #[.pointer (some ⟨M,0,none⟩),.int .i64 0])/\bKj N l=some G/\G.ok/\G.N=N/\(∀v∈G.vs,v.l.length<=9000)/\0<=cB G/\jG G=l/\dU w' M G/\w.heap.size<=M/\Below w.heap.size w w')
 ∨(e= .returned (.tuple #[.pointer none,.int .i64 5])/\Below w.heap.size w w'/\ ∀G,bKj N l=some G->0<=cB G->jG G≠l)
theorem mload_any (N:Nat) (l:List UInt8) (a:Option Addr) (c:Nat) (w:World) (hN:N<=65536) (hl:l.length<=13000) (hr:RdY w a l):
  Calls Tryz.prog 7 #[.slice a l.length c,.int .i64 N] w (LoadQ w N l):=by
 have HR:=hid hr;clear hr;go_enter Tryz.func7,Tryz.ntmps7;go_wp2_with fail;refine(bGd N _ hN).mono ?_;rintro e w1 ⟨fv,rfl,hf,hb⟩;obtain⟨fa,fc,fm,rfl⟩:=hf.form;have HB:=hid (hb.bMq (.cells #[.slice fa N fc,.map fm] 46));clear hf hb;go_wp2_with fail;generalize w1.alloc (.cells #[.slice fa N fc,.map fm] 46)=W1 at *;refine(load_is N l a c _ hN hl (HR.o.keep HB.o)).mono ?_;rintro e w2 ⟨u,v,G,x,rfl,hf,hb,h0,h1⟩;obtain⟨ga,gc,gm,he⟩:=hf.form;obtain⟨rfl,rfl⟩:u= .slice ga G.N gc/\v= .map gm:=by
  injection he with he;have h1:=congrArg Array.toList he;simp at h1;exact h1
 clear he;have hk:=(Below.refl w2.heap.size w2).bMq (.cells #[.slice ga G.N gc,.map gm] 46);have hk2:=(Below.refl _ (w2.alloc (.cells #[.slice ga G.N gc,.map gm] 46))).bMq (.cells #[.slice ga G.N gc,.map gm] 69);have hM:dU ((w2.alloc (.cells #[.slice ga G.N gc,.map gm] 46)).alloc (.cells #[.slice ga G.N gc,.map gm] 69)) (w2.heap.size+1) G:=⟨_,_,Bx.new _ _ (by simp) _ _ _,(hf.keep hk).keep hk2⟩;have HM:=hid hM;have HF:=hid ((hf.keep hk).keep hk2);have HX:=hid ((Bx.new w2 _ rfl (.slice ga G.N gc) (.map gm) 46).later hk2);have HBW:=hid (((HB.o.on hb).on hk).on hk2);have HLE:=hid (HB.o.on hb).size;have H0:=hid h0;have H1:=hid h1;have HRW:=hid ((HR.o.keep HB.o).keep ((hb.on hk).on hk2));clear hf hb h0 h1 hk hk2 hM;by_cases hx:x=0
 ·subst hx;obtain⟨hl1,hl2,hl3,hl4⟩:=H0.o rfl;have HL1:=hid hl1;have HL2:=hid hl2;have HL3:=hid hl3;have HL4:=hid hl4;clear hl1 hl2 hl3 hl4 H0 H1;obtain⟨rm,hrm⟩:∃ r,cB G=r:=⟨_,rfl⟩;have HRM:=hid hrm;have hrb:=zZ HL2.o;rw[hrm]at hrb;obtain⟨P,hP⟩:∃ P,jG G=P:=⟨_,rfl⟩;have HP:=hid hP;have HST:=hid (fun W (h:dU W (w2.heap.size+1) G)=>qF _ G W HL2.o HL4.o h);rw[hP]at HST;clear hrm hP;go_wp2_with fail;generalize (w2.alloc (.cells #[.slice ga G.N gc,.map gm] 46)).alloc (.cells #[.slice ga G.N gc,.map gm] 69)=W2 at *;have q0:=HX.o.c0;have q1:=HX.o.c1;by_cases hneg:rm<0
  ·go_wp2_with fail;refine(lX G rm _ _ HL2.o HL4.o HF.o HRM.o).mono ?_;rintro e w3 ⟨rfl,hb⟩;have HZ:=hid (HBW.o.on hb);clear hb q0 q1;go_wp2_with fail;go_ret2;exact .inr ⟨rfl,HZ.o,fun G' hG' hr'=>by
    rw[HL1.o]at hG';injection hG' with hG';subst hG';have:=HRM.o
    omega⟩
  ·have hneg2:0<=rm:=by omega
   by_cases hPl:P=l
   ·subst hPl;go_wp2_with fail;refine(lX G rm _ _ HL2.o HL4.o HF.o HRM.o).mono ?_;rintro e w3 ⟨rfl,hb⟩;replace HBW:=hid (HBW.o.on hb);replace HM:=hid (HM.o.later hb);replace HRW:=hid (HRW.o.keep hb);clear hb q0 q1;go_wp2_with fail;refine(HST.o _ HM.o).mono ?_;rintro e w4 ⟨sa,sc,rfl,hrd,hb⟩;replace HBW:=hid (HBW.o.on hb);replace HM:=hid (HM.o.later hb);replace HRW:=hid (HRW.o.keep hb);have HRD:=hid hrd;clear hb hrd;go_wp2_with fail;refine(bequal_any P P _ _ _ _ _ HRD.o HRW.o).mono ?_;rintro e w5 ⟨rfl,rfl⟩;rw[show(P==P)=true by simp];go_wp2_with fail;go_ret2;exact .inl ⟨_,G,rfl,HL1.o,HL2.o,HL3.o,HL4.o,by rw[HRM.o];exact hneg2,HP.o,HM.o,by have:=HLE.o;omega,HBW.o⟩
   ·have hpb:(P==l)=false:=by simpa using hPl
    have HPB:=hid hpb;have HPN:=hid hPl;clear hPl hpb;go_wp2_with fail;refine(lX G rm _ _ HL2.o HL4.o HF.o HRM.o).mono ?_;rintro e w3 ⟨rfl,hb⟩;replace HBW:=hid (HBW.o.on hb);replace HM:=hid (HM.o.later hb);replace HRW:=hid (HRW.o.keep hb);clear hb q0 q1;go_wp2_with fail;refine(HST.o _ HM.o).mono ?_;rintro e w4 ⟨sa,sc,rfl,hrd,hb⟩;replace HBW:=hid (HBW.o.on hb);replace HRW:=hid (HRW.o.keep hb);have HRD:=hid hrd;clear hb hrd;go_wp2_with fail;refine(bequal_any P l _ _ _ _ _ HRD.o HRW.o).mono ?_;rintro e w5 ⟨rfl,rfl⟩;rw[HPB.o];go_wp2_with fail;go_ret2;exact .inr ⟨rfl,HBW.o,fun G' hG' _=>by
     rw[HL1.o]at hG';injection hG' with hG';subst hG';rw[HP.o]
     exact HPN.o⟩
 ·have hx0:(x==0)=false:=by simpa using hx
  have hx1:(x != 0)=true:=by simp[bne,hx0]
  have HN:=hid (H1.o hx);clear hx H0 H1;go_wp2_with fail;go_ret2;exact .inr ⟨rfl,HBW.o,fun G' hG'=>by rw[HN.o]at hG';cases hG'⟩
theorem mload_state {F:Fam} (hF:F.sound) (ho:F.once) (hN:F.N<50) {l:List UInt8} (hl:jG F=l) (a:Option Addr) (c:Nat) (w:World) (hr:RdY w a l):
  Calls Tryz.prog 7 #[.slice a l.length c,.int .i64 F.N] w fun e w'=>∃ M,e= .returned (.tuple #[.pointer (some ⟨M,0,none⟩),.int .i64 0])/\dU w' M F/\w.heap.size<=M/\Below w.heap.size w w':=by
 subst hl;refine(mload_any F.N _ a c w (by omega) (state_fits hF ho hN).2 hr).mono ?_;rintro e w' (⟨M,G,rfl,h1,_,_,_,_,_,hm,hM,hb⟩|⟨_,_,h⟩)
 ·rw[bLh hF.ok]at h1;injection h1 with h1;subst h1;exact⟨M,rfl,hm,hM,hb⟩
 ·exact absurd rfl (h F (bLh hF.ok) hF.room)
end Go.Proofs.YtaiklhbakldfhaaGreat
