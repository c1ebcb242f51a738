/- Two families that are alike but for the numbers of their slots: counts, claims, room, errors. Conditions: as each theorem says. -/
import Derived.Test.YtphfgbbbejloaaaGreatDoorHMp
import Derived.Shelf.Strings.SlTrimAscii
set_option linter.unusedSimpArgs false
set_option linter.unusedVariables false
set_option linter.unusedSectionVars false
set_option maxRecDepth 100000
set_option maxHeartbeats 16000000
namespace Go.Proofs.YtphfgbbbejloaaaGreatDoor
open Go.RowKit Go.Maps
open Go.Proofs.Tryz
variable[Gst]
theorem Rs{P:Prop}(h:P:=by rw[HQ.o];simp;omega):P:=h
theorem aEc{P:Prop}(h:P:=by
  go_enter func61,ntmps61;go_wp2;go_ret;exact⟨aU Rs,rfl⟩
  ):P:=h
theorem aEb{P:Prop}(h:P:=by
  go_enter func72,ntmps72;go_wp2;go_ret;exact⟨aU Rs,rfl⟩
  ):P:=h
theorem aEa{P:Prop}(h:P:=by
  by_cases e:nm=c.vol
  ·rw[Qf e,Qf ⟨oM,e⟩]
  ·rw[Qe e,Qe λh=>e h.2]
  ):P:=h
theorem Ru{P:Prop}(h:P:=by
  have:=gM F.C v.l p (show j+1<=n by omega);rw[jA he0]at this;omega
  ):P:=h
theorem VU{P:Prop}(h:P:=by
  have hB:=HH.o.B.on hb;clear hb b0 b1;go_wp2_with fail;go_ret;exact⟨rfl,hB⟩
  ):P:=h
theorem Rt{P:Prop}(h:P:=by
  rw[aM f g n λi hi=>if e:i=p then by rw[e,h1,h2]else h i hi e]
  ):P:=h
theorem Lc(u:Nat)(l:List Nat)(hn:l.Nodup)(h:∀x∈l,x<u):l.length<=u:=by
 induction u generalizing l with
 | zero=>
  cases l with
  |nil=>simp
  |cons x r=>exact absurd (h x sM) oM
 | succ u ih=>
  by_cases hu:u∈l
  ·have h1:=ih (l.erase u) (hn.erase u) λx hx=>by
    have h2:=h x (List.mem_of_mem_erase hx);have h3:x≠u:=λe=>by
     subst e;exact hn.not_mem_erase hx
    omega
   rw[List.length_erase_of_mem hu]at h1;omega
  ·have:=ih l hn λx hx=>by
    have h2:=h x hx;have h3:x≠u:=λe=>hu (e ▸ hx);omega
   omega
structure lM(σ:Nat->Nat)(N:Nat):Prop where
 lt:∀i,i<N->σ i<N
 inj:∀i j,i<N->j<N->σ i=σ j->i=j
theorem lM.id(N:Nat):lM (λi=>i) N:=⟨λ_ h=>h,λ_ _ _ _ h=>h⟩
theorem lM.onto{σ:Nat->Nat}{N:Nat}(h:lM σ N){t:Nat}(ht:t<N):∃s,s<N/\σ s=t:=by
 by_cases hx:∃s,s<N/\σ s=t
 ·exact hx
 ·exfalso;have hne:∀s,s<N->σ s≠t:=λs hs e=>hx ⟨s,hs,e⟩;have h1:=Lc (N-1) ((List.range N).map λs=>if σ s<t then σ s else σ s-1) ?_ ?_
  ·rw[Yy,List.length_range]at h1;omega
  ·refine List.pairwise_map.2 (List.Pairwise.imp_of_mem (R:=λa b:Nat=>a≠b) ?_ List.nodup_range);intro a b ha hb hab e;have ha:=List.mem_range.1 ha;have hb:=List.mem_range.1 hb;have n1:=hne a ha;have n2:=hne b hb;refine hab (h.inj a b ha hb ?_)
   split at e <;> split at e <;> omega
  ·intro x hx;obtain⟨s,hs,rfl⟩:=Yd.1 hx;have hs:=List.mem_range.1 hs;have:=h.lt s hs;have:=hne s hs
   try simp only
   split <;> omega
theorem Rb{f g:Nat->Bool}{p n:Nat}(hp:p<n)(h:∀i,i<n->i≠p->f i=g i):aK f n+(if g p=true then 1 else 0)=aK g n+if f p=true then 1 else 0:=by
 cases h1:f p <;> cases h2:g p
 ·exact Rt
 ·have:=FJ f g p n hp h h1 h2;simp;omega
 ·have:=FJ g f p n hp (λi hi e=>(h i hi e).symm) h2 h1;simp;omega
 ·exact Rt
theorem lM.area(f:Nat->Bool):∀{N:Nat} {σ:Nat->Nat},lM σ N->aK (λi=>f (σ i)) N=aK f N
 |0,_,_=>rfl
 | N + 1,σ,h=>by
  obtain⟨i0,hi0,e0⟩:=h.onto (t:=N) oM;by_cases hl:i0=N
  ·subst hl;have h':lM σ i0:=⟨λi hi=>by
    have h1:=h.lt i oM;have h2:σ i≠i0:=λe=>by have:=h.inj i i0 oM oM (by rw[e,e0]);omega
    omega,λi j hi hj e=>h.inj i j oM oM e⟩
   have ih:=lM.area f h';show Go.Proofs.YtphfgbbbejloaaaGreatDoor.aK (λi=>f (σ i)) i0+_=Go.Proofs.YtphfgbbbejloaaaGreatDoor.aK f i0+_;rw[ih];simp only[e0]
  ·have h':lM (λi=>if i=i0 then σ N else σ i) N:=by
    refine⟨λi hi=> ?_,λi j hi hj e=> ?_⟩
    ·try simp only
     split
     ·have h1:=h.lt N oM;have h2:σ N≠N:=λe=>by have:=h.inj N i0 oM hi0 (by rw[e,e0]);omega
      omega
     ·rename_i hne
      have h1:=h.lt i oM;have h2:σ i≠N:=λe=>by have:=h.inj i i0 oM hi0 (by rw[e,e0]);omega
      omega
    ·try simp only at e
     split at e <;> split at e
     ·omega
     ·have:=h.inj N j oM oM e;omega
     ·have:=h.inj i N oM oM e;omega
     ·exact h.inj i j oM oM e
   have ih:=lM.area f h';have hpt:=Rb (f:=λi=>f (σ i)) (g:=λi=>f (if i=i0 then σ N else σ i)) (p:=i0) (n:=N) oM λi _ hne=>by simp[hne]
   simp only[if_true]at hpt;rw[ih,e0]at hpt;show Go.Proofs.YtphfgbbbejloaaaGreatDoor.aK (λi=>f (σ i)) N+_=Go.Proofs.YtphfgbbbejloaaaGreatDoor.aK f N+_;omega
theorem lM.tell{σ:Nat->Nat}{N:Nat}(h:lM σ N){s t:Nat}(hs:s<N)(ht:t<N):∃τ,lM τ N/\τ s=t/\ ∀i,i<N->i≠s->σ i≠t->τ i=σ i:=by
 refine⟨λi=>if i=s then t else if σ i=t then σ s else σ i,⟨λi hi=> ?_,λi j hi hj e=> ?_⟩,sM,λi _ h1 h2=>by simp[h1,h2]⟩
 ·try simp only
  split
  ·exact ht
  ·split
   ·exact h.lt s hs
   ·exact h.lt i hi
 ·try simp only at e
  by_cases hi1:i=s <;> by_cases hj1:j=s
  ·omega
  ·rw [Qf hi1,Qe hj1]at e
   split at e
   ·rename_i q
    have:=h.inj j s hj hs oM;omega
   ·omega
  ·rw [Qe hi1,Qf hj1]at e
   split at e
   ·rename_i q
    have:=h.inj i s hi hs oM;omega
   ·omega
  ·rw [Qe hi1,Qe hj1]at e
   split at e <;> split at e
   ·exact h.inj i j hi hj oM
   ·rename_i q1 q2
    have:=h.inj j s hj hs e.symm;omega
   ·rename_i q1 q2
    have:=h.inj i s hi hs e;omega
   ·exact h.inj i j hi hj e
def Eu(σ:Nat->Nat)(o:Option Int):Option Int:=o.map λs=>((σ s.toNat:Nat):Int)
structure iR(σ:Nat->Nat)(v w:Vol):Prop where
 nm:w.nm=v.nm
 n:w.n=v.n
 r:w.r=v.r
 at':∀b,aF w.l b=Eu σ (aF v.l b)
def kQ(σ:Nat->Nat):List Vol->List Vol->Prop
 | [],[]=>True
 |v::vs,w::ws=>iR σ v w/\kQ σ vs ws
 |_,_=>False
theorem kQ.length{σ:Nat->Nat}:∀{vs ws:List Vol},kQ σ vs ws->ws.length=vs.length
 | [],[],_=>rfl
 |v::vs,w::ws,h=>by rw[List.length_cons,List.length_cons,kQ.length h.2]
 | [],_::_,h=>h.elim
 |_::_,[],h=>h.elim
theorem kQ.get{σ:Nat->Nat}(nm:LU):∀{vs ws:List Vol},kQ σ vs ws->(aN vs nm=none/\aN ws nm=none)∨ ∃v w,aN vs nm=some v/\aN ws nm=some w/\iR σ v w
 | [],[],_=> .inl ⟨rfl,rfl⟩
 | v::vs,w::ws,h=>by
  unfold aN;rw[List.find?_cons,List.find?_cons,h.1.nm];cases hq:(v.nm==nm)
  ·exact kQ.get nm h.2
  ·exact .inr ⟨v,w,rfl,rfl,h.1⟩
 | [],_::_,h=>h.elim
 |_::_,[],h=>h.elim
theorem kQ.del{σ:Nat->Nat}(nm:LU):∀{vs ws:List Vol},kQ σ vs ws->kQ σ (bZ vs nm) (bZ ws nm)
 | [],[],_=>trivial
 | v::vs,w::ws,h=>by
  unfold bZ;rw[List.filter_cons,List.filter_cons,h.1.nm];cases hq:(v.nm==nm)
  ·exact⟨h.1,kQ.del nm h.2⟩
  ·exact kQ.del nm h.2
 | [],_::_,h=>h.elim
 |_::_,[],h=>h.elim
theorem kQ.ins{σ:Nat->Nat}{x y:Vol}(hx:iR σ x y):∀{vs ws:List Vol},kQ σ vs ws->kQ σ (qW x vs) (qW y ws)
 | [],[],_=>⟨hx,trivial⟩
 | v::vs,w::ws,h=>by
  unfold qW;rw[h.1.nm,hx.nm]
  split
  ·exact⟨hx,h⟩
  ·exact⟨h.1,kQ.ins hx h.2⟩
 | [],_::_,h=>h.elim
 |_::_,[],h=>h.elim
theorem kQ.put{σ:Nat->Nat}{x y:Vol}(hx:iR σ x y){vs ws:List Vol}(h:kQ σ vs ws):kQ σ (fV vs x) (fV ws y):=by
 unfold fV;rw[hx.nm];exact(h.del _).ins hx
theorem kQ.sum{σ:Nat->Nat}(f g:Vol->Int):∀{vs ws:List Vol},kQ σ vs ws->(∀v w,v∈vs->w∈ws->iR σ v w->g w=f v)->(ws.map g).sum=(vs.map f).sum
 | [],[],_,_=>rfl
 | v::vs,w::ws,h,hf=>by
  rw[List.map_cons,List.map_cons,List.sum_cons,List.sum_cons,hf v w sM sM h.1,kQ.sum f g h.2 λv w hv hw=>hf v w (by simp[hv]) (by simp[hw])]
 | [],_::_,h,_=>h.elim
 |_::_,[],h,_=>h.elim
theorem kQ.turn{σ τ:Nat->Nat}:∀{vs ws:List Vol},kQ σ vs ws->(∀v∈vs,∀b s,aF v.l b=some s->τ s.toNat=σ s.toNat)->kQ τ vs ws
 | [],[],_,_=>trivial
 | v::vs,w::ws,h,hf=>by
  refine⟨⟨h.1.nm,h.1.n,h.1.r,λb=> ?_⟩,kQ.turn h.2 λv hv=>hf v (by simp[hv])⟩;rw[h.1.at' b]
  cases hs:aF v.l b with
  |none=>rfl
  |some s=>simp only[Eu,Option.map_some,hf v sM b s hs]
 | [],_::_,h,_=>h.elim
 |_::_,[],h,_=>h.elim
structure Alike(σ:Nat->Nat)(F G:Fam):Prop where
 N:G.N=F.N
 perm:lM σ F.N
 vs:kQ σ F.vs G.vs
section
variable{σ:Nat->Nat}{N:Nat}{v w:Vol}
theorem iR.some(h:iR σ v w)(hp:lM σ N)(hv:v.ok N){i:Nat}(hi:i<N)(b:Int):aF w.l b=some ((σ i:Nat):Int)↔aF v.l b=some (i:Int):=by
 rw[h.at' b]
 cases hs:aF v.l b with
 |none=>simp[Eu]
 | some s=>
  obtain⟨h0,h1⟩:=qG hv.perm hs;simp only[Eu,Option.map_some,Option.some.injEq]
  constructor
  ·intro e;have:=hp.inj s.toNat i oM hi oM;omega
  ·intro e;rw[e];simp
theorem iR.cnt(h:iR σ v w)(hp:lM σ N)(hv:v.ok N)(hw:w.ok N){i:Nat}(hi:i<N):cnt w.l (σ i)=cnt v.l i:=by
 rw [qR (σ i) w.l 0 (Int.le_refl _) hw.valid,qR i v.l 0 (Int.le_refl _) hv.valid];exact congrArg Int.ofNat (aM _ _ _ λb _=>by
  rw[Qw,Qc,Qc]
  exact h.some hp hv hi b)
end
section
variable{σ:Nat->Nat}{F G:Fam}(h:Alike σ F G)(hF:F.ok)(hG:G.ok)
include h hF hG
theorem Alike.cntV{i:Nat}(hi:i<F.N):iI G.vs (σ i)=iI F.vs i:=
 kQ.sum _ _ h.vs λv w hv hw hs=>hs.cnt h.perm (hF.vol v hv) (h.N ▸ hG.vol w hw) hi
theorem Alike.count{i:Nat}(hi:i<F.N):G.C.getD (σ i) 0=F.C.getD i 0:=by
 rw[hF.get i hi,hG.get (σ i) (by rw[h.N];exact h.perm.lt i hi)];exact h.cntV hF hG hi
theorem Alike.free:jD G=jD F:=by
 unfold jD;rw[h.N,<-h.perm.area (bH G.C)];congr 1;exact aM _ _ _ λi hi=>by
  unfold bH;rw[h.count hF hG hi]
theorem Alike.ex{v w:Vol}(hv:v∈F.vs)(hs:iR σ v w)(b:Int):exB G.C w.l b=exB F.C v.l b:=by
 unfold exB;rw[hs.at' b]
 cases hq:aF v.l b with
 |none=>rfl
 | some s=>
  obtain⟨h0,h1⟩:=qG (hF.vol v hv).perm hq;show bN G.C ((σ s.toNat:Nat):Int).toNat=bN F.C s.toNat;unfold bN;rw[Int.toNat_natCast,h.count hF hG oM]
theorem Alike.single{v w:Vol}(hv:v∈F.vs)(hw:w∈G.vs)(hs:iR σ v w):bF G.C w.l=bF F.C v.l:=by
 rw[nG hF hv,nG hG hw,hs.n];congr 1;exact aM _ _ _ λj _=>h.ex hF hG hv hs j
theorem Alike.claimV{v w:Vol}(hv:v∈F.vs)(hw:w∈G.vs)(hs:iR σ v w):aY G.C w=aY F.C v:=by
 unfold Go.Proofs.YtphfgbbbejloaaaGreatDoor.aY;rw[h.single hF hG hv hw hs,hs.r]
theorem Alike.claims:iC G=iC F:=kQ.sum _ _ h.vs λv w hv hw hs=>h.claimV hF hG hv hw hs
theorem Alike.room:dC G=dC F:=by
 unfold dC;rw[h.free hF hG,h.claims hF hG]
theorem Alike.rest{v w:Vol}(hv:v∈F.vs)(hs:iR σ v w)(p m:Nat):jN G.C w.l p m=jN F.C v.l p m:=by
 unfold jN;congr 2;exact aM _ _ _ λj _=>h.ex hF hG hv hs _
end
theorem Ey(l:List E):∀e,0<=e->bD e l=true->aR l=aK (λb:Nat=>(aF l b).isSome) 65536:=by
 induction l with
 |nil=>intro e _ _;rw[dK _ _ λb _=>by simp[aF]];rfl
 | cons x r ih=>
  intro e h0 hv;have hv':=hv;simp only[bD,Qd,Qc]at hv';obtain⟨c1,c2,c3,c4,c5⟩:=(aB x).1 hv'.1;have hr:=hv'.2.2;have h1:=ih (x.a+x.n) oM hr;rw[sN,h1];have e1:aK (λb:Nat=>(aF (x::r) b).isSome) 65536=aK (λb:Nat=>hits b x||(aF r b).isSome) 65536:=aM _ _ _ λb _=>by
   rw[vP];by_cases h:hits b x=true
   ·rw[Qf h,h];rfl
   ·rw[Qe h];have h:hits b x=false:=by simpa using h
    rw[h,Bool.false_or]
  rw [e1,pQ _ _ _ λb _ hb hc=>by
   simp only[hits,Qd,Qc]at hb;rw[nE r _ b hr hb.2]at hc
   cases hc]
  have e2:(aK (λb:Nat=>hits b x) 65536:Int)=x.n:=by
   rw [aM _ (λb=>decide (x.a.toNat<=b)&&decide (b<(x.a+x.n).toNat)) _ λb _=>by
    rw[Qw];simp only[hits,Qd,Qc]
    omega,xU _ _ _ oM]
   omega
  omega
theorem iR.len{σ:Nat->Nat}{N:Nat}{v w:Vol}(h:iR σ v w)(hv:v.ok N)(hw:w.ok N):aR w.l=aR v.l:=by
 rw [Ey w.l 0 (Int.le_refl _) hw.valid,Ey v.l 0 (Int.le_refl _) hv.valid];exact congrArg Int.ofNat (aM _ _ _ λb _=>by
  rw[h.at' b]
  cases aF v.l b <;> rfl)
theorem iR.find{σ:Nat->Nat}{v w:Vol}(h:iR σ v w)(b:Int):fI w.l b=fI v.l b:=by
 have h1:=h.at' b;rw[lJ,lJ]at h1;cases h2:fI w.l b <;> cases h3:fI v.l b <;> rw[h2,h3]at h1
 ·simp[Eu]at h1
 ·simp[Eu]at h1
theorem iR.findS{σ:Nat->Nat}{v w:Vol}(h:iR σ v w){b:Int}(hb:fI v.l b=true):fU w.l b=((σ (fU v.l b).toNat:Nat):Int):=by
 have h1:=h.at' b;rw[lJ,lJ,h.find b,Qf hb,Qf hb]at h1
 simpa [Eu]using h1
section
variable{σ:Nat->Nat}{F G:Fam}(h:Alike σ F G)
include h
theorem Alike.create(nm:LU)(n r:Int):(aW G nm n r).2=(aW F nm n r).2/\((aW F nm n r).2=0->Alike σ (aW F nm n r).1 (aW G nm n r).1):=by
 unfold aW;rw[h.vs.length];by_cases hq:(bC nm&&BF n r)=false
 ·rw[Qf hq,Qf hq];exact⟨rfl,λe=>by cases e⟩
 ·rw [Qe hq,Qe hq];rcases h.vs.get nm with ⟨e1,e2⟩|⟨v,w,e1,e2,hs⟩
  ·rw[e1,e2];simp only[Option.isSome_none,Bool.false_eq_true,if_false];by_cases h32:32<=F.vs.length
   ·rw[Qf h32,Qf h32];exact⟨rfl,λe=>by cases e⟩
   ·rw[Qe h32,Qe h32];exact⟨rfl,λ_=>⟨h.N,h.perm,h.vs.put ⟨rfl,rfl,rfl,λb=>rfl⟩⟩⟩
  ·rw[e1,e2];simp only[Option.isSome_some,if_true];exact⟨trivial,λe=>by cases e⟩
theorem Alike.clone(nm ot:LU):(bJ G nm ot).2=(bJ F nm ot).2/\((bJ F nm ot).2=0->Alike σ (bJ F nm ot).1 (bJ G nm ot).1):=by
 unfold bJ;rw[h.vs.length];rcases h.vs.get nm with ⟨e1,e2⟩|⟨v,w,e1,e2,hs⟩
 ·rw[e1,e2];exact⟨rfl,λe=>by cases e⟩
 ·rw [e1,e2];simp only;by_cases hq:bC ot=false
  ·rw[Qf hq,Qf hq];exact⟨rfl,λe=>by cases e⟩
  ·rw [Qe hq,Qe hq];rcases h.vs.get ot with ⟨f1,f2⟩|⟨v',w',f1,f2,_⟩
   ·rw[f1,f2];simp only[Option.isSome_none,Bool.false_eq_true,if_false];by_cases h32:32<=F.vs.length
    ·rw[Qf h32,Qf h32];exact⟨rfl,λe=>by cases e⟩
    ·rw[Qe h32,Qe h32];have hx:iR σ ⟨ot,v.n,0,v.l⟩ ⟨ot,w.n,0,w.l⟩:=⟨rfl,hs.n,rfl,hs.at'⟩;exact⟨rfl,λ_=>⟨h.N,h.perm,h.vs.put hx⟩⟩
   ·rw[f1,f2];simp only[Option.isSome_some,if_true];exact⟨trivial,λe=>by cases e⟩
theorem Alike.delete(nm:LU):(aZ G nm).2.2=(aZ F nm).2.2/\((aZ F nm).2.2=0->Alike σ (aZ F nm).1 (aZ G nm).1):=by
 unfold aZ;rcases h.vs.get nm with ⟨e1,e2⟩|⟨v,w,e1,e2,hs⟩
 ·rw[e1,e2];exact⟨rfl,λe=>by cases e⟩
 ·rw[e1,e2];exact⟨rfl,λ_=>⟨h.N,h.perm,h.vs.del nm⟩⟩
theorem Alike.unmap(hF:F.ok)(hG:G.ok)(nm:LU)(p n:Int):(bS G nm p n).2.2=(bS F nm p n).2.2/\((bS F nm p n).2.2=0->Alike σ (bS F nm p n).1 (bS G nm p n).1):=by
 unfold bS;rcases h.vs.get nm with ⟨e1,e2⟩|⟨v,w,e1,e2,hs⟩
 ·rw[e1,e2];exact⟨rfl,λe=>by cases e⟩
 ·rw [e1,e2];simp only;rw[hs.n];by_cases hq:inB p n v.n=false
  ·rw[Qf hq,Qf hq];exact⟨rfl,λe=>by cases e⟩
  ·rw [Qe hq,Qe hq];have hv:=hF.vol v (aC e1).1;have hw:=hG.vol w (aC e2).1;have hq':inB p n v.n=true:=by simpa using hq
   have hwi:=(Vol.ok.cut hv hq').1;have hx:iR σ (v.set (gD v.l p n)) (w.set (gD w.l p n)):=⟨hs.nm,hs.n,hs.r,λb=>by
    show aF (gD w.l p n) b=Eu σ (aF (gD v.l p n) b);rw[qH _ _ _ _ hwi hw.valid,qH _ _ _ _ hwi hv.valid,hs.at' b]
    split <;> rfl⟩
   exact⟨rfl,λ_=>⟨h.N,h.perm,h.vs.put hx⟩⟩
theorem Alike.range(nm:LU)(p n:Int):(dP G nm p n).2=(dP F nm p n).2:=by
 unfold dP;rcases h.vs.get nm with ⟨e1,e2⟩|⟨v,w,e1,e2,hs⟩
 ·rw[e1,e2]
 ·rw[e1,e2];simp only;rw[hs.n]
  split <;> rfl
theorem Alike.lookup(nm:LU)(p:Int):(aX G nm p).2=(aX F nm p).2/\((aX F nm p).2.1=true->(aX G nm p).1=((σ (aX F nm p).1.toNat:Nat):Int)):=by
 unfold aX;rcases h.vs.get nm with ⟨e1,e2⟩|⟨v,w,e1,e2,hs⟩
 ·rw[e1,e2];exact⟨rfl,λe=>by cases e⟩
 ·rw[e1,e2];simp only;rw[hs.n]
  split
  ·exact⟨rfl,λe=>by cases e⟩
  ·simp only;rw[hs.find p];exact⟨rfl,λe=>hs.findS e⟩
end
section
variable{σ:Nat->Nat}{F G:Fam}(h:Alike σ F G)(hF:F.ok)(hG:G.ok)
include h hF hG
theorem Alike.canCreate(n r:Int):fG G n r=fG F n r:=by unfold fG;rw[h.room hF hG]
theorem Alike.canClone(nm:LU):eD G nm=eD F nm:=by
 unfold eD;rcases h.vs.get nm with ⟨e1,e2⟩|⟨v,w,e1,e2,hs⟩
 ·rw[e1,e2]
 ·rw[e1,e2];simp only;rw[h.room hF hG,hs.r,h.claimV hF hG (aC e1).1 (aC e2).1 hs]
theorem Alike.claim(nm:LU):gQ G nm=gQ F nm:=by
 unfold gQ;rcases h.vs.get nm with ⟨e1,e2⟩|⟨v,w,e1,e2,hs⟩
 ·rw[e1,e2]
 ·rw[e1,e2];simp only;rw[h.claimV hF hG (aC e1).1 (aC e2).1 hs]
theorem Alike.need(nm:LU)(p n:Int):jP G nm p n=jP F nm p n:=by
 rcases h.vs.get nm with ⟨e1,e2⟩|⟨v,w,e1,e2,hs⟩
 ·unfold jP dP;rw[e1,e2];rfl
 ·by_cases hq:inB p n v.n=false
  ·unfold jP dP;rw[e1,e2];simp only;rw[hs.n,Qf hq,Qf hq];rfl
  ·have hq':inB p n v.n=true:=by simpa using hq
   obtain⟨q1,q2,q3,q4⟩:=(iK _ _ _).1 hq';obtain⟨p',rfl⟩:=Qr q1;obtain⟨n',rfl⟩:=Qr q2;have n1:=(aC e1).2;have n2:=(aC e2).2;have hle:((p'+n':Nat):Int)<=v.n:=oM
   have r1:=qM hF (v:=v) (by rw[n1];exact e1) p' n' hle;have r2:=qM hG (v:=w) (by rw[n2];exact e2) p' n' (by rw[hs.n];exact hle);rw[n1]at r1;rw[n2]at r2;rw[r1,r2,h.rest hF hG (aC e1).1 hs]
theorem Alike.canWrite(nm:LU)(p n:Int):fM G nm p n=fM F nm p n:=by
 unfold fM;rw[h.need hF hG,h.claim hF hG,h.room hF hG]
theorem Alike.info(nm:LU):dW G nm=dW F nm:=by
 unfold dW;rcases h.vs.get nm with ⟨e1,e2⟩|⟨v,w,e1,e2,hs⟩
 ·rw[e1,e2]
 ·rw[e1,e2];simp only;unfold YC;rw[hs.nm,hs.n,hs.r,h.single hF hG (aC e1).1 (aC e2).1 hs,hs.len (hF.vol v (aC e1).1) (h.N ▸ hG.vol w (aC e2).1)]
end
def kF(F:Fam)(i:Nat):Prop:= ∃u∈F.vs,∃b s,aF u.l b=some s/\s.toNat=i
theorem kF.count{F:Fam}(hF:F.ok){i:Nat}(h:kF F i):i<F.N/\1<=F.C.getD i 0:=by
 obtain⟨u,hu,b,s,hs,rfl⟩:=h;obtain⟨h0,h1⟩:=qG (hF.vol u hu).perm hs;have h2:=tF (hF.vol u hu).valid hs h0;have h3:=wN F.vs u hu s.toNat;have h4:=hF.get s.toNat oM;exact⟨oM,oM⟩
theorem tO{F G:Fam}{v:Vol}{p n:Nat}{S:List Int}{L:List E}(h:PW F v p n S)(hw:WrJ F v p n S n G L):G=F.with (v.set L):=by
 have hl:=hw.lok;rw[hw.wi.N]at hl;refine Jz hw.wi.ok (Fam.ok.with h.sound.ok hl h.get) hw.wi.N λnm=> ?_;show aN G.vs nm=aN (fV F.vs (v.set L)) nm;rw[sU h.sound.ok.sorted];by_cases e:nm=v.nm
 ·subst e;rw[Qf (show v.nm=(v.set L).nm from rfl)];exact hw.get
 ·rw[Qe (show ¬nm=(v.set L).nm from e)];exact hw.wi.oth nm e
section
variable{σ:Nat->Nat}{F G:Fam}{v w:Vol}{p n:Nat}{S T:List Int}
theorem EO(h:Alike σ F G)(hF:F.ok)(hG:G.ok)(hS:∀s∈S,0<=s/\s<F.N/\F.C.getD s.toNat 0=0)(hT:∀s∈T,0<=s/\s<G.N/\G.C.getD s.toNat 0=0)(nS:S.Nodup)(nT:T.Nodup):
  ∀k,k<=S.length->k<=T.length-> ∃τ,lM τ F.N/\(∀i,kF F i->τ i=σ i)/\ ∀x,x<k->τ (S.getD x 0).toNat=(T.getD x 0).toNat
 |0,_,_=>⟨σ,h.perm,λ_ _=>rfl,λx hx=>by omega⟩
 | k +1,h1,h2=>by
  obtain⟨τ,t1,t2,t3⟩:=EO h hF hG hS hT nS nT k oM oM;have gS:∀x,x<S.length->S.getD x 0∈S:=λx hx=>by rw[Ql,Qa hx];exact Qm hx
  have gT:∀x,x<T.length->T.getD x 0∈T:=λx hx=>by rw[Ql,Qa hx];exact Qm hx
  obtain⟨a1,a2,a3⟩:=hS _ (gS k oM);obtain⟨b1,b2,b3⟩:=hT _ (gT k oM);rw[h.N]at b2;obtain⟨ρ,r1,r2,r3⟩:=t1.tell (s:=(S.getD k 0).toNat) (t:=(T.getD k 0).toNat) oM oM;refine⟨ρ,r1,λi hi=> ?_,λx hx=> ?_⟩
  ·obtain⟨hi1,hi2⟩:=hi.count hF;have hc:=h.count hF hG hi1;rw[r3 i hi1 (λe=>by rw[e]at hi2;omega) (λe=>by rw[t2 i hi]at e;rw[e]at hc;omega),t2 i hi]
  ·by_cases e:x=k
   ·subst e;exact r2
   ·have hxk:x<k:=oM
    obtain ⟨c1,c2,c3⟩:=hS _ (gS x oM);obtain⟨d1,d2,d3⟩:=hT _ (gT x oM);have nd:∀{L:List Int},L.Nodup-> ∀{x y:Nat},x<L.length->y<L.length->L.getD x 0=L.getD y 0->x=y:=λ{L} hn {x y} hx hy e=>by
     rw[Ql,Ql,Qa hx,Qa hy]at e;exact(List.getElem_inj hn).1 e
    rw[r3 _ oM (λe2=>e (nd nS oM oM oM)) (λe2=>e (nd nT oM oM (by rw[t3 x hxk]at e2;omega))),t3 x hxk]
theorem JA(h:Alike σ F G)(hF:F.ok)(hG:G.ok)(hv:v∈F.vs)(hs:iR σ v w)(j:Nat):exJ G.C w.l p j=exJ F.C v.l p j:=h.ex hF hG hv hs _
theorem Gr(h:Alike σ F G)(hF:F.ok)(hG:G.ok)(hv:v∈F.vs)(hs:iR σ v w)(i:Nat):eF G.C w.l p i=eF F.C v.l p i:=
 aM _ _ _ λj _=>by rw[JA h hF hG hv hs j]
theorem Ka(h:Alike σ F G)(hw:PW F v p n S)(hw':PW G w p n T)(hs:iR σ v w){F' G':Fam}{L M:List E}(hj:WrJ F v p n S n F' L)(hj':WrJ G w p n T n G' M):
  ∃τ,Alike τ F' G'/\(∀i,kF F i->τ i=σ i)/\ ∀j,j<n->bK G.C w.l p T j=((τ (bK F.C v.l p S j).toNat:Nat):Int):=by
 have hF:=hw.sound.ok;have hG:=hw'.sound.ok;have hv:=(aC hw.get).1;have hm:=hw'.much;rw[Gr h hF hG hv hs]at hm;obtain⟨τ,t1,t2,t3⟩:=EO h hF hG hw.fresh hw'.fresh hw.nodup hw'.nodup (eF F.C v.l p n) hw.much hm;have hpick:∀j,j<n->bK G.C w.l p T j=((τ (bK F.C v.l p S j).toNat:Nat):Int):=λj hj=>by
  by_cases he:exJ F.C v.l p j=true
  ·obtain⟨s,h1,h2,h3⟩:=kT S he;have he':exJ G.C w.l p j=true:=by rw[JA h hF hG hv hs,he]
   obtain⟨s',k1,k2,k3⟩:=kT T he';rw[k2,h2,t2 _ ⟨v,hv,_,s,h1,rfl⟩];rw[hs.at',h1]at k1
   simpa [Eu]using k1.symm
  ·have he0:exJ F.C v.l p j=false:=by simpa using he
   have he':exJ G.C w.l p j=false:=by rw[JA h hF hG hv hs,he0]
   rw[nH he0,nH he',Gr h hF hG hv hs,t3 _ ?_]
   ·have hu:eF F.C v.l p j<T.length:=by
     exact Ru
    have:=(hw'.fresh _ (show T.getD (eF F.C v.l p j) 0∈T by rw[Ql,Qa hu];exact Qm hu)).1;omega
   ·exact Ru
 refine ⟨τ,?_,t2,hpick⟩;rw[tO hw hj,tO hw' hj'];have hx:iR τ (v.set L) (w.set M):=⟨hs.nm,hs.n,hs.r,λb=>by
  show aF M b=Eu τ (aF L b);rw[hj.at',hj'.at'];unfold newAt;by_cases hb:(p:Int)<=b/\b<(p:Int)+n
  ·rw[Qf hb,Qf hb,hpick _ oM];rfl
  ·rw[Qe hb,Qe hb,hs.at' b]
   cases hq:aF v.l b with
   |none=>rfl
   |some s=>simp only[Eu,Option.map_some,t2 _ ⟨v,hv,b,s,hq,rfl⟩]⟩
 exact⟨h.N,t1,(h.vs.turn λu hu b s hq=>t2 _ ⟨u,hu,b,s,hq,rfl⟩).put hx⟩
end
section
variable{α:Type}
def KW(D:Nat->α)(x:Nat)(y:α):Nat->α:=λi=>if i=x then y else D i
def wrD(D:Nat->α)(pk:Nat->Nat)(Y:Nat->α):Nat->Nat->α
 |0=>D
 |j+1=>KW (wrD D pk Y j) (pk j) (Y j)
theorem zN{D:Nat->α}{pk:Nat->Nat}{Y:Nat->α}{i:Nat}:∀{n:Nat},(∀j,j<n->pk j≠i)->wrD D pk Y n i=D i
 |0,_=>rfl
 | n+1,h=>by
  unfold wrD KW;rw[Qe (λe=>h n oM e.symm)];exact zN λj hj=>h j oM
theorem IU{D:Nat->α}{pk:Nat->Nat}{Y:Nat->α}{j:Nat}:∀{n:Nat},j<n->(∀a b,a<n->b<n->pk a=pk b->a=b)->wrD D pk Y n (pk j)=Y j
 |0,h,_=>by omega
 | n+1,h,hi=>by
  unfold wrD KW;by_cases e:j=n
  ·subst e;rw[Qf rfl]
  ·rw[Qe (λq=>e (hi j n h oM q))];exact IU oM λa b ha hb=>hi a b oM oM
def IR(σ:Nat->Nat)(F:Fam)(D E:Nat->α):Prop:= ∀i,kF F i->E (σ i)=D i
theorem IR.less{σ:Nat->Nat}{F G:Fam}{D E:Nat->α}(h:IR σ F D E)(hs:∀i,kF G i->kF F i):IR σ G D E:=λi hi=>h i (hs i hi)
end
theorem NE{F:Fam}{nm:LU}{n r:Int}(he:(aW F nm n r).2=0){i:Nat}(h:kF (aW F nm n r).1 i):kF F i:=by
 unfold aW at he h
 split at h
 ·rename_i q;rw[Qf q]at he;cases he
 ·rename_i q
  rw[Qe q]at he
  split at h
  ·rename_i q2;rw[Qf q2]at he;cases he
  ·rename_i q2
   rw[Qe q2]at he
   split at h
   ·rename_i q3;rw[Qf q3]at he;cases he
   ·obtain⟨u,hu,b,s,hs,hi⟩:=h;rcases dM.1 hu with rfl|⟨hu,_⟩
    ·cases hs
    ·exact⟨u,hu,b,s,hs,hi⟩
theorem SS{F:Fam}{nm ot:LU}(he:(bJ F nm ot).2=0){i:Nat}(h:kF (bJ F nm ot).1 i):kF F i:=by
 unfold bJ at he h
 cases hv:aN F.vs nm with
 |none=>rw[hv]at he;cases he
 | some v=>
  rw[hv]at he h;simp only at he h
  split at h
  ·rename_i q;rw[Qf q]at he;cases he
  ·rename_i q
   rw[Qe q]at he
   split at h
   ·rename_i q2;rw[Qf q2]at he;cases he
   ·rename_i q2
    rw[Qe q2]at he
    split at h
    ·rename_i q3;rw[Qf q3]at he;cases he
    ·obtain⟨u,hu,b,s,hs,hi⟩:=h;rcases dM.1 hu with rfl|⟨hu,_⟩
     ·exact⟨v,(aC hv).1,b,s,hs,hi⟩
     ·exact⟨u,hu,b,s,hs,hi⟩
theorem ND{F:Fam}{nm:LU}(he:(aZ F nm).2.2=0){i:Nat}(h:kF (aZ F nm).1 i):kF F i:=by
 unfold aZ at he h
 cases hv:aN F.vs nm with
 |none=>rw[hv]at he;cases he
 | some v=>
  rw[hv]at h;obtain⟨u,hu,b,s,hs,hi⟩:=h;exact⟨u,(iB.1 hu).1,b,s,hs,hi⟩
theorem SQ{F:Fam}(hF:F.ok){nm:LU}{p n:Int}(he:(bS F nm p n).2.2=0){i:Nat}(h:kF (bS F nm p n).1 i):kF F i:=by
 unfold bS at he h
 cases hv:aN F.vs nm with
 |none=>rw[hv]at he;cases he
 | some v=>
  rw[hv]at he h;simp only at he h
  split at h
  ·rename_i q;rw[Qf q]at he;cases he
  ·rename_i q
   obtain⟨u,hu,b,s,hs,hi⟩:=h;rcases dM.1 hu with rfl|⟨hu,_⟩
   ·have hvk:=hF.vol v (aC hv).1;have hw:=(Vol.ok.cut hvk (by simpa using q)).1;have hs':aF (gD v.l p n) b=some s:=hs;rw[qH _ _ _ _ hw hvk.valid]at hs'
    split at hs'
    ·cases hs'
    ·exact⟨v,(aC hv).1,b,s,hs',hi⟩
   ·exact⟨u,hu,b,s,hs,hi⟩
section
variable{α:Type}{σ τ:Nat->Nat}{F G F' G':Fam}{v w:Vol}{p n:Nat}{S T:List Int}{L M:List E}{D E':Nat->α}
theorem SN(hw:PW F v p n S)(hj:WrJ F v p n S n F' L){i:Nat}(h:kF F' i):(∃j,j<n/\(bK F.C v.l p S j).toNat=i)∨kF F i:=by
 rw[tO hw hj]at h;obtain⟨u,hu,b,s,hs,hi⟩:=h;rcases dM.1 hu with rfl|⟨hu,_⟩
 ·have hs':aF L b=some s:=hs;rw[hj.at']at hs';rcases nX hs' with ⟨k,hk,_,he⟩|⟨_,h2⟩
  ·exact .inl ⟨k,hk,by rw[he];exact hi⟩
  ·exact .inr ⟨v,(aC hw.get).1,b,s,h2,hi⟩
 ·exact .inr ⟨u,hu,b,s,hs,hi⟩
theorem Ny(hw:PW F v p n S)(hw':PW G w p n T)(hN:G.N=F.N)(hj:WrJ F v p n S n F' L)(hd:IR σ F D E')(ht:lM τ F.N)(h1:∀i,kF F i->τ i=σ i)
  (h2:∀j,j<n->bK G.C w.l p T j=((τ (bK F.C v.l p S j).toNat:Nat):Int)) (Y:Nat->α):
  IR τ F' (wrD D (λj=>(bK F.C v.l p S j).toNat) Y n) (wrD E' (λj=>(bK G.C w.l p T j).toNat) Y n):=by
 intro i hi;have inj:∀a b,a<n->b<n->(bK F.C v.l p S a).toNat=(bK F.C v.l p S b).toNat->a=b:=λa b ha hb e=>hw.pick_inj ha hb (by have:=hw.aJi ha;have:=hw.aJi hb;omega);have inj':∀a b,a<n->b<n->(bK G.C w.l p T a).toNat=(bK G.C w.l p T b).toNat->a=b:=λa b ha hb e=>hw'.pick_inj ha hb (by have:=hw'.aJi ha;have:=hw'.aJi hb;omega);by_cases hq:∃j,j<n/\(bK F.C v.l p S j).toNat=i
 ·obtain⟨j,hjn,rfl⟩:=hq;have e:τ (bK F.C v.l p S j).toNat=(bK G.C w.l p T j).toNat:=by rw[h2 j hjn];simp
  rw[e];exact(IU (D:=E') (pk:=λj=>(bK G.C w.l p T j).toNat) hjn inj').trans (IU (D:=D) (pk:=λj=>(bK F.C v.l p S j).toNat) hjn inj).symm
 ·have hu:=(SN hw hj hi).resolve_left hq;have hlt:=(hu.count hw.sound.ok).1;rw[zN λj hjn e=>hq ⟨j,hjn,e⟩,zN λj hjn e=> ?_,h1 i hu]
  ·exact hd i hu
  ·rw[h2 j hjn]at e;have hf:=hw.aJi hjn;exact hq ⟨j,hjn,ht.inj _ _ oM hlt (by simpa using e)⟩
end
structure Cmd(α:Type) where
 tag:Int
 kd:Int
 ao:Int
 af:Bool
 vol:LU
 oth:LU
 p:Int
 n:Int
 data:List α
def lK(p n:Int):Bool:=decide (0<=p/\1<=n/\p+n<=65536)
section
variable{α:Type}
def Cmd.bare(c:Cmd α):Bool:=c.oth.isEmpty&&c.data.isEmpty
def Cmd.none0(c:Cmd α):Bool:= !c.af&&decide (c.p=0/\c.n=0)
def Cmd.aJj(c:Cmd α):Bool:=
 if c.kd=1 then bC c.vol&&(c.bare&&(!c.af&&(lK c.p c.n&&decide (c.n<=16))))
 else if c.kd=2 then bC c.vol&&(c.oth.isEmpty&&(lK c.p c.n&&decide (c.n<=16/\(c.data.length:Int)=c.n)))
 else if c.kd=3 then bC c.vol&&(c.bare&&lK c.p c.n)
 else if c.kd=4 then c.vol.isEmpty&&(c.bare&&c.none0)
 else if c.kd=5 then bC c.vol&&(c.bare&&(!c.af&&decide (1<=c.n/\c.n<=65536/\0<=c.p/\c.p<=c.n)))
 else if c.kd=6 then bC c.vol&&(bC c.oth&&(!(c.oth==c.vol)&&(c.data.isEmpty&&c.none0)))
 else if c.kd=7 then bC c.vol&&(c.bare&&c.none0)
 else false
def Cmd.valid(c:Cmd α):Bool:=decide (0<=c.tag/\c.tag<2147483648)&&(decide (c.ao=0∨c.ao=1)&&c.aJj)
structure MSt(α:Type) where
 F:Fam
 D:Nat->α
def fE(F:Fam)(c:Cmd α):Int:=
 if c.kd=1 then (dP F c.vol c.p c.n).2
 else if c.kd=2 then jO F c.vol c.p c.n
 else if c.kd=3 then (bS F c.vol c.p c.n).2.2
 else if c.kd=5 then crE F c.vol c.n c.p
 else if c.kd=6 then clE F c.vol c.oth
 else if c.kd=7 then (aZ F c.vol).2.2
 else 0
def Ca(F:Fam)(c:Cmd α):Fam:=
 if c.kd=3 then (bS F c.vol c.p c.n).1
 else if c.kd=5 then (aW F c.vol c.n c.p).1
 else if c.kd=6 then (bJ F c.vol c.oth).1
 else if c.kd=7 then (aZ F c.vol).1
 else F
def WrC(z:α)(s:MSt α)(c:Cmd α)(s':MSt α):Prop:=
 ∃(v:Vol) (p n:Nat) (S:List Int) (L:List E),c.vol=v.nm/\c.p=p/\c.n=n/\PW s.F v p n S/\WrJ s.F v p n S n s'.F L/\s'.D=wrD s.D (λj=>(bK s.F.C v.l p S j).toNat) (λj=>c.data.getD j z) n
def Nx(z:α)(s:MSt α)(c:Cmd α)(s':MSt α):Prop:=
 (fE s.F c≠0->s'=s)/\(fE s.F c=0->if c.kd=2 then WrC z s c s' else s'=⟨Ca s.F c,s.D⟩)
structure MSt.fine(s:MSt α):Prop where
 sound:s.F.sound
 once:s.F.once
structure Sim(σ:Nat->Nat)(s t:MSt α):Prop where
 a:Alike σ s.F t.F
 d:IR σ s.F s.D t.D
theorem wM{σ:Nat->Nat}{F G:Fam}(h:Alike σ F G)(hF:F.ok)(hG:G.ok)(c:Cmd α):fE G c=fE F c:=by
 unfold fE jO crE clE;rw[h.range,h.info hF hG,h.canWrite hF hG,(h.unmap hF hG _ _ _).1,(h.create _ _ _).1,h.canCreate hF hG,(h.clone _ _).1,h.canClone hF hG,(h.delete _).1]
theorem Xo{F G:Fam}(h:F.once)(hs:∀u∈G.vs,∃v∈F.vs,∀b s,aF u.l b=some s->aF v.l b=some s):G.once:=λu hu b c s hb hc=>by
 obtain⟨v,hv,hv2⟩:=hs u hu;exact h v hv b c s (hv2 b s hb) (hv2 c s hc)
theorem xN{F:Fam}{nm:LU}{n r:Int}(h:crE F nm n r=0):(aW F nm n r).2=0/\fG F n r=0:=by
 unfold crE at h;by_cases e:(aW F nm n r).2=0
 ·rw[Qf e]at h;exact⟨e,h⟩
 ·rw[Qe e]at h;exact absurd h e
theorem xQ{F:Fam}{nm ot:LU}(h:clE F nm ot=0):(bJ F nm ot).2=0/\eD F nm=0:=by
 unfold clE at h;by_cases e:(bJ F nm ot).2=0
 ·rw[Qf e]at h;exact⟨e,h⟩
 ·rw[Qe e]at h;exact absurd h e
theorem Mt{F:Fam}(hs:F.sound)(ho:F.once)(c:Cmd α)(hc:c.kd=5->c.n<=255)(h2:c.kd≠2)(he:fE F c=0):(Ca F c).sound/\(Ca F c).once:=by
 unfold fE at he;unfold Ca;by_cases k3:c.kd=3
 ·rw [Qe oM,Qe oM,Qf k3]at he;rw[Qf k3];refine⟨Kh hs he,?_⟩;unfold bS at he ⊢
  cases hv:aN F.vs c.vol with
  |none=>rw[hv]at he;cases he
  | some v=>
   rw[hv]at he;simp only at he ⊢;by_cases q:inB c.p c.n v.n=false
   ·rw[Qf q]at he;cases he
   ·rw [Qe q];have hvk:=hs.ok.vol v (aC hv).1;have hw:=(Vol.ok.cut hvk (by simpa using q)).1;refine Xo ho λu hu=> ?_;rcases dM.1 hu with rfl|⟨hu,_⟩
    ·refine⟨v,(aC hv).1,λb s hb=> ?_⟩;have hb':aF (gD v.l c.p c.n) b=some s:=hb;rw[qH _ _ _ _ hw hvk.valid]at hb'
     split at hb'
     ·cases hb'
     ·exact hb'
    ·exact⟨u,hu,λb s hb=>hb⟩
 ·rw [Qe k3];by_cases k5:c.kd=5
  ·rw [Qe oM,Qe oM,Qe k3,Qf k5]at he;rw[Qf k5];obtain⟨h1,h3⟩:=xN he;refine⟨Ba hs (hc k5) h3 h1,?_⟩;unfold aW at h1 ⊢;by_cases q1:(bC c.vol&&BF c.n c.p)=false
   ·rw[Qf q1]at h1;cases h1
   ·rw [Qe q1]at h1 ⊢;by_cases q2:(aN F.vs c.vol).isSome=true
    ·rw[Qf q2]at h1;cases h1
    ·rw [Qe q2]at h1 ⊢;by_cases q3:32<=F.vs.length
     ·rw[Qf q3]at h1;cases h1
     ·rw[Qe q3];intro u hu;rcases dM.1 hu with rfl|⟨hu,_⟩
      ·intro b d x hb;cases hb
      ·exact ho u hu
  ·rw [Qe k5];by_cases k6:c.kd=6
   ·rw [Qe oM,Qe oM,Qe k3,Qe k5,Qf k6]at he;rw[Qf k6];obtain⟨h1,h3⟩:=xQ he;refine⟨MU hs h3 h1,?_⟩;unfold bJ at h1 ⊢
    cases hv:aN F.vs c.vol with
    |none=>rw[hv]at h1;cases h1
    | some v=>
     rw[hv]at h1;simp only at h1 ⊢;by_cases q1:bC c.oth=false
     ·rw[Qf q1]at h1;cases h1
     ·rw [Qe q1]at h1 ⊢;by_cases q2:(aN F.vs c.oth).isSome=true
      ·rw[Qf q2]at h1;cases h1
      ·rw [Qe q2]at h1 ⊢;by_cases q3:32<=F.vs.length
       ·rw[Qf q3]at h1;cases h1
       ·rw[Qe q3];intro u hu;rcases dM.1 hu with rfl|⟨hu,_⟩
        ·exact ho v (aC hv).1
        ·exact ho u hu
   ·rw [Qe k6];by_cases k7:c.kd=7
    ·rw[Qe oM,Qe oM,Qe k3,Qe k5,Qe k6,Qf k7]at he;rw[Qf k7];refine⟨JC hs he,?_⟩;unfold aZ at he ⊢
     cases hv:aN F.vs c.vol with
     |none=>rw[hv]at he;cases he
     |some v=>exactλu hu=>ho u (iB.1 hu).1
    ·rw[Qe k7];exact⟨hs,ho⟩
theorem Nx.fine{z:α}{s s':MSt α}{c:Cmd α}(h:Nx z s c s')(hs:s.fine)(hc:c.kd=5->c.n<=255):s'.fine:=by
 by_cases he:fE s.F c=0
 ·have h2:=h.2 he;by_cases k:c.kd=2
  ·rw[Qf k]at h2;obtain⟨v,p,n,S,L,_,_,_,hw,hj,_⟩:=h2;exact⟨hj.wi.sound hs.sound hw.get,hj.once hw⟩
  ·rw[Qe k]at h2;subst h2;obtain⟨a,b⟩:=Mt hs.sound hs.once c hc k he;exact⟨a,b⟩
 ·rw[h.1 he];exact hs
theorem UQ{σ:Nat->Nat}{F G:Fam}(h:Alike σ F G)(hF:F.ok)(hG:G.ok)(c:Cmd α)(h2:c.kd≠2)(he:fE F c=0):Alike σ (Ca F c) (Ca G c)/\ ∀i,kF (Ca F c) i->kF F i:=by
 unfold fE at he;unfold Ca;by_cases k3:c.kd=3
 ·rw[Qe oM,Qe oM,Qf k3]at he;rw[Qf k3,Qf k3];exact⟨(h.unmap hF hG _ _ _).2 he,λi hi=>SQ hF he hi⟩
 ·rw [Qe k3,Qe k3];by_cases k5:c.kd=5
  ·rw[Qe oM,Qe oM,Qe k3,Qf k5]at he;rw[Qf k5,Qf k5];exact⟨(h.create _ _ _).2 (xN he).1,λi hi=>NE (xN he).1 hi⟩
  ·rw [Qe k5,Qe k5];by_cases k6:c.kd=6
   ·rw[Qe oM,Qe oM,Qe k3,Qe k5,Qf k6]at he;rw[Qf k6,Qf k6];exact⟨(h.clone _ _).2 (xQ he).1,λi hi=>SS (xQ he).1 hi⟩
   ·rw[Qe k6,Qe k6];by_cases k7:c.kd=7
    ·rw[Qe oM,Qe oM,Qe k3,Qe k5,Qe k6,Qf k7]at he;rw[Qf k7,Qf k7];exact⟨(h.delete _).2 he,λi hi=>ND he hi⟩
    ·rw[Qe k7,Qe k7];exact⟨h,λi hi=>hi⟩
theorem Nx.sim{z:α}{σ:Nat->Nat}{s t s' t':MSt α}{c:Cmd α}(hr:Sim σ s t)(hs:s.fine)(ht:t.fine)(h:Nx z s c s')(h':Nx z t c t'):∃τ,Sim τ s' t':=by
 have hF:=hs.sound.ok;have hG:=ht.sound.ok;have hee:=wM hr.a hF hG c;by_cases he:fE s.F c=0
 ·have h2:=h.2 he;have h3:=h'.2 (by rw[hee];exact he);by_cases k:c.kd=2
  ·rw [Qf k]at h2 h3;obtain⟨v,p,n,S,L,e1,e2,e3,hw,hj,hDd⟩:=h2;obtain⟨w,p',n',T,M,f1,f2,f3,hw',hj',hE⟩:=h3;obtain rfl:p'=p:=oM
   obtain rfl:n'=n:=oM
   have hsv:iR σ v w:=by
    rcases hr.a.vs.get v.nm with ⟨g1,g2⟩|⟨x,y,g1,g2,g3⟩
    ·rw[hw.get]at g1;cases g1
    ·rw[hw.get]at g1;rw[show v.nm=w.nm by rw[<-e1,f1],hw'.get]at g2;injection g1 with g1;injection g2 with g2;rw[g1,g2];exact g3
   obtain⟨τ,t1,t2,t3⟩:=Ka hr.a hw hw' hsv hj hj';have hp:=t1.perm;rw[hj.wi.N]at hp;refine⟨τ,t1,?_⟩;rw[hDd,hE];exact Ny hw hw' hr.a.N hj hr.d hp t2 t3 _
  ·rw[Qe k]at h2 h3;subst h2 h3;obtain⟨a1,a2⟩:=UQ hr.a hF hG c k he;exact⟨σ,a1,hr.d.less a2⟩
 ·rw[h.1 he,h'.1 (by rw[hee];exact he)];exact⟨σ,hr⟩
end
section
variable{α:Type}
def vF(z:α)(s:MSt α)(nm:LU)(p:Int):α:=if (aX s.F nm p).2.1=true then s.D (aX s.F nm p).1.toNat else z
theorem Po{F:Fam}{nm:LU}{p:Int}(h:(aX F nm p).2.1=true):kF F (aX F nm p).1.toNat:=by
 unfold aX at h ⊢
 cases hv:aN F.vs nm with
 |none=>rw[hv]at h;cases h
 | some v=>
  rw[hv]at h;simp only at h ⊢;by_cases q:inB p 1 v.n=false
  ·rw[Qf q]at h;cases h
  ·rw[Qe q]at h ⊢;refine⟨v,(aC hv).1,p,fU v.l p,?_,rfl⟩;rw[lJ,Qf h]
theorem Nf{z:α}{σ:Nat->Nat}{s t:MSt α}(h:Sim σ s t)(nm:LU)(p:Int):vF z t nm p=vF z s nm p:=by
 obtain⟨h1,h2⟩:=h.a.lookup nm p;unfold vF;rw[h1];by_cases q:(aX s.F nm p).2.1=true
 ·rw[Qf q,Qf q,h2 q,Int.toNat_natCast];exact h.d _ (Po q)
 ·rw[Qe q,Qe q]
def vD(z:α)(s:MSt α)(nm:LU)(p n:Int):List α:=(List.range n.toNat).map λi:Nat=>vF z s nm (p+i)
structure Rp(α:Type) where
 tag:Int
 err:Int
 data:List α
def kW(z:α)(s:MSt α)(c:Cmd α):Rp α:=
 if c.valid=true then ⟨c.tag,fE s.F c,if c.kd=1/\fE s.F c=0 then vD z s c.vol c.p c.n else []⟩else ⟨c.tag,1,[]⟩
theorem KR{z:α}{σ:Nat->Nat}{s t:MSt α}(h:Sim σ s t)(hs:s.fine)(ht:t.fine)(c:Cmd α):kW z t c=kW z s c:=by
 unfold kW vD;rw[wM h.a hs.sound.ok ht.sound.ok c];simp only[Nf h]
structure Mo(α:Type) where
 cur:MSt α
 past:List (MSt α)
def Ap(z:α)(m:Mo α)(c:Cmd α)(m':Mo α):Prop:=
 if c.valid=true/\fE m.cur.F c=0/\c.kd≠1 then
  (if c.kd=4 then m'=⟨m.cur,[]⟩else Nx z m.cur c m'.cur/\m'.past=if c.af=true then []else m.past++[m.cur])
 else m'=m
structure Mo.fine(m:Mo α):Prop where
 cur:m.cur.fine
 past:∀s∈m.past,s.fine
def Dr:List (MSt α)->List (MSt α)->Prop
 | [],[]=>True
 |s::r,t::q=>(∃σ,Sim σ s t)/\Dr r q
 |_,_=>False
theorem Dr.length:∀{A B:List (MSt α)},Dr A B->B.length=A.length
 | [],[],_=>rfl
 |_::_,_::_,h=>by rw[List.length_cons,List.length_cons,Dr.length h.2]
 | [],_::_,h=>h.elim
 |_::_,[],h=>h.elim
theorem Dr.snoc{s t:MSt α}(hst:∃σ,Sim σ s t):∀{A B:List (MSt α)},Dr A B->Dr (A++[s]) (B++[t])
 | [],[],_=>⟨hst,trivial⟩
 |_::_,_::_,h=>⟨h.1,Dr.snoc hst h.2⟩
 | [],_::_,h=>h.elim
 |_::_,[],h=>h.elim
theorem Dr.get:∀{A B:List (MSt α)},Dr A B-> ∀{k:Nat} {s t:MSt α},A[k]? =some s->B[k]? =some t-> ∃σ,Sim σ s t
 | [],[],_,k,s,t,h1,_=>by simp at h1
 | a::A,b::B,h,0,s,t,h1,h2=>by
  simp only[List.getElem?_cons_zero,Option.some.injEq]at h1 h2;subst h1 h2;exact h.1
 |a::A,b::B,h,k+1,s,t,h1,h2=>Dr.get h.2 (k:=k) (by simpa using h1) (by simpa using h2)
 | [],_::_,h,_,_,_,_,_=>h.elim
 |_::_,[],h,_,_,_,_,_=>h.elim
structure FL(m g:Mo α):Prop where
 cur:∃σ,Sim σ m.cur g.cur
 past:Dr m.past g.past
theorem Ap.fine{z:α}{m m':Mo α}{c:Cmd α}(h:Ap z m c m')(hm:m.fine)(hc:c.kd=5->c.n<=255):m'.fine:=by
 unfold Ap at h
 split at h
 ·split at h
  ·subst h;exact⟨hm.cur,sM⟩
  ·refine ⟨h.1.fine hm.cur hc,?_⟩;rw[h.2]
   split
   ·simp
   ·intro s hs;rw[Qn,List.mem_singleton]at hs;rcases hs with hs|rfl
    ·exact hm.past s hs
    ·exact hm.cur
 ·subst h;exact hm
theorem Ap.sim{z:α}{m g m' g':Mo α}{c:Cmd α}(hr:FL m g)(hm:m.fine)(hg:g.fine)(h:Ap z m c m')(h':Ap z g c g'):FL m' g':=by
 obtain⟨σ,hs⟩:=hr.cur;unfold Ap at h h';rw[wM hs.a hm.cur.sound.ok hg.cur.sound.ok c]at h'
 split at h
 ·rename_i q
  rw[Qf q]at h'
  split at h
  ·rename_i k
   rw[Qf k]at h';subst h h';exact⟨⟨σ,hs⟩,trivial⟩
  ·rename_i k
   rw[Qe k]at h';refine⟨Nx.sim hs hm.cur hg.cur h.1 h'.1,?_⟩;rw[h.2,h'.2]
   split
   ·trivial
   ·exact hr.past.snoc ⟨σ,hs⟩
 ·rename_i q
  rw[Qe q]at h';subst h h';exact hr
def lC(m:Mo α)(k:Int):Mo α × Int:=
 if k<0∨(m.past.length:Int)<k then (m,2)else (⟨(m.past[k.toNat]?).getD m.cur,[]⟩,0)
end
structure OV(α:Type) where
 nm:LU
 n:Int
 r:Int
 c:Nat->Option α
section
variable{α:Type}
def obV(s:MSt α)(v:Vol):OV α:=⟨v.nm,v.n,v.r,λi=>(aF v.l i).map λx=>s.D x.toNat⟩
def obS(s:MSt α):List (OV α):=s.F.vs.map (obV s)
def aBh(v:OV α):List (OV α)->List (OV α)
 | []=>[v]
 |w::r=>if bytesBefore v.nm w.nm then v::w::r else w::aBh v r
def aBy(vs:List (OV α))(nm:LU):List (OV α):=vs.filter λw=> !(w.nm==nm)
def KV(vs:List (OV α))(v:OV α):List (OV α):=aBh v (aBy vs v.nm)
def xZ(vs:List (OV α))(nm:LU):Option (OV α):=vs.find? λw=>w.nm==nm
theorem OT(s:MSt α)(v:Vol):∀vs:List Vol,(qW v vs).map (obV s)=aBh (obV s v) (vs.map (obV s))
 | []=>rfl
 | w::r=>by
  unfold qW;rw[List.map_cons];unfold aBh;show _=if bytesBefore v.nm w.nm=true then _ else _
  split
  ·rfl
  ·rw[List.map_cons,OT s v r]
theorem Jl(s:MSt α)(nm:LU):∀vs:List Vol,(bZ vs nm).map (obV s)=aBy (vs.map (obV s)) nm
 | []=>rfl
 | w::r=>by
  have ih:=Jl s nm r;unfold bZ aBy at *;rw[List.map_cons,List.filter_cons,List.filter_cons];show _=if (!(w.nm==nm))=true then _ else _
  split
  ·rw[List.map_cons,ih]
  ·exact ih
theorem OQ(s:MSt α)(v:Vol)(vs:List Vol):(fV vs v).map (obV s)=KV (vs.map (obV s)) (obV s v):=by
 unfold fV KV;rw[OT,Jl];rfl
theorem Jk(s:MSt α)(nm:LU):∀vs:List Vol,xZ (vs.map (obV s)) nm=(aN vs nm).map (obV s)
 | []=>rfl
 | w::r=>by
  have ih:=Jk s nm r;unfold xZ aN at *;rw[List.map_cons,List.find?_cons,List.find?_cons];show(match w.nm==nm with|true=>_|false=>_)=_;cases w.nm==nm
  ·exact ih
  ·rfl
theorem OJ{F:Fam}{v:Vol}{p n:Nat}{S:List Int}(h:PW F v p n S){u:Vol}(hu:u∈F.vs)(hne:u.nm≠v.nm){b x:Int}(hx:aF u.l b=some x){j:Nat}(hj:j<n):(bK F.C v.l p S j).toNat≠x.toNat:=by
 intro e;have hF:=h.sound.ok;have huse:kF F x.toNat:=⟨u,hu,b,x,hx,rfl⟩;obtain⟨h1,h2⟩:=huse.count hF;by_cases he:exJ F.C v.l p j=true
 ·obtain⟨s,k1,k2,k3⟩:=kT S he;rw[k2]at e;obtain⟨q1,q2,q3,q4⟩:=h.used k1;have c1:=tF (hF.vol u hu).valid hx (qG (hF.vol u hu).perm hx).1;have c2:iI (bZ F.vs v.nm) x.toNat+cnt v.l x.toNat=iI F.vs x.toNat:=oL hF.sorted h.get _;have c3:=wN (bZ F.vs v.nm) u (iB.2 ⟨hu,hne⟩) x.toNat;have c4:=hF.get x.toNat h1;rw[e]at q2 k3;omega
 ·have he0:exJ F.C v.l p j=false:=by simpa using he
  obtain⟨g1,g2,_⟩:=h.pick_new hj he0;have:=(h.fresh _ g2).2.2;rw[e]at this;omega
theorem Xp{s s':MSt α}{v:Vol}{p n:Nat}{S:List Int}{L:List E}(h:PW s.F v p n S)(hj:WrJ s.F v p n S n s'.F L){Y:Nat->α}(hDd:s'.D=wrD s.D (λj=>(bK s.F.C v.l p S j).toNat) Y n):
  obS s'=KV (obS s) ⟨v.nm,v.n,v.r,λi=>if p<=i/\i<p+n then some (Y (i-p))else (obV s v).c i⟩:=by
 have hF:=h.sound.ok;have inj:∀a b,a<n->b<n->(bK s.F.C v.l p S a).toNat=(bK s.F.C v.l p S b).toNat->a=b:=λa b ha hb e=>h.pick_inj ha hb (by have:=h.aJi ha;have:=h.aJi hb;omega);have hown:obV s' (v.set L)=⟨v.nm,v.n,v.r,λi=>if p<=i/\i<p+n then some (Y (i-p))else (obV s v).c i⟩:=by
  unfold obV;show OV.mk v.nm v.n v.r _=_;congr 1
  funext i
  show(aF L i).map _=_;rw[hj.at'];by_cases q:p<=i/\i<p+n
  ·rw[Qf q];have:=lU (C:=s.F.C) (l:=v.l) (p:=p) (S:=S) (j:=n) (k:=i-p) oM;rw[show p+(i-p)=i by omega]at this;rw[this,Option.map_some,hDd];exact congrArg some (IU (pk:=λj=>(bK s.F.C v.l p S j).toNat) (j:=i-p) oM inj)
  ·rw [Qe q,kC oM];show _=(aF v.l i).map _
   cases hx:aF v.l i with
   |none=>rfl
   | some x=>
    simp only[Option.map_some];rw[hDd];refine congrArg some (zN λj hjn e=> ?_);have hf:=h.aJi hjn;have hx0:=(qG (hF.vol v (aC h.get).1).perm hx).1;have e1:newAt s.F.C v.l p S n ((p+j:Nat):Int)=some x:=by rw[lU hjn];exact congrArg some oM
    have e2:newAt s.F.C v.l p S n (i:Int)=some x:=by rw[kC oM];exact hx
    have:=h.new_inj (Ye n) _ _ _ e1 e2;omega
 have hvs:s'.F.vs=fV s.F.vs (v.set L):=by rw[tO h hj];rfl
 unfold obS;rw[hvs];unfold fV;rw[OT,hown];unfold KV;congr 1;rw[<-Jl];refine List.map_congr_left λu hu=> ?_;obtain⟨hu1,hu2⟩:=iB.1 hu;unfold obV;congr 1
 funext i
 cases hx:aF u.l i with
 |none=>rfl
 | some x=>
  simp only[Option.map_some];rw[hDd];exact congrArg some (zN λj hjn e=>OJ h hu1 hu2 hx hjn e)
end
section
variable{α:Type}
def errO(ob:List (OV α))(c:Cmd α):Int:=
 if c.kd=1∨c.kd=3 then (match xZ ob c.vol with
  |none=>9
  |some v=>if inB c.p c.n v.n=false then 2 else 0)
 else if c.kd=2 then (match xZ ob c.vol with
  |none=>9
  |some v=>if 1<=c.n/\c.n<=16 then (if inB c.p c.n v.n=false then 2 else 0)else 1)
 else if c.kd=5 then
  (if (bC c.vol&&BF c.n c.p)=false then 1
  else if (xZ ob c.vol).isSome then 10
  else if 32<=ob.length then 7
  else 0)
 else if c.kd=6 then (match xZ ob c.vol with
  |none=>9
  | some _=>
   if bC c.oth=false then 1
   else if (xZ ob c.oth).isSome then 10
   else if 32<=ob.length then 7
   else 0)
 else if c.kd=7 then (match xZ ob c.vol with
  |none=>9
  |some _=>0)
 else 0
def zW(z:α)(ob:List (OV α))(c:Cmd α):List (OV α):=
 if c.kd=2 then (match xZ ob c.vol with
  |none=>ob
  |some v=>KV ob ⟨v.nm,v.n,v.r,λi=>if c.p<=i/\(i:Int)<c.p+c.n then some (c.data.getD (i-c.p.toNat) z)else v.c i⟩)
 else if c.kd=3 then (match xZ ob c.vol with
  |none=>ob
  |some v=>KV ob ⟨v.nm,v.n,v.r,λi=>if c.p<=i/\(i:Int)<c.p+c.n then none else v.c i⟩)
 else if c.kd=5 then KV ob ⟨c.vol,c.n,c.p,λ_=>none⟩
 else if c.kd=6 then (match xZ ob c.vol with
  |none=>ob
  |some v=>KV ob ⟨c.oth,v.n,0,v.c⟩)
 else if c.kd=7 then aBy ob c.vol
 else ob
theorem Jj{z:α}{s s':MSt α}{c:Cmd α}(hF:s.F.ok)(h:Nx z s c s')(he:fE s.F c=0):obS s'=zW z (obS s) c:=by
 have h2:=h.2 he;have hget:∀nm,xZ (obS s) nm=(aN s.F.vs nm).map (obV s):=λnm=>Jk s nm _;unfold zW;rw[hget];by_cases k2:c.kd=2
 ·rw[Qf k2]at h2 ⊢;obtain⟨v,p,n,S,L,e1,e2,e3,hw,hj,hDd⟩:=h2;rw[e1,hw.get];simp only[Option.map_some];rw[Xp hw hj hDd];congr 1;show OV.mk v.nm v.n v.r _=OV.mk v.nm v.n v.r _;congr 1
  funext i
  rw[e2,e3];by_cases q:p<=i/\i<p+n
  ·rw[Qf q,Qf oM];rfl
  ·rw[Qe q,Qe oM]
 ·rw [Qe k2]at h2 ⊢;subst h2;unfold fE at he;unfold Ca;by_cases k3:c.kd=3
  ·rw [Qe oM,Qe k2,Qf k3]at he;rw[Qf k3,Qf k3];unfold bS at he ⊢
   cases hv:aN s.F.vs c.vol with
   |none=>rw[hv]at he;cases he
   | some v=>
    rw[hv]at he;simp only[Option.map_some]at he ⊢;by_cases q:inB c.p c.n v.n=false
    ·rw[Qf q]at he;cases he
    ·rw[Qe q];have hvk:=hF.vol v (aC hv).1;have hw:=(Vol.ok.cut hvk (by simpa using q)).1;show((fV s.F.vs (v.set (gD v.l c.p c.n))).map (obV s))=_;rw[OQ];congr 1;show OV.mk v.nm v.n v.r _=OV.mk v.nm v.n v.r _;congr 1
     funext i
     show(aF (gD v.l c.p c.n) i).map _=_;rw[qH _ _ _ _ hw hvk.valid];by_cases q2:c.p<=(i:Int)/\(i:Int)<c.p+c.n
     ·rw[Qf q2,Qf q2];rfl
     ·rw[Qe q2,Qe q2];rfl
  ·rw [Qe k3,Qe k3];by_cases k5:c.kd=5
   ·rw [Qe oM,Qe k2,Qe k3,Qf k5]at he;rw[Qf k5,Qf k5];have h1:=(xN he).1;unfold aW at h1 ⊢;by_cases q1:(bC c.vol&&BF c.n c.p)=false
    ·rw[Qf q1]at h1;cases h1
    ·rw [Qe q1]at h1 ⊢;by_cases q2:(aN s.F.vs c.vol).isSome=true
     ·rw[Qf q2]at h1;cases h1
     ·rw[Qe q2]at h1 ⊢;by_cases q3:32<=s.F.vs.length
      ·rw[Qf q3]at h1;cases h1
      ·rw[Qe q3];exact OQ s ⟨c.vol,c.n,c.p,[]⟩ _
   ·rw [Qe k5,Qe k5];by_cases k6:c.kd=6
    ·rw [Qe oM,Qe k2,Qe k3,Qe k5,Qf k6]at he;rw[Qf k6,Qf k6];have h1:=(xQ he).1;unfold bJ at h1 ⊢
     cases hv:aN s.F.vs c.vol with
     |none=>rw[hv]at h1;cases h1
     | some v=>
      rw[hv]at h1;simp only[Option.map_some]at h1 ⊢;by_cases q1:bC c.oth=false
      ·rw[Qf q1]at h1;cases h1
      ·rw [Qe q1]at h1 ⊢;by_cases q2:(aN s.F.vs c.oth).isSome=true
       ·rw[Qf q2]at h1;cases h1
       ·rw[Qe q2]at h1 ⊢;by_cases q3:32<=s.F.vs.length
        ·rw[Qf q3]at h1;cases h1
        ·rw[Qe q3];exact OQ s ⟨c.oth,v.n,0,v.l⟩ _
    ·rw [Qe k6,Qe k6];by_cases k7:c.kd=7
     ·rw[Qe oM,Qe k2,Qe k3,Qe k5,Qe k6,Qf k7]at he;rw[Qf k7,Qf k7];unfold aZ at he ⊢
      cases hv:aN s.F.vs c.vol with
      |none=>rw[hv]at he;cases he
      |some v=>exact Jl s c.vol _
     ·rw[Qe k7,Qe k7]
end
section
variable{α:Type}
end
section
variable{α:Type}
def OV.write(v:OV α)(p n:Int)(f:Nat->Option α):OV α:=⟨v.nm,v.n,v.r,λi=>if p<=i/\(i:Int)<p+n then f i else v.c i⟩
abbrev GO(α:Type):=LU->Option (OV α)
def aFd(z:α)(c:Cmd α):Nat->Option α:=λi=>if c.kd=2 then some (c.data.getD (i-c.p.toNat) z)else none
def stepG(z:α)(g:GO α)(c:Cmd α):GO α:=λnm=>
 if c.kd=2∨c.kd=3 then (if nm=c.vol then (g nm).map λv=>v.write c.p c.n (aFd z c)else g nm)
 else if c.kd=5 then (if nm=c.vol then some ⟨c.vol,c.n,c.p,λ_=>none⟩else g nm)
 else if c.kd=6 then (if nm=c.oth then (g c.vol).map λv=>⟨c.oth,v.n,0,v.c⟩else g nm)
 else if c.kd=7 then (if nm=c.vol then none else g nm)
 else g nm
def errG(g:GO α)(c:Cmd α):Int:=
 if c.kd=1∨c.kd=3 then (match g c.vol with
  |none=>9
  |some v=>if inB c.p c.n v.n=false then 2 else 0)
 else if c.kd=2 then (match g c.vol with
  |none=>9
  |some v=>if 1<=c.n/\c.n<=16 then (if inB c.p c.n v.n=false then 2 else 0)else 1)
 else if c.kd=5 then
  (if (bC c.vol&&BF c.n c.p)=false then 1
  else if (g c.vol).isSome then 10
  else 0)
 else if c.kd=6 then (match g c.vol with
  |none=>9
  | some _=>
   if bC c.oth=false then 1
   else if (g c.oth).isSome then 10
   else 0)
 else if c.kd=7 then (match g c.vol with
  |none=>9
  |some _=>0)
 else 0
end
section
variable{α:Type}{z:α}{g g':GO α}{a b c:Cmd α}{nm:LU}
def aGm(c:Cmd α):Prop:=c.kd=1∨c.kd=2∨c.kd=3
theorem aDb(hc:aGm c)(nm:LU):stepG z g c nm=if c.kd≠1/\nm=c.vol then (g nm).map λv=>v.write c.p c.n (aFd z c)else g nm:=by
 unfold stepG;rcases hc with k|k|k
 ·rw[Qe oM,Qe oM,Qe oM,Qe oM,Qe (λh=>h.1 k)]
 ·rw[Qf (.inl k)];exact aEa
 ·rw[Qf (.inr k)];exact aEa
end
section
variable{α:Type}{z:α}{a b:Cmd α}
theorem tQ{c:Cmd α}(h:c.valid=true):(1<=c.kd/\c.kd<=7)/\(c.kd≠4->bC c.vol=true)/\(c.kd=6->bC c.oth=true):=by
 unfold Cmd.valid at h;simp only[Qd]at h;have hk:=h.2.2;unfold Cmd.aJj at hk;by_cases k1:c.kd=1
 ·rw[Qf k1]at hk;simp only[Qd]at hk;exact⟨oM,λ_=>hk.1,λk=>by omega⟩
 ·rw [Qe k1]at hk;by_cases k2:c.kd=2
  ·rw[Qf k2]at hk;simp only[Qd]at hk;exact⟨oM,λ_=>hk.1,λk=>by omega⟩
  ·rw [Qe k2]at hk;by_cases k3:c.kd=3
   ·rw[Qf k3]at hk;simp only[Qd]at hk;exact⟨oM,λ_=>hk.1,λk=>by omega⟩
   ·rw [Qe k3]at hk;by_cases k4:c.kd=4
    ·exact⟨oM,λk=>absurd k4 k,λk=>by omega⟩
    ·rw [Qe k4]at hk;by_cases k5:c.kd=5
     ·rw[Qf k5]at hk;simp only[Qd]at hk;exact⟨oM,λ_=>hk.1,λk=>by omega⟩
     ·rw [Qe k5]at hk;by_cases k6:c.kd=6
      ·rw[Qf k6]at hk;simp only[Qd]at hk;exact⟨oM,λ_=>hk.1,λ_=>hk.2.1⟩
      ·rw[Qe k6]at hk;by_cases k7:c.kd=7
       ·rw[Qf k7]at hk;simp only[Qd]at hk;exact⟨oM,λ_=>hk.1,λk=>by omega⟩
       ·rw[Qe k7]at hk;cases hk
end
section
variable{α:Type}{z:α}{s s' s1 s2 s12 s21:MSt α}{a b c:Cmd α}
end
theorem VL{N:Nat}{v:Vol}(h:v.ok N){b:Int}(hb:¬ (0<=b/\b<v.n)):aF v.l b=none:=by
 unfold aF;rw[Option.map_eq_none_iff,List.find?_eq_none];intro x hx;have h1:=h.ins x hx;obtain⟨c1,c2,_⟩:=(aB x).1 (aL h.valid x hx);simp only[hits,Qd,Qc];omega
section
variable{α:Type}{z:α}{s s':MSt α}{a b c:Cmd α}
theorem JO(hF:s.F.ok)(nm:LU)(p:Int)(h0:0<=p):vF z s nm p=match xZ (obS s) nm with
  |none=>z
  |some v=>(v.c p.toNat).getD z:=by
 rw[show xZ (obS s) nm=(aN s.F.vs nm).map (obV s) from Jk s nm _];unfold vF aX
 cases hv:aN s.F.vs nm with
 |none=>rfl
 | some v=>
  simp only[Option.map_some];have hok:=hF.vol v (aC hv).1;show _=((aF v.l ((p.toNat:Nat):Int)).map λx=>s.D x.toNat).getD z;rw[Int.toNat_of_nonneg h0];by_cases q:inB p 1 v.n=false
  ·rw [Qf q,VL hok λhb=>by
    have:inB p 1 v.n=true:=(iK _ _ _).2 oM;rw[q]at this
    cases this]
   rfl
  ·rw[Qe q,lJ];simp only;cases fI v.l p <;> rfl
theorem DV(h:c.valid=true)(k:c.kd=1):0<=c.p/\1<=c.n/\c.n<=16:=by
 unfold Cmd.valid at h;simp only[Qd]at h;have hk:=h.2.2;unfold Cmd.aJj at hk;rw[Qf k]at hk;simp only[Qd,lK,Qc]at hk;omega
end
section
variable{α:Type}{z:α}{s s' t:MSt α}{c:Cmd α}{m m':Mo α}
theorem Ay(s:MSt α)(nm:LU)(p:Int):(aX s.F nm p).2.2=match xZ (obS s) nm with
  |none=>9
  |some v=>if inB p 1 v.n=false then 2 else 0:=by
 rw[show xZ (obS s) nm=(aN s.F.vs nm).map (obV s) from Jk s nm _];unfold aX
 cases hv:aN s.F.vs nm with
 |none=>rfl
 | some v=>
  simp only[Option.map_some];show(if inB p 1 v.n=false then _ else _:Int × Bool × Int).2.2=if inB p 1 v.n=false then (2:Int)else 0
  split <;> rfl
variable[DecidableEq α]
end
theorem DX{C:List Int}{l:List E}{p:Nat}:∀{j u:Nat},u<eF C l p j-> ∃k,k<j/\exJ C l p k=false/\eF C l p k=u
 |0,u,h=>absurd h (by rw[qF];omega)
 | j+1,u,h=>by
  cases hx:exJ C l p j
  ·rw[jA hx]at h;by_cases e:u=eF C l p j
   ·exact⟨j,oM,hx,e.symm⟩
   ·obtain⟨k,h1,h2⟩:=DX (C:=C) (l:=l) (p:=p) (j:=j) (u:=u) oM;exact⟨k,oM,h2⟩
  ·rw[rX hx]at h;obtain⟨k,h1,h2⟩:=DX h;exact⟨k,oM,h2⟩
theorem WrI.less{F G:Fam}{v:Vol}{p n m j:Nat}(h:WrI F v p n j G)(h2:m<=n):WrI F v p m j G:=by
 obtain⟨l,h1,h3,h4⟩:=h.get;refine⟨h.ok,h.N,⟨l,h1,h3,?_⟩,h.oth,h.room⟩;rw[mK]at h4 ⊢;have:=gM G.C l (p+j) (show m-j<=n-j by omega);omega
theorem OY{C:List Int}{l:List E}{p j:Nat}{S:List Int}(T:List Int)(hu:eF C l p j<=S.length)(b:Int):newAt C l p (S++T) j b=newAt C l p S j b:=by
 unfold newAt;by_cases hb:(p:Int)<=b/\b<(p:Int)+j
 ·rw[Qf hb,Qf hb];congr 1;cases hx:exJ C l p (b-p).toNat
  ·rw[nH hx,nH hx];have h1:=gM C l p (show(b-p).toNat+1<=j by omega);rw[jA hx]at h1;rw[Ql,Ql,Ym oM]
  ·rw[Am hx,Am hx]
 ·rw[Qe hb,Qe hb]
structure zL(F:Fam)(v:Vol)(p n j:Nat)(S:List Int)(G:Fam)(L:List E):Prop where
 pw:PW F v p j S
 len:S.length=eF F.C v.l p j
 wr:WrJ F v p j S j G L
 wi:WrI F v p n j G
 le:((p+n:Nat):Int)<=v.n
 room:jN F.C v.l p n<=aY F.C v+dC F
section
variable{F:Fam}{v:Vol}{p n j:Nat}{S T:List Int}{G:Fam}{L:List E}
theorem zL.start(h:PW F v p n T):zL F v p n 0 [] F v.l:=by
 have h0:PW F v p 0 []:=⟨h.sound,h.once,h.get,by have:=h.le;omega,by
  have h1:=h.room;rw[mK]at h1 ⊢;have:=gM F.C v.l p (show 0<=n by omega)
  omega,sM,List.nodup_nil,by rw[qF];exact Yf _⟩
 exact⟨h0,by rw[qF];rfl,WrJ.start h0,(WrJ.start h).wi,h.le,h.room⟩
theorem zL.ex(h:zL F v p n j S G L):exB G.C L ((p+j:Nat):Int)=exJ F.C v.l p j:=by
 have hpj:aF L ((p+j:Nat):Int)=aF v.l ((p+j:Nat):Int):=by rw[h.wr.at',kC oM]
 unfold exJ exB;rw[hpj]
 cases hs:aF v.l ((p+j:Nat):Int)with
 |none=>rfl
 | some s=>
  show bN G.C s.toNat=bN F.C s.toNat;unfold bN;rw[h.wr.same h.pw (Ye j) hs (by rw[hpj,hs])]
theorem zL.skip(h:zL F v p n j S G L)(hj:j<n)(he:exJ F.C v.l p j=true):zL F v p n (j+1) S G L:=by
 have hle:=h.le;have hx:exB G.C L ((p+j:Nat):Int)=true:=by rw[h.ex,he]
 have hp:PW F v p (j+1) S:=⟨h.pw.sound,h.pw.once,h.pw.get,oM,by
  have:=h.pw.room;rw[mK]at this ⊢;rw[rX he]
  exact this,h.pw.fresh,h.pw.nodup,by rw[rX he];exact h.pw.much⟩
 refine⟨hp,by rw[rX he];exact h.len,⟨?_,h.wr.get,λb=> ?_,h.wr.num⟩,h.wi.skip hj h.wr.get hx,hle,h.room⟩
 ·exact(h.wi.skip hj h.wr.get hx).less oM
 ·rw [h.wr.at'];by_cases hb:b=((p+j:Nat):Int)
  ·subst hb;obtain⟨s,h1,h2,_⟩:=kT S he;rw[kC oM,lU oM,h1,h2]
  ·unfold newAt;by_cases hb2:(p:Int)<=b/\b<(p:Int)+j
   ·rw[Qf hb2,Qf oM]
   ·rw[Qe hb2,Qe oM]
theorem zL.fresh(h:zL F v p n j S G L){s:Nat}(hs:s<G.N)(hz:G.C.getD s 0=0):F.C.getD s 0=0/\(s:Int)∉S:=by
 have hN:=h.wr.wi.N;have hL:cnt L s=0:=by
  have h1:=Bb h.wr.wi.ok (v:=v.set L) h.wr.get s hs;have h2:cnt (v.set L).l s=cnt L s:=rfl;have h3:=(bU L s).1;omega
 have hno:∀b,aF L b≠some (s:Int):=λb hb=>by
  have:=tF h.wr.lok.valid (show aF (v.set L).l b=some (s:Int) from hb) oM;have h2:cnt (v.set L).l ((s:Int).toNat)=cnt L s:=by rw[Int.toNat_natCast];rfl
  omega
 have hn:=h.wr.num s oM;refine⟨?_,λhm=> ?_⟩
 ·have h3:=Bb h.pw.sound.ok h.pw.get s oM;by_cases hc:cnt v.l s=0
  ·omega
  ·exfalso;have hex:∃b,aF v.l b=some (s:Int):=by
    refine Classical.byContradiction λhq=>hc (MQ h.pw.vok.valid λb hb=>hq ⟨b,hb⟩)
   obtain⟨b,hb⟩:=hex;have h4:=JH h.pw.vok.valid (h.pw.once v (aC h.pw.get).1) s;have h5:=(bU v.l s).1;have hF:F.C.getD s 0=1:=oM
   apply hno b
   rw[h.wr.at'];by_cases hr:(p:Int)<=b/\b<(p:Int)+j
   ·obtain ⟨k,hk⟩:∃k:Nat,b=((p+k:Nat):Int):=⟨(b-p).toNat,oM⟩;subst hk;have hx:exJ F.C v.l p k=true:=by
     unfold exJ exB;rw[hb];show bN F.C (s:Int).toNat=true;unfold bN;rw[Int.toNat_natCast,hF];rfl
    obtain⟨t,t1,t2,_⟩:=kT S hx;rw[lU oM,t2,<-t1,hb]
   ·rw[kC hr,hb]
 ·obtain⟨u,hu,he⟩:=List.getElem_of_mem hm;obtain⟨k,hk,hx,hk2⟩:=DX (show u<eF F.C v.l p j by rw[<-h.len];exact hu)
  apply hno ((p+k:Nat):Int)
  rw[h.wr.at',lU hk,nH hx,hk2,Ql,Qa hu,he];rfl
theorem zL.step(h:zL F v p n j S G L)(hj:j<n)(he:exJ F.C v.l p j=false){s:Nat}(hs:s<G.N)(hz:G.C.getD s 0=0):
  ∃G' L',(aV G v.nm ⟨((p+j:Nat):Int),1,s⟩).1=G'/\(aV G v.nm ⟨((p+j:Nat):Int),1,s⟩).2.2=0/\zL F v p n (j+1) (S++[(s:Int)]) G' L':=by
 have hle:=h.le;have hN:=h.wr.wi.N;have hx:exB G.C L ((p+j:Nat):Int)=false:=by rw[h.ex,he]
 obtain ⟨f1,f2⟩:=h.fresh hs hz;have hp:PW F v p (j+1) (S++[(s:Int)]):=⟨h.pw.sound,h.pw.once,h.pw.get,oM,by
  have h1:=h.room;rw[mK]at h1 ⊢;have:=gM F.C v.l p (show j+1<=n by omega);omega,λx hx=>by
   rw[Qn,List.mem_singleton]at hx;rcases hx with hx|rfl
   ·exact h.pw.fresh x hx
   ·exact⟨oM,oM,by rw[Int.toNat_natCast];exact f1⟩,by
   rw[List.nodup_append];refine⟨h.pw.nodup,sM,λa ha b hb=> ?_⟩;rw[List.mem_singleton]at hb;subst hb
   exactλe=>f2 (e ▸ ha),by rw[jA he,Qg,h.len];exact Ye _⟩
 have hw:WrJ F v p (j+1) (S++[(s:Int)]) j G L:=⟨h.wi.less oM,h.wr.get,λb=>by rw[h.wr.at',OY _ (by rw[h.len];exact Ye _)],h.wr.num⟩;obtain⟨G',L',h1,h2,h3⟩:=hw.step hp oM;have hpk:bK F.C v.l p (S++[(s:Int)]) j=s:=by
  rw[nH he,<-h.len,Ql,List.getElem?_append_right (Ye _)];simp
 rw[hpk]at h1 h2;obtain⟨G2,k1,k2,k3⟩:=h.wi.step hj h.wr.get hx hle hs hz;obtain rfl:G2=G':=by rw[<-k1,<-h1]
 exact⟨G2,L',h1,h2,hp,by rw[jA he,Qg,h.len];rfl,h3,k3,hle,h.room⟩
end
def eZ(w:Wd)(B:Nat)(v:Value)(l:List Bk):Prop:=w.ownsRow B 56 8 v l.length (l.flatMap Bk.cells)
theorem eZ.keep{w w':Wd}{B:Nat}{v:Value}{l:List Bk}(h:eZ w B v l)(hb:Below w w w'):eZ w' B v l:=
 World.ownsRow.kept h (row:=none) ⟨hb.os,hb.tape,hb.output,hb.size,λk hk _=>hb.block k hk⟩ (by cases hv:v.ownBlock <;> simp)
theorem eZ.rd{w:Wd}{B:Nat}{v:Value}{l:List Bk}(h:eZ w B v l)(hl:l.length<=1000000):∃a c,v= .slice a l c/\RdB w a l:=by
 rcases h.2 with ⟨rfl,hn⟩|⟨g,cap,cur,rfl,hb,hg,hn,hc,hs,ht⟩
 ·obtain rfl:=Qz hn;exact⟨_,_,rfl,sM,.inl rfl⟩
 ·refine⟨_,_,rfl,hl,.inr ⟨g,0,rfl,λk x hk=> ?_⟩⟩;have hk':k<l.length:=(Qx.1 hk).1;have c:=λj hj=>Ys (cap:=cap) h j hj;have f:=λj hj=>flat_get Bk.cells 8 (λ_=>rfl) l k x hk j hj;refine⟨?_,?_,?_,?_,?_,?_,?_,?_⟩
  ·rw[Nat.zero_add,c _ oM];exact f 0 oM
  ·rw[Nat.zero_add,c _ oM];exact f 1 oM
  ·rw[Nat.zero_add,c _ oM];exact f 2 oM
  ·rw[Nat.zero_add,c _ oM];exact f 3 oM
  ·rw[Nat.zero_add,c _ oM];exact f 4 oM
  ·rw[Nat.zero_add,c _ oM];exact f 5 oM
  ·rw[Nat.zero_add,c _ oM];exact f 6 oM
  ·rw[Nat.zero_add,c _ oM];exact f 7 oM
theorem Nw(n:Nat):(List.replicate n Bk.zero).flatMap Bk.cells=List.replicate (n*8) (.int .u8 0):=by
 induction n with
 |zero=>simp
 | succ n ih=>
  rw[List.replicate_succ,List.flatMap_cons,ih,show(n+1)*8=8+n*8 by omega,<-List.replicate_append_replicate];rfl
theorem CQ(n:Nat):(madeCells Bk.zero.v.cells (n*8)).toList=(List.replicate n Bk.zero).flatMap Bk.cells:=by
 rw[Nw]
 apply List.ext_getElem
 ·simp[madeCells]
 ·intro i h1 h2;simp only[Yt]at h2;rw[List.getElem_replicate];simp only[madeCells,Value.cells,Array.toList_map,List.getElem_map,Array.toList_range,List.getElem_range];have hi:i%8<8:=Nat.mod_lt _ oM;show(#[Value.int .u8 Bk.zero.x0,.int .u8 Bk.zero.x1,.int .u8 Bk.zero.x2,.int .u8 Bk.zero.x3,.int .u8 Bk.zero.x4,.int .u8 Bk.zero.x5,.int .u8 Bk.zero.x6,.int .u8 Bk.zero.x7]:Array Value)[i%8]! =_;generalize i%8=k at hi
  match k,hi with
  |0,_=>rfl
  |1,_=>rfl
  |2,_=>rfl
  |3,_=>rfl
  |4,_=>rfl
  |5,_=>rfl
  |6,_=>rfl
  |7,_=>rfl
theorem FR(w:Wd){ops:Array Oper}{rest:List Oper}{o:Oper}{a:Act}{Q:Exit->Act->Wd->Prop}
  (hg:o.guard=none) (l c:Operand) (t:TypeId) (hop:o.op=Op.makeSlice t l c) (h1:prog.underlying t=some (.slice 56)) (kl kc:IntKind) (n:Nat) (hl:a.eval l= .int kl n) (hc:a.eval c= .int kc n) (hn:n<=65536) (B G:Nat) (hG:w.heap.size=G) (hB:B<=G)
  (hK:∀w',eZ w' B (.slice (cw G 0) n n) (List.replicate n Bk.zero)->Below w w w'->G<w'.heap.size->wpList prog ops Q rest (a.put o.dst (.slice (cw G 0) n n)) w'):
  wpList prog ops Q (o::rest) a w:=by
 subst hG;obtain⟨i0,hi,hz0,hz1,hz2⟩:=info_parts RU;refine wpList_make_full w hg l c t hop B 56 i0 Bk.zero.v 8 h1 hi hz0 hz1 kl kc n n n hl hc rfl rfl (by rw[hz2];omega) (by unfold maxLen;omega) hB λw' ho hgr=> ?_;refine hK w' ?_ (rG hgr) ?_
 ·unfold eZ;rw[Yt,<-CQ];exact ho
 rcases ho.2 with ⟨h,_⟩|⟨g,cap,cur,h,_,hgg,_⟩
 ·cases h
 ·injection h with h;injection h with h;injection h with h;subst h;exact(Array.getElem?_eq_some_iff.1 hgg).1
theorem Tn(D:List Bk)(k:Nat)(h:k<D.length)(x:Bk):
  ((((((((D.flatMap Bk.cells).set (k*8) (.int .u8 x.x0)).set (k*8+1) (.int .u8 x.x1)).set (k*8+2) (.int .u8 x.x2)).set (k*8+3) (.int .u8 x.x3)).set (k*8+4) (.int .u8 x.x4)).set (k*8+5) (.int .u8 x.x5)).set (k*8+6) (.int .u8 x.x6)).set (k*8+7) (.int .u8 x.x7)=(D.set k x).flatMap Bk.cells:=by
 have e1:D=D.take k++D[k]::D.drop (k+1):=by rw[<-List.drop_eq_getElem_cons h,List.take_append_drop]
 have e2:D.set k x=D.take k++x::D.drop (k+1):=by rw[List.set_eq_take_append_cons_drop,Qf h]
 obtain⟨A,hA⟩:∃A,(D.take k).flatMap Bk.cells=A:=⟨_,rfl⟩;have hl:A.length=k*8:=by rw[<-hA,kM Bk.cells 8 (λ_=>rfl),Yp,Yv oM]
 have e3:D.flatMap Bk.cells=A++(D[k].cells++(D.drop (k+1)).flatMap Bk.cells):=by
  conv=>lhs;rw[e1]
  rw[List.flatMap_append,hA,List.flatMap_cons]
 have hs:∀(c:List Value) (j:Nat) (v:Value),(A++c).set (k*8+j) v=A++c.set j v:=λc j v=>by
  rw[List.set_append_right _ _ oM,hl,Nat.add_sub_cancel_left]
 have h0:∀(c:List Value) (v:Value),(A++c).set (k*8) v=A++c.set 0 v:=λc v=>hs c 0 v;rw[e2,e3,List.flatMap_append,hA,List.flatMap_cons,h0,hs,hs,hs,hs,hs,hs,hs];rfl
theorem eZ.put{w:Wd}{B g c n:Nat}{M:List Bk}(hn:n=M.length)(h:eZ w B (.slice (cw g 0) n c) M)(k:Nat)(hk:k<M.length)(x:Bk)(w':Wd)
  (hw:w'=(((((((w.setCell (cw g (k*8)) (.int .u8 x.x0)).setCell (cw g (k*8+1)) (.int .u8 x.x1)).setCell (cw g (k*8+2)) (.int .u8 x.x2)).setCell (cw g (k*8+3)) (.int .u8 x.x3)).setCell (cw g (k*8+4)) (.int .u8 x.x4)).setCell (cw g (k*8+5)) (.int .u8 x.x5)).setCell (cw g (k*8+6)) (.int .u8 x.x6)).setCell (cw g (k*8+7)) (.int .u8 x.x7)):
  eZ w' B (.slice (cw g 0) n c) (M.set k x)/\w.grownBy w' (some g):=by
 subst hn;obtain⟨s1,g1⟩:=World.ownsRow.stored h (k*8) (.int .u8 x.x0);obtain⟨s2,g2⟩:=s1.stored (k*8+1) (.int .u8 x.x1);obtain⟨s3,g3⟩:=s2.stored (k*8+2) (.int .u8 x.x2);obtain⟨s4,g4⟩:=s3.stored (k*8+3) (.int .u8 x.x3);obtain⟨s5,g5⟩:=s4.stored (k*8+4) (.int .u8 x.x4);obtain⟨s6,g6⟩:=s5.stored (k*8+5) (.int .u8 x.x5);obtain⟨s7,g7⟩:=s6.stored (k*8+6) (.int .u8 x.x6);obtain⟨s8,g8⟩:=s7.stored (k*8+7) (.int .u8 x.x7);rw[Tn M k hk x]at s8;subst hw;refine⟨?_,((((((g1.next g2).next g3).next g4).next g5).next g6).next g7).next g8⟩;unfold eZ;rw[List.length_set];exact s8
theorem eZ.cells{w:Wd}{B g c n:Nat}{M:List Bk}(hn:n=M.length)(h:eZ w B (.slice (cw g 0) n c) M)(k:Nat)(hk:k<M.length)(j:Nat)(hj:j<8):∃u,w (cw g (k*8+j))=some u/\w.frozen? (cw g (k*8+j))=false:=by
 subst hn;have hl:(M.flatMap Bk.cells).length=M.length*8:=kM Bk.cells 8 (λ_=>rfl) M;refine⟨(M.flatMap Bk.cells)[k*8+j]'(by omega),?_,World.ownsRow.frozenAt h _⟩;rw[Ys h _ oM,Qa oM]
theorem Xi(f:Nat->Bk)(m j:Nat)(h:j<m):((List.range j).map f++List.replicate (m-j) Bk.zero).set j (f j)=(List.range (j+1)).map f++List.replicate (m-(j+1)) Bk.zero:=by
 obtain⟨r,hr⟩:∃r,m-j=r+1:=⟨m-j-1,oM⟩;rw[hr,show m-(j+1)=r by omega,List.set_append_right _ _ sM,List.range_succ,Yz,List.replicate_succ];simp
theorem TV{F:Fam}{nm:LU}(p n:Int)(h:aN F.vs nm=none):jO F nm p n=9:=by
 unfold jO dW;rw[h];simp
theorem Xd{F:Fam}{nm:LU}{v:Vol}(p n:Int)(h:aN F.vs nm=some v)(hn:¬ (1<=n/\n<=16)):jO F nm p n=1:=by
 unfold jO dW;rw[h];simp[hn]
theorem Xc{F:Fam}{nm:LU}{v:Vol}(p n:Int)(h:aN F.vs nm=some v)(hn:1<=n/\n<=16):jO F nm p n=fM F nm p n:=by
 unfold jO dW;rw[h];simp[hn]
theorem MK(F:Fam)(q:Int)(gv:Value)(nm:LU)(p n:Int)(w:Wd)(hF:F.ok)(hs:∀v∈F.vs,v.l.length<=9000)(h:cB w gv F)(hnm:nm.length<=maxLen)(hq:jO F nm p n=q):
  ep 97 #[gv,nmV nm,p,n] w (RB w q):=by
 have HFM:=h;obtain⟨a,c,ts,rfl,hr,hl,hts,_⟩:=h;have HH:=hD (QM.init w _ _ F HFM);have HR:=hD hr;have HF:=hD hF;have HS:=hD hs
 cases hg:aN F.vs nm with
 | none=>
  rw[TV p n hg]at hq;subst hq;have HAT:=hD (mG hts hg);clear hg hr hl hts hF hs HFM;go_enter func97,ntmps97;have b0:=HH.o.b0;have b1:=HH.o.b1;go_wp2_with fail;refine(gV F.N ts nm a c _ (HR.o.keep HH.o.B) _ HAT.o).m ?_;rintro e w1 ⟨rfl,hb⟩;exact VU
 | some v=>
  obtain ⟨k,HAT⟩:∃k:Nat,Hid (atC ts nm=k):=by
   obtain⟨k,_,hat,_,_⟩:=gK hts hg;exact⟨k,hD hat⟩
  by_cases hn:1<=n/\n<=16
  ·rw[Xc p n hg hn]at hq;have HQ:=hD hq;obtain⟨n1,n2⟩:=hn;clear hg hr hl hts hF hs HFM hq;go_enter func97,ntmps97;have b0:=HH.o.b0;have b1:=HH.o.b1;go_wp2_with fail;refine(gV F.N ts nm a c _ (HR.o.keep HH.o.B) _ HAT.o).m ?_;rintro e w1 ⟨rfl,hb⟩;have HH:=hD (HH.o.aIx hb);clear hb b0 b1;have b0:=HH.o.b0;have b1:=HH.o.b1;go_wp2_with fail;refine(TN F q _ nm p n _ HF.o HS.o HH.o.fam hnm HQ.o).m ?_;rintro e w2 ⟨rfl,hb⟩;exact VU
  ·rw [Xd p n hg hn]at hq;subst hq;clear hg hr hl hts hF hs HFM;have hc:n<1∨(1<=n/\16<n):=oM
   clear hn;rcases hc with hn|⟨hn,hn2⟩
   all_goals
    go_enter func97,ntmps97;have b0:=HH.o.b0;have b1:=HH.o.b1;go_wp2_with fail;refine(gV F.N ts nm a c _ (HR.o.keep HH.o.B) _ HAT.o).m ?_;rintro e w1 ⟨rfl,hb⟩;have hB:=HH.o.B.on hb;clear hb b0 b1;go_wp2_with fail;go_ret;exact⟨rfl,hB⟩
theorem TL(F G:Fam)(L:List E)(e0:Int)(gv:Value)(nm:LU)(x:E)(w:Wd)(hF:F.ok)(h:cB w gv F)(hnm:nm.length<=maxLen)(hx:x.wf)(he:aV F nm x=(G,L,e0)):
  ep 139 #[gv,nmV nm,.agg #[x.a,x.n,x.s]] w (JU w G L e0):=by
 have:=Ov F gv nm x w hF h hnm hx
 rwa [he]at this
structure WB(w0 W:Wd)(u v:Value)(F:Fam):Prop where
 gb:Bx W w0 28 u v
 famr:cB W (.agg #[u,v]) F
 r:Bx W (cf w0) 28 oo sn
 B:Below w0 w0 W
theorem WB.aIx{w0 W W':Wd}{u v:Value}{F:Fam}(h:WB w0 W u v F)(hb:Below W W W'):WB w0 W' u v F:=⟨h.gb.aIx hb,h.famr.keep hb,h.r.aIx hb,h.B.on hb⟩
theorem WB.put{w0 W:Wd}{u v x y:Value}{F G:Fam}(h:WB w0 W u v F)(hg:cB W (.agg #[x,y]) G):WB w0 (fP W w0 x y) x y G:=
 ⟨h.gb.put x y,h.gb.famR hg,h.r.far oM x y,(h.B.setCell sO _).setCell sO _⟩
theorem WB.init(w:Wd)(u v:Value)(F:Fam)(h:cB w (.agg #[u,v]) F)(W:Wd)(hW:W=(w.alloc (cq #[u,v] 28)).alloc (cq #[oo,sn] 28)):WB w W u v F:=by
 subst hW;have hk:=((bQ w).aIw (cq #[u,v] 28)).aIw (cq #[oo,sn] 28);exact⟨(Bx.new w _ rfl u v _).aIx (bR.aIw _),h.keep hk,Bx.new _ _ sM _ _ _,hk⟩
abbrev slotL(i:Nat):Lit:= .int .i64 (i:Int)
def Cc(p:Nat × Bk):Lit × DataW Value:=(slotL p.1,.held p.2.v)
def AZ(es:List (Nat × Bk)):DataW Value:= .map (es.map Cc)
def Js(v:Nat × Bk):List (Nat × Bk)->List (Nat × Bk)
 | []=>[v]
 |w::r=>if v.1<w.1 then v::w::r else w::Js v r
def EW(es:List (Nat × Bk))(i:Nat):List (Nat × Bk):=es.filter λw=> !(w.1==i)
def UB(es:List (Nat × Bk))(i:Nat):Bk:=((es.find? λw=>w.1==i).map Prod.snd).getD Bk.zero
theorem Ku(i j:Nat):(slotL i).before (slotL j)=decide (i<j):=by
 show decide ((i:Int)<(j:Int))=_;rw[Qw,Qc,Qc];omega
theorem Gz(i j:Nat):(slotL i).sameKey (slotL j)=(i==j):=by
 unfold Lit.sameKey;rw[Qw,beq_iff_eq];simp
 try omega
theorem Zg(v:Nat × Bk)(es:List (Nat × Bk)):DataW.insert (Cc v) (es.map Cc)=(Js v es).map Cc:=by
 induction es with
 |nil=>rfl
 | cons w r ih=>
  have h:(Cc v).1.before (Cc w).1=decide (v.1<w.1):=Ku _ _;rw[List.map_cons];unfold DataW.insert Js;rw[h];by_cases hb:v.1<w.1
  ·rw[Qf (by simpa using hb),Qf hb];rfl
  ·rw[Qe (by simpa using hb),Qe hb,ih];rfl
theorem MG(es:List (Nat × Bk))(i:Nat):(es.map Cc).filter (λq=> !q.1.sameKey (slotL i))=(EW es i).map Cc:=by
 unfold EW;rw[List.filter_map];congr 1;exact List.filter_congr λw _=>congrArg Bool.not (Gz _ _)
theorem UY(es:List (Nat × Bk))(i:Nat)(x:Bk):(AZ es).put (slotL i) (.held x.v)=AZ (Js (i,x) (EW es i)):=by
 show DataW.map (DataW.insert (slotL i,.held x.v) ((es.map Cc).filter λq=> !q.1.sameKey (slotL i)))=_;rw[MG];exact congrArg DataW.map (Zg (i,x) _)
theorem Zn(es:List (Nat × Bk))(i:Nat):(AZ es).atKey (slotL i) (.held Bk.zero.v)= .held (UB es i).v:=by
 have h0:(AZ es).atKey (slotL i) (.held Bk.zero.v)=(((es.map Cc).find? (λp=>p.1.sameKey (slotL i))).map Prod.snd).getD (.held Bk.zero.v):=by
  unfold AZ DataW.atKey;simp only;generalize (es.map Cc).find? (λp=>p.1.sameKey (slotL i))=o;cases o <;> rfl
 rw [h0];unfold UB;rw[List.find?_map];have h:((λp:Lit × DataW Value=>p.1.sameKey (slotL i)) ∘ Cc)=λw:Nat × Bk=>w.1==i:=by
  funext w
  exact Gz _ _
 rw[h];cases es.find? λw=>w.1==i <;> rfl
theorem sP(v:Nat × Bk)(es:List (Nat × Bk)):(Js v es).Perm (v::es):=by
 induction es with
 |nil=>exact List.Perm.refl _
 | cons w r ih=>
  unfold Js
  split
  ·exact List.Perm.refl _
  ·exact(ih.cons w).trans (List.Perm.swap v w r)
theorem Et{p:Nat × Bk}{es:List (Nat × Bk)}{i:Nat}:p∈EW es i↔p∈es/\p.1≠i:=by simp[EW]
theorem UL{P:Nat × Bk->Bool}{l l':List (Nat × Bk)}(h:l.Perm l')(hu:∀a∈l,∀b∈l,P a=true->P b=true->a=b):l.find? P=l'.find? P:=by
 cases h1:l.find? P with
 | none=>
  rw[eq_comm,List.find?_eq_none];intro x hx;exact List.find?_eq_none.1 h1 x (h.mem_iff.2 hx)
 | some a=>
  cases h2:l'.find? P with
  |none=>exact absurd (List.find?_some h1) (List.find?_eq_none.1 h2 a (h.mem_iff.1 (List.mem_of_find?_eq_some h1)))
  |some b=>rw[hu a (List.mem_of_find?_eq_some h1) b (h.mem_iff.2 (List.mem_of_find?_eq_some h2)) (List.find?_some h1) (List.find?_some h2)]
theorem YO(es:List (Nat × Bk))(i:Nat)(x:Bk)(j:Nat)(hn:(es.map Prod.fst).Nodup):UB (Js (i,x) (EW es i)) j=if j=i then x else UB es j:=by
 have hu:∀a∈Js (i,x) (EW es i),∀b∈Js (i,x) (EW es i),(a.1==j)=true->(b.1==j)=true->a=b:=by
  intro a ha b hb h1 h2;have ha:=(sP _ _).mem_iff.1 ha;have hb:=(sP _ _).mem_iff.1 hb;rw[Yl,Et]at ha hb;have h1:a.1=j:=by simpa using h1
  have h2:b.1=j:=by simpa using h2
  rcases ha with rfl|ha
  ·rcases hb with rfl|hb
   ·rfl
   ·exact absurd (h2.trans h1.symm) hb.2
  ·rcases hb with rfl|hb
   ·exact absurd (h1.trans h2.symm) ha.2
   ·have hq:=List.pairwise_map.1 hn;have key:∀{l:List (Nat × Bk)},l.Pairwise (λp q=>p.1≠q.1)->a∈l->b∈l->a=b:=by
     intro l hl
     induction l with
     |nil=>intro h;simp at h
     | cons y r ih=>
      obtain⟨p1,p2⟩:=Yk.1 hl;intro h3 h4;rcases Yl.1 h3 with rfl|h3
      ·rcases Yl.1 h4 with rfl|h4
       ·rfl
       ·exact absurd (h1.trans h2.symm) (p1 b h4)
      ·rcases Yl.1 h4 with e4|h4
       ·exact absurd (h2.trans h1.symm) (e4 ▸ p1 a h3)
       ·exact ih p2 h3 h4
    exact key hq ha.1 hb.1
 unfold UB;rw[UL (sP _ _) hu,List.find?_cons];by_cases e:j=i
 ·subst e;rw[Qf rfl];simp
 ·rw[Qe e];have e2:(i==j)=false:=by simpa using λh=>e h.symm
  simp only[e2];congr 2;unfold EW;rw[List.find?_filter];congr 1
  funext w
  by_cases hw:w.1=j
  ·have:w.1≠i:=λh=>e (hw ▸ h);simp[hw,e]
  ·simp[hw]
abbrev XY(w:Wd)(b:Nat)(es:List (Nat × Bk)):Prop:=w.ownsMap prog 3 lW b es.length (AZ es)
theorem Pw{w:Wd}{b n:Nat}{es:List (Nat × Bk)}(h:w.ownsMap prog 3 lW b n (AZ es)):XY w b es:=by
 obtain⟨cs,clock,hb,F,hs,hDd⟩:=h;refine⟨cs,clock,hb,F,?_,hDd⟩;have h1:=congrArg Maps.size hDd;rw[Maps.size_eq]at h1;have h2:Maps.size (AZ es)=es.length:=by show(es.map Cc).length=_;simp
 rw[h2,length_sorted]at h1;simp at h1;omega
def oV(w:Wd)(b:Nat)(D:Nat->Bk):Prop:= ∃es:List (Nat × Bk),XY w b es/\(es.map Prod.fst).Nodup/\(∀p∈es,p.1<65536)/\ ∀i,UB es i=D i
theorem Zf{es:List (Nat × Bk)}(hn:(es.map Prod.fst).Nodup)(hb:∀p∈es,p.1<65536):es.length<=65536:=by
 have:=Lc 65536 (es.map Prod.fst) hn λx hx=>by
  obtain⟨p,hp,rfl⟩:=Yd.1 hx;exact hb p hp
 rwa [Yy]at this
theorem oV.aIx{w w':Wd}{b:Nat}{D:Nat->Bk}(h:oV w b D)(hb:Below w w w'):oV w' b D:=by
 obtain⟨es,h1,h2⟩:=h;exact⟨es,h1.kept (row:=none) ⟨hb.os,hb.tape,hb.output,hb.size,λk hk _=>hb.block k hk⟩ sM,h2⟩
theorem oV.grown{w w':Wd}{b:Nat}{D:Nat->Bk}{row:Option Nat}(h:oV w b D)(hg:w.grownBy w' row)(hne:some b≠row):oV w' b D:=by
 obtain⟨es,h1,h2⟩:=h;exact⟨es,World.ownsMap.kept h1 hg hne,h2⟩
theorem oV.noCell{w:Wd}{b:Nat}{D:Nat->Bk}(h:oV w b D)(i:Nat):w (cw b i)=none:=by
 obtain⟨es,⟨cs,clock,hb,_⟩,_⟩:=h;simp[World.cell?,hb]
theorem GA:Keyed prog 3:=int_keyed underlying3
theorem Ro{k:Nat}(h:k<9223372036854775808):keyOf prog 3 k=some (slotL k):=by
 refine keyOf_int_mk (k:=3) underlying3 (a:=(k:Int)) ?_;simp[Lit.wf,IntKind.min,IntKind.max,IntKind.signed,IntKind.bits];omega
theorem aAd(w:Wd):(zeroValue 56).run prog w= .ok Bk.zero.v w:=kR
theorem oV.look{w:Wd}{b:Nat}{D:Nat->Bk}(h:oV w b D){i:Nat}(hi:i<65536):
  (Instr.lookup 85 (.map (some b)) i false).run prog w= .ok (D i).v w:=by
 obtain⟨es,h1,_,_,h2⟩:=h;obtain⟨v,ps,hrun,hv⟩:=h1.lookup GA underlying85 (aAd w) (lV _) (Ro (k:=i) oM);rw[Zn,lV,h2]at hv;simp only[Option.some.injEq,Prod.mk.injEq,DataW.held.injEq]at hv;rw[hrun,hv.1]
structure Bx3(W:Wd)(T:Nat)(t:TypeId)(u v x:Value):Prop where
 c0:W (cw T 0)=some u
 c1:W (cw T 1)=some v
 c2:W (cw T 2)=some x
 f0:W.frozen? (cw T 0)=false
 f1:W.frozen? (cw T 1)=false
 f2:W.frozen? (cw T 2)=false
 c3:∀i,3<=i->W (cw T i)=none
 ty:jH W T t
section
variable{W W':Wd}{T R:Nat}{t:TypeId}{u v x:Value}
theorem Bx3.lt(h:Bx3 W T t u v x):T<W.heap.size:=Qj W (cw T 0) h.c0
theorem Bx3.aIx(h:Bx3 W T t u v x)(hb:Below W W W'):Bx3 W' T t u v x:=
 ⟨hb.keep h.c0,hb.keep h.c1,hb.keep h.c2,hb.aJc h.c0 h.f0,hb.aJc h.c1 h.f1,hb.aJc h.c2 h.f2,λi hi=>(hb.cell (p:=(cw T i)) h.lt).trans (h.c3 i hi),h.ty.keep hb⟩
theorem Bx3.new(V:Wd)(B:Nat)(hB:V.heap.size=B)(x y z:Value)(t:TypeId):Bx3 (V.alloc (cq #[x,y,z] t)) B t x y z:=by
 subst hB;refine⟨sM,sM,sM,sM,sM,sM,λi hi=> ?_,_,_,Yn⟩;rw[World.cell?_alloc_new];simp;omega
theorem Bx3.grown{row:Option Nat}(h:Bx3 W T t u v x)(hg:W.grownBy W' row)(hne:row≠some T):Bx3 W' T t u v x:=by
 have hb:=hg.block T h.lt (λe=>hne e.symm);have hc:∀i,W' (cw T i)=W (cw T i):=λi=>World.cell?_of_block hb;have hf:∀i,W'.frozen? (cw T i)=W.frozen? (cw T i):=λi=>World.frozen?_of_block hb;obtain⟨cs,s,hs⟩:=h.ty;exact⟨(hc 0).trans h.c0,(hc 1).trans h.c1,(hc 2).trans h.c2,(hf 0).trans h.f0,(hf 1).trans h.f1,(hf 2).trans h.f2,λi hi=>(hc i).trans (h.c3 i hi),cs,s,hb.trans hs⟩
theorem Bx3.put0(h:Bx3 W T t u v x)(y:Value):Bx3 (W.setCell (cw T 0) y) T t y v x:=
 ⟨Qi _ _ _ h.c0,by rw[Qk _ _ _ _ sM];exact h.c1,by rw[Qk _ _ _ _ sM];exact h.c2,by rw[Qb];exact h.f0,by rw[Qb];exact h.f1,by rw[Qb];exact h.f2,λi hi=>dL oM (h.c3 i hi),h.ty.set _ _⟩
theorem Bx3.put1(h:Bx3 W T t u v x)(y:Value):Bx3 (W.setCell (cw T 1) y) T t u y x:=
 ⟨by rw[Qk _ _ _ _ sM];exact h.c0,Qi _ _ _ h.c1,by rw[Qk _ _ _ _ sM];exact h.c2,by rw[Qb];exact h.f0,by rw[Qb];exact h.f1,by rw[Qb];exact h.f2,λi hi=>dL oM (h.c3 i hi),h.ty.set _ _⟩
theorem Bx3.put2(h:Bx3 W T t u v x)(y:Value):Bx3 (W.setCell (cw T 2) y) T t u v y:=
 ⟨by rw[Qk _ _ _ _ sM];exact h.c0,by rw[Qk _ _ _ _ sM];exact h.c1,Qi _ _ _ h.c2,by rw[Qb];exact h.f0,by rw[Qb];exact h.f1,by rw[Qb];exact h.f2,λi hi=>dL oM (h.c3 i hi),h.ty.set _ _⟩
end
structure MX(W:Wd)(X:Nat):Prop where
 ty:jH W X 90
 noi:∀i k c,W (cw X i)≠some (.int k c)
theorem Bx3.mx{W:Wd}{X:Nat}{u v x:Value}(h:Bx3 W X 90 u v x)(hu:∀k c,u≠ .int k c)(hv:∀k c,v≠ .int k c)(hx:∀k c,x≠ .int k c):MX W X:=by
 refine⟨h.ty,λi k c=> ?_⟩
 match i with
 |0=>rw[h.c0];intro e;exact hu k c (Qv e)
 |1=>rw[h.c1];intro e;exact hv k c (Qv e)
 |2=>rw[h.c2];intro e;exact hx k c (Qv e)
 |i+3=>rw[h.c3 _ oM];intro e;cases e
theorem MX.lt{W:Wd}{X:Nat}(h:MX W X):X<W.heap.size:=by
 obtain⟨cs,s,h⟩:=h.ty;exact(Array.getElem?_eq_some_iff.1 h).1
theorem aIf:3≠90:=dE
theorem aIe:157≠90:=dE
theorem aId:87≠90:=dE
section
variable{W W':Wd}{X:Nat}
variable(hX:MX W X)(hg:W.grownBy W' (some X))
include hX hg
theorem MX.cell{b i:Nat}{v:Value}(h:W (cw b i)=some v)(hv:∃k c,v= .int k c):b≠X:=λe=>by
 subst e;obtain⟨k,c,rfl⟩:=hv;exact hX.noi _ _ _ h
theorem RdI.aJh{a:OA}{C:List Int}(h:RdI W a C):RdI W' a C:=by
 refine⟨h.1,h.2.imp id λ⟨b,o,ha,ht,hat⟩=> ?_⟩;have hne:b≠X:=ht.ne hX.ty aIf;exact⟨b,o,ha,ht.grown hg hne,λk c hk=>aA hg (hat k c hk) hne⟩
theorem aD.aJh(t:Tr):∀{v:Value},aD W v t->aD W' v t:=by
 induction t with
 |nil=>exactλhv=>hv
 | node l x r ihl ihr=>
  rintro v ⟨b,vl,vr,hv,hn,hl,hr⟩;have hne:b≠X:=hX.cell hg hn.a ⟨_,_,rfl⟩;have k:∀{j u},W (cw b j)=some u->W' (cw b j)=some u:=λh=>aA hg h hne;exact⟨b,vl,vr,hv,⟨k hn.a,k hn.n,k hn.s,k hn.l,k hn.r,k hn.d,k hn.c,k hn.m⟩,ihl hl,ihr hr⟩
theorem bG.aJh{fv:Value}{F:Fam}(hf:bG W fv F):bG W' fv F:=by
 obtain⟨a,c,mb,h1,h2,ts,h3,h4,h5⟩:=hf;refine⟨a,c,mb,h1,⟨h2.1.aJh hX hg,h2.2.le hg.size⟩,ts,h3,λp hp=>aD.aJh hX hg p.t (h4 p hp),h5.elim .inl λ⟨b,q1,q2⟩=> .inr ⟨b,q1,?_⟩⟩;refine World.ownsMap.kept q2 hg ?_;obtain⟨es,clock,hb,r⟩:=q2;obtain⟨cs,s,hty⟩:=hX.ty;intro e;injection e with e;subst e;rw[hb]at hty;cases hty
theorem iO.aJh{M:Nat}{F:Fam}(h:iO W M F):iO W' M F:=by
 obtain⟨u,v,h1,h2⟩:=h;exact⟨u,v,h1.grown hg (λe=>h1.ty.ne hX.ty aIe (Qv e).symm),h2.aJh hX hg⟩
theorem oV.aJh{b:Nat}{D:Nat->Bk}(h:oV W b D):oV W' b D:=by
 refine h.grown hg λe=> ?_;injection e with e;subst e;obtain⟨es,⟨cs,clock,hb,_⟩,_⟩:=h;obtain⟨cs,s,hty⟩:=hX.ty;rw[hb]at hty;cases hty
theorem Rd.aJh{a:OA}{l:List E}(h:Rd W a l):Rd W' a l:=by
 refine⟨h.1,h.2.imp id λ⟨b,o,ha,hat⟩=>⟨b,o,ha,λk z hk=> ?_⟩⟩;have q:=hat k z hk;have hne:b≠X:=hX.cell hg q.a ⟨_,_,rfl⟩;exact⟨aA hg q.a hne,aA hg q.n hne,aA hg q.s hne⟩
theorem RdR.aJh{a:OA}{ts:List RT}(h:RdR W a ts):RdR W' a ts:=by
 refine⟨h.1,h.2.imp id λ⟨b,o,ha,hat⟩=>⟨b,o,ha,λk z hk=> ?_⟩⟩;have q:=hat k z hk;have hne:b≠X:=hX.cell hg q.c1 ⟨_,_,rfl⟩;exact⟨aA hg q.c0 hne,aA hg q.c1 hne,aA hg q.c2 hne,aA hg q.c3 hne⟩
theorem cB.aJh{gv:Value}{F:Fam}(hf:cB W gv F):cB W' gv F:=by
 obtain⟨a,c,ts,h1,h2,h3,h4⟩:=hf;exact⟨a,c,ts,h1,h2.aJh hX hg,λz hz=>(h3 z hz).aJh hX hg,h4⟩
theorem RdB.aJh{a:OA}{D:List Bk}(h:RdB W a D):RdB W' a D:=by
 refine⟨h.1,h.2.imp id λ⟨b,o,ha,hat⟩=>⟨b,o,ha,λk z hk=> ?_⟩⟩;have q:=hat k z hk;have hne:b≠X:=hX.cell hg q.c0 ⟨_,_,rfl⟩;exact⟨aA hg q.c0 hne,aA hg q.c1 hne,aA hg q.c2 hne,aA hg q.c3 hne,aA hg q.c4 hne,aA hg q.c5 hne,aA hg q.c6 hne,aA hg q.c7 hne⟩
end
abbrev stV(M b:Nat):Value:= .agg #[.pointer (cw M 0),.map (some b)]
def StM(w:Wd)(M b:Nat)(s:MSt Bk):Prop:=iO w M s.F/\oV w b s.D
theorem StM.aIx{w w':Wd}{M b:Nat}{s:MSt Bk}(h:StM w M b s)(hb:Below w w w'):StM w' M b s:=⟨h.1.aIx hb,h.2.aIx hb⟩
theorem StM.grown{w w':Wd}{M b X:Nat}{s:MSt Bk}(h:StM w M b s)(hX:MX w X)(hg:w.grownBy w' (some X)):StM w' M b s:=⟨h.1.aJh hX hg,h.2.aJh hX hg⟩
structure PS where
 M:Nat
 b:Nat
 s:MSt Bk
def PS.cells(p:PS):List Value:=[.pointer (cw p.M 0),.map (some p.b)]
structure ZW(w:Wd)(g o k:Nat)(p:PS):Prop where
 m:w (cw g (o+k*2))=some (.pointer (cw p.M 0))
 b:w (cw g (o+k*2+1))=some (.map (some p.b))
theorem ZW.keep{w w':Wd}{g o k:Nat}{p:PS}(h:ZW w g o k p)(hb:Below w w w'):ZW w' g o k p:=⟨hb.keep h.m,hb.keep h.b⟩
def oU(w:Wd)(a:OA)(ps:List PS):Prop:=
 ps.length<=1000000/\(ps=[]∨ ∃g o,a=cw g o/\jH w g 87/\ ∀k p,ps[k]? =some p->ZW w g o k p)
def LPa(w:Wd)(ps:List PS):Prop:= ∀p∈ps,StM w p.M p.b p.s
theorem oU.keep{w w':Wd}{a:OA}{ps:List PS}(h:oU w a ps)(hb:Below w w w'):oU w' a ps:=
 ⟨h.1,h.2.imp id λ⟨g,o,h1,ht,h2⟩=>⟨g,o,h1,ht.keep hb,λk p hk=>(h2 k p hk).keep hb⟩⟩
theorem oU.nil(w:Wd)(a:OA):oU w a []:=⟨sM,.inl rfl⟩
theorem oU.at{w:Wd}{a:OA}{ps:List PS}(h:oU w a ps)(h0:0<ps.length):∃g o,a=cw g o/\ ∀k p,ps[k]? =some p->ZW w g o k p:=by
 obtain⟨g,o,h1,_,h2⟩:=h.2.resolve_left (by intro e;rw[e]at h0;simp at h0);exact⟨g,o,h1,h2⟩
theorem LPa.keep{w w':Wd}{ps:List PS}(h:LPa w ps)(hb:Below w w w'):LPa w' ps:=λp hp=>(h p hp).aIx hb
theorem oU.grown{w w':Wd}{X:Nat}{a:OA}{ps:List PS}(h:oU w a ps)(hX:MX w X)(hg:w.grownBy w' (some X)):oU w' a ps:=by
 refine⟨h.1,h.2.imp id λ⟨g,o,h1,ht,h2⟩=> ?_⟩;have hne:g≠X:=ht.ne hX.ty aId;exact⟨g,o,h1,ht.grown hg hne,λk p hk=>⟨aA hg (h2 k p hk).m hne,aA hg (h2 k p hk).b hne⟩⟩
theorem LPa.grown{w w':Wd}{X:Nat}{ps:List PS}(h:LPa w ps)(hX:MX w X)(hg:w.grownBy w' (some X)):LPa w' ps:=λp hp=>(h p hp).grown hX hg
def gW(w:Wd)(B:Nat)(v:Value)(ps:List PS):Prop:=w.ownsRow B 87 2 v ps.length (ps.flatMap PS.cells)
theorem gW.nil(w:Wd)(B:Nat):gW w B sn []:=World.ownsRow_nil _ _ _ _
theorem gW.lt{w:Wd}{B:Nat}{v:Value}{ps:List PS}(h:gW w B v ps):∀k,v.ownBlock=some k->B<=k/\k<w.heap.size:=World.ownsRow.lt h
theorem gW.rd{w:Wd}{B:Nat}{v:Value}{ps:List PS}(h:gW w B v ps)(hl:ps.length<=1000000):∃a c,v= .slice a ps c/\oU w a ps:=by
 rcases h.2 with ⟨rfl,hn⟩|⟨g,cap,cur,rfl,hb,hg,hn,hc,hs,ht⟩
 ·obtain rfl:=Qz hn;exact⟨_,_,rfl,oU.nil _ _⟩
 ·refine⟨_,_,rfl,hl,.inr ⟨g,0,rfl,⟨_,_,hg⟩,λk p hk=> ?_⟩⟩;have hk':k<ps.length:=(Qx.1 hk).1;have c:=λj hj=>Ys (cap:=cap) h j hj;have f:=λj hj=>flat_get PS.cells 2 (λ_=>rfl) ps k p hk j hj;refine⟨?_,?_⟩
  ·rw[Nat.zero_add,c _ oM];exact f 0 oM
  ·rw[Nat.zero_add,c _ oM];exact f 1 oM
theorem gW.append{w:Wd}{B n:Nat}{v:Value}{l r:List PS}(h:w.ownsRow B 87 2 v n (l.flatMap PS.cells++r.flatMap PS.cells))(hn:n=l.length+r.length):gW w B v (l++r):=by
 subst hn;unfold gW;rw[List.flatMap_append,Qg];exact h
theorem gW.snoc{w:Wd}{B n:Nat}{v:Value}{l:List PS}{p:PS}(h:w.ownsRow B 87 2 v n (l.flatMap PS.cells++p.cells))(hn:n=l.length+1):gW w B v (l++[p]):=
 gW.append (r:=[p]) (by simpa using h) (by simpa using hn)
theorem PS.one(p:PS):∀u∈p.cells,u.oneCell'=true:=by
 intro u hu;simp only[PS.cells,Yl,List.not_mem_nil,or_false]at hu;rcases hu with rfl|rfl <;> rfl
theorem aFb(W:Wd)(n:Nat)(hn:n=W.heap.size)(p:PS)(t:TypeId):∀j u,p.cells[j]? =some u->(W.alloc (.cells p.cells.toArray t)).cell? (((cw n 0):Addr).add j)=some u:=by
 subst hn;intro j u hj;have:(((cw W 0):Addr).add j)=(cw W j):=by cases j <;> simp[Addr.add]
 rw[this,World.cell?_alloc_new]
 simpa using hj
theorem YD:(prog.info? 87).map (λi=>(i.zero,i.size,i.bytes))=some (some (.agg #[.pointer none,.map none]),2,16):=kR
def MoB(w:Wd)(X:Nat)(m:Mo Bk):Prop:= ∃M b a c ps,Bx3 w X 90 (.pointer (cw M 0)) (.map (some b)) (.slice a ps.length c)/\StM w M b m.cur/\oU w a ps/\LPa w ps/\ps.map PS.s=m.past
theorem MoB.aIx{w w':Wd}{X:Nat}{m:Mo Bk}(h:MoB w X m)(hb:Below w w w'):MoB w' X m:=by
 obtain⟨M,b,a,c,ps,h1,h2,h3,h4,h5⟩:=h;exact⟨M,b,a,c,ps,h1.aIx hb,h2.aIx hb,h3.keep hb,h4.keep hb,h5⟩
theorem MoB.mx{w:Wd}{X:Nat}{m:Mo Bk}(h:MoB w X m):MX w X:=by
 obtain⟨M,b,a,c,ps,h1,_⟩:=h;exact h1.mx (λk c e=>by cases e) (λk c e=>by cases e) (λk c e=>by cases e)
theorem TP(G:Fam)(v:Vol)(b:Bool)(gv:Value)(nm:LU)(q:Int)(k:Nat)(w:Wd)(hs:G.sound)(h:cB w gv G)(hv:aN G.vs v.nm=some v)(hb:(k:Int)<v.n)(hnm:v.nm=nm)(hq:q=k)(he:exB G.C v.l k=b):
  ep 137 #[gv,nmV nm,q,ol] w (RB w (.tuple #[.int .i64 (if b=true then 0 else 1),oo])):=by
 subst hq hnm he;exact Eh G _ 0 gv v.nm k 1 w hs.ok hs.short h (pU (hs.ok.vol v (aC hv).1).name) (Xz hs.ok hv k hb)
theorem KG(F:Fam)(v:Vol)(p n:Nat)(T:List Int)(h:PW F v p n T)(gv:Value)(w:Wd)(hg:cB w gv F):
  ep 98 #[gv,nmV v.nm,p,n] w λe w'=>∃gv' S G L,e= .returned gv'/\PW F v p n S/\WrJ F v p n S n G L/\cB w' gv' G/\Below w w w':=by
 have hok:=h.vok;have hn2:=hok.n2;have hle:=h.le;have hN:=h.sound.ok.hN;have hnm:v.nm.length<=maxLen:=pU hok.name;obtain⟨nm,hnme⟩:∃nm,v.nm=nm:=⟨_,rfl⟩;rw[hnme]at hnm ⊢;have HNM:=hD hnme;have HPW:=hD h;have HVN:=hD hle;obtain⟨ra,rn,rc,rfl⟩:=hg.form;have HP:=hD (WB.init w _ _ F hg _ rfl);have hpn:p+n<=65536:=oM
 have hwpn:IntKind.i64.wrap ((p:Int)+n)=(p:Int)+n:=IntWalk.i64_in _ oM;clear hok hg h hnme hle hn2;go_enter func98,ntmps98;go_wp2_with fail;go_loopw [9] (λi wr=>∃(j:Nat) (S:List Int) (G:Fam) (L:List E) (x y:Value),j<=n/\i= .int .i64 ((p:Int)+j)/\zL F v p n j S G L/\WB w wr x y G) (λi _=>p+n-(intOf i).toNat)
 case atStart=>exact⟨0,[],F,v.l,_,_,Yf _,sM,zL.start HPW.o,HP.o⟩
 case round=>
  clear HP;obtain⟨j,S,G,L,x,y,hj,rfl,hwj,hp⟩:=hrel;obtain⟨ra,rn,rc,he⟩:=hp.famr.form;obtain⟨rfl,rfl⟩:x=G.N/\y= .slice ra rn rc:=by
   injection he with he;have h1:=congrArg Array.toList he;simp at h1;exact h1
  have HP:=hD hp;have HW:=hD hwj;clear hp hwj he;by_cases hlt:j<n
  ·have HGS:Hid G.sound:=hD (HW.o.wi.sound HPW.o.sound HPW.o.get);have HEX:=hD HW.o.ex;obtain⟨b,hb⟩:∃b,exJ F.C v.l p j=b:=⟨_,rfl⟩;rw[hb]at HEX;have HNE:=hD (λgv W h=>TP G (v.set L) b gv nm ((p:Int)+j) (p+j) W HGS.o h HW.o.wr.get (by have:=HVN.o;show((p+j:Nat):Int)<v.n;omega) HNM.o oM HEX.o);have p0:=HP.o.gb.c0;have p1:=HP.o.gb.c1;have hlt1:(p:Int)+j<(p:Int)+n:=oM
   have hwj1:IntKind.i64.wrap ((p:Int)+j+1)=(p:Int)+j+1:=IntWalk.i64_in _ oM;have HEB:=hD hb;clear hb;cases b
   ·go_wp2_with fail;refine(HNE.o _ _ HP.o.famr).m ?_;rintro e w1 ⟨rfl,hb1⟩;have HP1:=hD (HP.o.aIx hb1);clear hb1 p0 p1 HP HNE;have p0:=HP1.o.gb.c0;have p1:=HP1.o.gb.c1;go_wp2_with fail;refine(Ei G _ w1 HGS.o.ok HP1.o.famr).m ?_;rintro e w2 ⟨hb2,hlow⟩;have hfr:=HW.o.wi.free hlt HW.o.wr.get HEX.o;rcases hlow with ⟨-,h0⟩|⟨s,g,c,hsN,hz,rfl,hcell⟩
    ·omega
    obtain ⟨G2,K2,g1,g2,g3⟩:=HW.o.step hlt HEB.o hsN hz;obtain⟨L9,hL9⟩:∃L9,(aV G v.nm ⟨((p+j:Nat):Int),1,s⟩).2.1=L9:=⟨_,rfl⟩;have HAS:Hid (aV G nm ⟨(p:Int)+j,1,s⟩=(G2,L9,0)):=hD (by
     have e:(((p+j:Nat):Int))=(p:Int)+j:=oM
     rw[e]at g1 g2 hL9
     rw[<-HNM.o,<-g1,<-g2,<-hL9])
    have HW2:=hD g3;have hGN:G.N=F.N:=HW.o.wi.N;have HXW:Hid (E.wf ⟨(p:Int)+j,1,s⟩):=hD (by unfold E.wf;simp only;omega);have HP2:=hD (HP1.o.aIx hb2);clear hb2 hfr hsN hz g1 g2 g3 hL9 HW p0 p1 HP1 hGN HEX HEB;have p0:=HP2.o.gb.c0;have p1:=HP2.o.gb.c1;go_upto_region 7 with fail;have hVd:=(bQ w2).drew;have HV:=hD (HP2.o.aIx hVd);have hc0:=hVd.keep hcell;clear hVd HP2 hcell p0 p1;have p0:=HV.o.gb.c0;have p1:=HV.o.gb.c1
    go_region_law ((go_simp;go_at_call 139;refine(TL G G2 L9 0 _ nm ⟨(p:Int)+j,1,s⟩ _ HGS.o.ok HV.o.famr hnm HXW.o HAS.o).m ?_;rintro e w5 ⟨gv,sv,rfl,hg,_,hb5⟩;obtain⟨ga,gn,gc,rfl⟩:=hg.form;have HP5:=hD (HV.o.aIx hb5);have q0:=HP5.o.gb.c0;have q1:=HP5.o.gb.c1;have q2:=HP5.o.gb.f0;have q3:=HP5.o.gb.f1))
    all_goals
     have HQ:=hD (HP5.o.put hg);clear p0 p1 q0 q1 q2 q3 hg hb5 HV HP5 hc0;go_wp2_with fail;go_roundw
     case rel=>exact⟨j+1,_,G2,K2,_,_,oM,by go_num,HW2.o,HQ.o⟩
     case measure=>simp[intOf];omega
   ·have HW2:=hD (HW.o.skip hlt HEB.o);go_wp2_with fail;refine(HNE.o _ _ HP.o.famr).m ?_;rintro e w1 ⟨rfl,hb1⟩;have HP1:=hD (HP.o.aIx hb1);clear hb1 p0 p1 HP HNE;have p0:=HP1.o.gb.c0;have p1:=HP1.o.gb.c1;go_wp2_with fail;refine(Ei G _ w1 HGS.o.ok HP1.o.famr).m ?_;rintro e w2 ⟨hb2,hlow⟩;have HP2:=hD (HP1.o.aIx hb2);clear hb2;rcases hlow with ⟨rfl,-⟩|⟨s,g,c,-,-,rfl,-⟩
    all_goals
     go_wp2_with fail;go_roundw
     case rel=>exact⟨j+1,S,G,L,_,_,oM,by go_num,HW2.o,HP2.o⟩
     case measure=>simp[intOf];omega
  ·have hjn:j=n:=oM
   subst hjn;have p0:=HP.o.gb.c0;have p1:=HP.o.gb.c1;have r0:=HP.o.r.c0;have r1:=HP.o.r.c1;have f0:=HP.o.r.f0;have f1:=HP.o.r.f1;go_wp2_with fail;have j0:=(HP.o.r.put G.N (.slice ra rn rc)).c0;have j1:=(HP.o.r.put G.N (.slice ra rn rc)).c1;refine br (.agg #[G.N,.slice ra rn rc]) ?_;exact⟨_,S,G,L,rfl,HW.o.pw,HW.o.wr,HP.o.r.famR HP.o.famr,(HP.o.B.setCell sO _).setCell sO _⟩
open Go.Shelf
abbrev cmV(c:Cmd Bk)(a:OA)(k:Nat):Value:= .agg #[c.tag,c.kd,c.ao,.bool c.af,nmV c.vol,nmV c.oth,c.p,c.n,.slice a c.data.length k]
def gJ(x:Int):Prop:= -9223372036854775808<=x/\x<=9223372036854775807
structure tN(c:Cmd Bk):Prop where
 tag:gJ c.tag
 kd:gJ c.kd
 ao:gJ c.ao
 p:gJ c.p
 n:gJ c.n
 vol:c.vol.length<=maxLen
 oth:c.oth.length<=maxLen
structure CB(W:Wd)(T:Nat)(c:Cmd Bk)(a:OA)(k:Nat):Prop where
 c0:W (cw T 0)=c.tag
 c1:W (cw T 1)=c.kd
 c2:W (cw T 2)=c.ao
 c3:W (cw T 3)=some (.bool c.af)
 c4:W (cw T 4)=some (nmV c.vol)
 c5:W (cw T 5)=some (nmV c.oth)
 c6:W (cw T 6)=c.p
 c7:W (cw T 7)=c.n
 c8:W (cw T 8)=some (.slice a c.data.length k)
abbrev bB(c:Cmd Bk)(a:OA)(k:Nat):Array Value:= #[.int .i64 c.tag,.int .i64 c.kd,.int .i64 c.ao,.bool c.af,nmV c.vol,nmV c.oth,.int .i64 c.p,.int .i64 c.n,.slice a c.data.length k]
section
variable{W W':Wd}{T:Nat}{c:Cmd Bk}{a:OA}{k:Nat}
theorem CB.aIx(h:CB W T c a k)(hb:Below W W W'):CB W' T c a k:=⟨hb.keep h.c0,hb.keep h.c1,hb.keep h.c2,hb.keep h.c3,hb.keep h.c4,hb.keep h.c5,hb.keep h.c6,hb.keep h.c7,hb.keep h.c8⟩
theorem CB.new(V:Wd)(B:Nat)(hB:V.heap.size=B)(c:Cmd Bk)(a:OA)(k:Nat)(t:TypeId):CB (V.alloc (.cells (bB c a k) t)) B c a k:=by
 subst hB;exact⟨sM,sM,sM,sM,sM,sM,sM,sM,sM⟩
theorem CB.lt(h:CB W T c a k):T<W.heap.size:=Qj W (cw T 0) h.c0
theorem CB.far{X i:Nat}{u:Value}(h:CB W T c a k)(hne:T≠X):CB (W.setCell (cw X i) u) T c a k:=by
 have f:∀{j v},W (cw T j)=some v->(W.setCell (cw X i) u).cell? (cw T j)=some v:=λh=>(Qk _ _ _ _ (λe=>hne (by injection e with e;exact e.symm))).trans h;exact⟨f h.c0,f h.c1,f h.c2,f h.c3,f h.c4,f h.c5,f h.c6,f h.c7,f h.c8⟩
theorem CB.grown{X:Nat}(h:CB W T c a k)(hg:W.grownBy W' (some X))(hne:T≠X):CB W' T c a k:=
 ⟨aA hg h.c0 hne,aA hg h.c1 hne,aA hg h.c2 hne,aA hg h.c3 hne,aA hg h.c4 hne,aA hg h.c5 hne,aA hg h.c6 hne,aA hg h.c7 hne,aA hg h.c8 hne⟩
end
theorem QL(p n:Int)(w:Wd)(hp:gJ p)(hn:gJ n):ep 72 #[p,n] w λe w'=>e= .returned (.bool (lK p n))/\w=w':=by
 unfold gJ at hp hn;have hq:lK p n=decide (0<=p/\1<=n/\p+n<=65536):=rfl;obtain⟨q,hq2⟩:∃q,lK p n=q:=⟨_,rfl⟩;have HQ:=hD (hq2.symm.trans hq);rw[hq2];clear hq hq2;rcases Classical.em (0<=p)with h1|h1
 ·rcases Classical.em (1<=n)with h2|h2
  ·rcases Classical.em (p<=65536)with h3|h3
   ·have hw:IntKind.i64.wrap (65536-p)=65536-p:=IntWalk.i64_in _ oM;rcases Classical.em (n<=65536-p)with h4|h4
    all_goals
     go_enter func72,ntmps72;go_wp2;go_ret;exact⟨aU Rs,rfl⟩
   ·exact aEb
  ·exact aEb
 ·exact aEb
theorem Oc(p n:Int)(w:Wd)(hp:gJ p)(hn:gJ n):ep 61 #[p,n] w λe w'=>e= .returned (.bool (lK p n))/\w=w':=by
 unfold gJ at hp hn;have hq:lK p n=decide (0<=p/\1<=n/\p+n<=65536):=rfl;obtain⟨q,hq2⟩:∃q,lK p n=q:=⟨_,rfl⟩;have HQ:=hD (hq2.symm.trans hq);rw[hq2];clear hq hq2;rcases Classical.em (0<=p)with h1|h1
 ·rcases Classical.em (1<=n)with h2|h2
  ·rcases Classical.em (p<=65536)with h3|h3
   ·rcases Classical.em (n<=65536)with h5|h5
    ·have hw:IntKind.i64.wrap (p+n)=p+n:=IntWalk.i64_in _ oM;rcases Classical.em (p+n<=65536)with h4|h4
     all_goals
      go_enter func61,ntmps61;go_wp2;go_ret;exact⟨aU Rs,rfl⟩
    ·exact aEc
   ·exact aEc
  ·exact aEc
 ·exact aEc
def Ob:LU:=[97,98,99,100,101,102,103,104,105,106,107,108,109,110,111,112,113,114,115,116,117,118,119,120,121,122,48,49,50,51,52,53,54,55,56,57]
theorem Rz(c:UInt8):Ob.contains c=(fJ c||kZ c):=by
 have h:∀n:Fin 256,Ob.contains (UInt8.ofNat n.val)=(fJ (UInt8.ofNat n.val)||kZ (UInt8.ofNat n.val)):=by decide+kernel
 have:=h ⟨c.toNat,c.toNat_lt⟩
 simpa using this
theorem Fh:∀r:LU,charsB false r=r.all (Ob.contains ·)
 | []=>rfl
 | c::r=>by
  unfold charsB;rw[List.all_cons,Fh r,Rz];simp
theorem kN{α:Type}(P:α->Bool):∀l:List α,l.dropWhile P=[]↔l.all P=true
 | []=>by simp
 | x::r=>by
  rw[List.dropWhile_cons,List.all_cons];cases hx:P x
  ·simp
  ·simp only[if_true,Bool.true_and];exact kN P r
theorem VC(l cs:LU):Lib.trimS l cs=[]↔l.all (cs.contains ·)=true:=by
 unfold Lib.trimS Lib.trimLeftS;rw[kN];unfold Lib.trimRightS
 constructor
 ·intro h;rw[List.all_reverse]at h;have h2:(l.reverse.dropWhile (cs.contains ·))=[]:=by
   rw [kN];have key:∀m:LU,(m.dropWhile (cs.contains ·)).all (cs.contains ·)=true->m.all (cs.contains ·)=true:=by
    intro m
    induction m with
    |nil=>exactλh=>h
    | cons x r ih=>
     rw[List.dropWhile_cons,List.all_cons];cases hx:cs.contains x
     ·intro h;simp only[Bool.false_eq_true,if_false,List.all_cons,hx,Bool.false_and]at h
     ·intro h;simp only[if_true]at h;rw[ih h];rfl
   exact key _ h
  rw[kN,List.all_reverse]at h2;exact h2
 ·intro h;have h2:(l.reverse.dropWhile (cs.contains ·))=[]:=by rw[kN,List.all_reverse];exact h
  rw[h2];rfl
theorem Uh(x:UInt8)(r:LU)(h16:(x::r).length<=16)(hx:fJ x=true):bC (x::r)=decide (Lib.trimS (x::r) Ob=[]):=by
 unfold bC charsB;rw[hx,Fh,Qw];simp only[Bool.true_or,Bool.true_and,Qd,Qc,VC,List.all_cons,Rz,hx]
 constructor
 ·intro h;exact h.1
 ·intro h;exact⟨h,sM,by simpa using h16⟩
theorem XA(x:UInt8)(r:LU)(hx:fJ x=false):bC (x::r)=false:=by
 unfold bC charsB;rw[hx];simp
theorem OZ{nm:LU}(h0:0<nm.length)(h16:nm.length<=16)(hx:fJ nm[0]=true):bC nm=decide (Lib.trimS nm Ob=[]):=by
 cases nm with
 |nil=>simp at h0
 |cons x r=>exact Uh x r h16 hx
theorem Ui{nm:LU}(h0:0<nm.length)(hx:fJ nm[0]=false):bC nm=false:=by
 cases nm with
 |nil=>simp at h0
 |cons x r=>exact XA x r hx
shelf_lay Lays.n160 Nm 160 at Tryz as Tryz.lays160
theorem EZ(nm:LU)(w:Wd)(hn:nm.length<=maxLen):ep 71 #[nmV nm] w (RB w (.bool (bC nm))):=by
 have hsz:(ByteArray.mk nm.toArray).size=nm.length:=by simp[ByteArray.size]
 have hmax:nm.length<=9223372036854775807:=by simpa only[maxLen]using hn
 have hcon:=Any.strings_Trim_laid Tryz.lays160 kR ⟨nm.toArray⟩ ⟨#[97,98,99,100,101,102,103,104,105,106,107,108,109,110,111,112,113,114,115,116,117,118,119,120,121,122,48,49,50,51,52,53,54,55,56,57]⟩ w (by rw[hsz];exact hmax) dE (ascii_of_all dE);change ep 106 _ _ (RB w (.string ⟨(Lib.trimS nm Ob).toArray⟩))at hcon;have HCON:=hD hcon;clear hcon;by_cases h0:0<nm.length
 ·by_cases h16:nm.length<=16
  ·have hget:(ByteArray.mk nm.toArray)[0]'(by rw[hsz];exact h0)=nm[0]:=rfl;have HT:=hD (OZ h0 h16);have HB:=hD (Ui h0);generalize nm[0]=x at *;have hl1:¬ ((nm.length:Int)<1):=oM
   have hl2:¬ ((16:Int)<nm.length):=oM
   cases hx:fJ x
   ·have hx2:(x.toNat:Int)<97∨(97<=(x.toNat:Int)/\122<(x.toNat:Int)):=by
     simp only[fJ,Yo,Qy]at hx;omega
    have HB2:=hD (HB.o hx);rw[HB2.o];clear HT HB HCON;rcases hx2 with hx2|⟨hx2,hx3⟩
    all_goals
     go_enter func71,ntmps71;go_wp2;go_ret;exact⟨rfl,bR⟩
   ·have hx2:97<=(x.toNat:Int)/\(x.toNat:Int)<=122:=by
     simp only[fJ,Qd,Qc]at hx;omega
    obtain⟨hx2,hx3⟩:=hx2;have HB2:=hD (HT.o hx);rw[HB2.o];obtain⟨T,hT⟩:∃T,Lib.trimS nm Ob=T:=⟨_,rfl⟩;rw[hT]at HCON ⊢;clear hT HB HT HB2;go_enter func71,ntmps71;go_wp2_with fail;refine HCON.o.m ?_;rintro e w1 ⟨rfl,hb⟩;go_wp2_with fail;go_ret;exact⟨aU sM,hb⟩
  ·have HB:Hid (bC nm=false):=hD (by unfold bC;rw[Qp h16];simp);have hl:(16:Int)<nm.length:=oM
   have hl1:¬ (nm.length:Int)<1:=oM
   rw[HB.o];clear h16 HCON;go_enter func71,ntmps71;go_wp2;go_ret;exact⟨rfl,bR⟩
 ·have HB:Hid (bC nm=false):=hD (by unfold bC;rw[Qp (show ¬1<=nm.length by omega)];simp);have hl:(nm.length:Int)<1:=oM
  rw[HB.o];clear h0 HCON;go_enter func71,ntmps71;go_wp2;go_ret;exact⟨rfl,bR⟩
def Bk.arr(x:Bk):Array Int:= #[x.x0,x.x1,x.x2,x.x3,x.x4,x.x5,x.x6,x.x7]
theorem Bk.v_arr(x:Bk):x.v= .agg (x.arr.map (Value.int .u8)):=by unfold Bk.v Bk.arr;simp
theorem aGw:(prog.info? 5).map (λi=>(i.zero,i.size,i.bytes))=some (some (.int .u8 0),1,1):=kR
theorem uY(x y:Bk)(d:Nat)(w:Wd):(Op.equalIn (d+2) 56 x.v y.v).run prog w= .ok (decide (x=y)) w:=by
  obtain ⟨i0,hi,_,hz1,_⟩:=info_parts aGw;have hsz:∀w,(sizeOf 5).run prog w= .ok 1 w:=λw=>by
    rw[run_sizeOf w hi];congr 1
  rw[Bk.v_arr,Bk.v_arr,Op.equalIn];simp only[Sem.run_bind,run_underlying underlying56,Result.andThen_ok,hsz,Std.Legacy.Range.forIn_eq_forIn_range',Std.Legacy.Range.size,Nat.sub_zero,Nat.add_sub_cancel,Nat.div_one];have hx:x.arr.size=8:=rfl;have hy:y.arr.size=8:=rfl;have hl:∀i∈List.range' 0 8 1,i<8:=λi hi=>by simpa using (List.mem_range'_1.1 hi).2
  have hp:∀(z:Array Int),z.size=8-> ∀i,i<8-> ∀w,(part 5 (z.map (Value.int .u8)) (i*1)).run prog w= .ok (.int .u8 (z.getD i 0)) w:=λz hz i hi w=>by
    simp[part,isAgg,run_underlying underlying5,hz,hi]
  have hall:(List.range' 0 8 1).all (λi=>x.arr.getD i 0==y.arr.getD i 0)=decide (x=y):=by
    rw[Qw,Qc];obtain⟨a0,a1,a2,a3,a4,a5,a6,a7⟩:=x;obtain⟨b0,b1,b2,b3,b4,b5,b6,b7⟩:=y;simp[List.range',Bk.arr]
  generalize x.arr=xs at *;generalize y.arr=ys at *;have key:∀l:List Nat,(∀i∈l,i<8)->(forIn (m:=Sem) l ((none,()):Option Bool × Unit) λi __s=>do
      let __do_lift <-part 5 (xs.map (Value.int .u8)) (i*1)
      let __do_lift_1 <-part 5 (ys.map (Value.int .u8)) (i*1)
      let __do_lift <-Op.equalIn (d+1) 5 __do_lift __do_lift_1
      if (!__do_lift)=true then pure (ForInStep.done (some false,()))else pure (ForInStep.yield (none,()))).run prog w= .ok (if l.all (λi=>xs.getD i 0==ys.getD i 0)then none else some false,()) w:=by
    intro l
    induction l with
    |nil=>intro _;simp
    | cons i l ih=>
      intro h;have hi8:=h i sM;have pe:(Op.equalIn (d+1) 5 (.int .u8 (xs.getD i 0)) (.int .u8 (ys.getD i 0))).run prog w= .ok (xs.getD i 0==ys.getD i 0) w:=by
        rw[run_equalIn_int w d 5 .u8 .u8 _ _ underlying5]
      obtain⟨B,hB⟩:∃B,(xs.getD i 0==ys.getD i 0)=B:=⟨_,rfl⟩;rw[hB]at pe;simp only[List.forIn_cons,Sem.run_bind,hp xs hx i hi8,hp ys hy i hi8,pe,Result.andThen_ok,List.all_cons,hB];cases B
      · simp
      · simp only[Bool.not_true,Bool.false_eq_true,if_false,Sem.run_pure,Result.andThen_ok,Bool.true_and];exact ih λj hj=>h j (by simp[hj])
  rw[key _ hl,<-hall];cases (List.range' 0 8 1).all (λi=>xs.getD i 0==ys.getD i 0) <;> simp
theorem yR(nm:LU)(w:Wd)(hn:nm.length<=maxLen):ep 60 #[nmV nm] w (RB w (.bool (bC nm))):=by
  have hsz:(ByteArray.mk nm.toArray).size=nm.length:=by simp[ByteArray.size]
  have hmax:nm.length<=9223372036854775807:=by simpa only[maxLen]using hn
  by_cases hlen:1<=nm.length/\nm.length<=16
  · obtain ⟨l1,l2⟩:=hlen;have g1:¬ ((nm.length:Int)<1):=oM
    have g2:¬ ((16:Int)<nm.length):=oM
    go_enter func60,ntmps60;go_wp2;go_loopw [3] (λi wr=>∃k:Nat,k<=nm.length/\i= .int .i64 k/\charsB true (nm.take k)=true/\Below w w wr) (λi _=>nm.length-(intOf i).toNat)
    case atStart=>exact⟨0,Yf _,rfl,rfl,bR⟩
    case round=>
      obtain⟨k,hk,rfl,hch,hB⟩:=hrel;have HCH:=hD hch;clear hch;by_cases hlt:k<nm.length
      · have HT:=hD (wQ nm k hlt);have hget:(ByteArray.mk nm.toArray)[k]'(by rw[hsz];exact hlt)=nm[k]:=rfl;generalize nm[k]=c at *;have hc0:c.toNat<256:=c.toNat_lt;have hcs:(97<=(c.toNat:Int)/\(c.toNat:Int)<=122)∨((c.toNat:Int)<97/\(k:Int)<=0)∨((c.toNat:Int)<97/\0<(k:Int)/\(c.toNat:Int)<48)∨((c.toNat:Int)<97/\0<(k:Int)/\48<=(c.toNat:Int)/\(c.toNat:Int)<=57)∨((c.toNat:Int)<97/\0<(k:Int)/\48<=(c.toNat:Int)/\57<(c.toNat:Int))∨(97<=(c.toNat:Int)/\122<(c.toNat:Int)/\(k:Int)<=0)∨(97<=(c.toNat:Int)/\122<(c.toNat:Int)/\0<(k:Int)/\48<=(c.toNat:Int)/\57<(c.toNat:Int)):=oM
        have HR:Hid (charsB true (nm.take (k+1))=(fJ c||(decide (0<k)&&kZ c))):=hD (by rw[HT.o,HCH.o,Bool.true_and]);clear HT HCH;rcases hcs with ⟨a1,a2⟩|⟨a1,a2⟩|⟨a1,a2,a3⟩|⟨a1,a2,a3,a4⟩|⟨a1,a2,a3,a4⟩|⟨a1,a2,a3⟩|⟨a1,a2,a3,a4,a5⟩
        all_goals first
          |(have hkb:((k:Int)==0)=false:=by(simp;omega))
          |(have hkb:((k:Int)==0)=true:=by(simp;omega))
          |skip
        all_goals go_wp2
        all_goals first
          |(exfalso;rename_i hx;simp only[Bool.not_eq_false',Bool.not_eq_true',Qc,Qy]at hx;omega)
          | (go_ret
             have h0:(fJ c||(decide (0<k)&&kZ c))=false:=Fj c k oM;have h1:bC nm=false:=wC (k+1) (by rw[HR.o,h0]);rw[h1]
             exact⟨rfl,hB⟩)
          | (go_roundw
             case rel=>exact⟨k+1,oM,by go_num,by rw[HR.o];exact(xR c k).2 oM,hB⟩
             case measure=>simp[intOf];omega)
      · have hk':k=nm.length:=oM
        subst hk';have h0:charsB true nm=true:=by have:=HCH.o;rwa [List.take_length]at this
        have HN:Hid (bC nm=true):=hD (by unfold bC;rw[h0,Qo l1,Qo l2];rfl);clear h0;go_wp2;go_ret;rw[HN.o];exact⟨rfl,hB⟩
  · have HN:Hid (bC nm=false):=hD (by
      unfold bC;cases charsB true nm
      · rfl
      · simp only[Bool.true_and,Yo,Qy]
        omega)
    have hc:((nm.length:Int)<1)∨(¬((nm.length:Int)<1)/\(16:Int)<nm.length):=oM
    clear hlen;rcases hc with h1|⟨h1,h2⟩
    all_goals
      go_enter func60,ntmps60;go_wp2;go_ret;rw[HN.o];exact⟨rfl,bR⟩
def RJ(c:Cmd Bk):Cmd Bk:=⟨c.tag,c.kd,c.ao,false,[],[],0,0,[]⟩
def vQ(c:Cmd Bk)(f:Bool)(o:LU)(p n:Int)(D:List Bk):Bool:=decide (c.data=D)&&((c.af==f)&&((c.oth==o)&&((c.p==p)&&(c.n==n))))
theorem Zt(tag kd ao:Int)(af f:Bool)(vol oth o:LU)(p0 n0 p n:Int)(d1 D:List Bk)(a b:OA)(k k2:Nat)(w:Wd)(hl:(d1.length:Int)≠D.length):
  ep 73 #[cmV ⟨tag,kd,ao,af,vol,oth,p0,n0,d1⟩ a k,cmV ⟨tag,kd,ao,f,vol,o,p,n,D⟩ b k2] w (RB w false):=by
 unfold cmV;simp only;generalize d1.length=m1 at *;generalize D.length=m2 at *;go_enter func73,ntmps73;go_wp2;go_ret;exact⟨rfl,bL⟩
theorem qQ(tag kd ao:Int)(af f:Bool)(vol oth o:LU)(p0 n0 p n:Int)(d1 D:List Bk)(a b:OA)(k k2:Nat)(w:Wd)(ha:RdB w a d1)(hb:RdB w b D):
  ep 73 #[cmV ⟨tag,kd,ao,af,vol,oth,p0,n0,d1⟩ a k,cmV ⟨tag,kd,ao,f,vol,o,p,n,D⟩ b k2] w (RB w (.bool (vQ ⟨tag,kd,ao,af,vol,oth,p0,n0,d1⟩ f o p n D))):=by
 by_cases hl:d1.length=D.length
 ·have HQ:Hid (vQ ⟨tag,kd,ao,af,vol,oth,p0,n0,d1⟩ f o p n D=(decide (d1=D)&&((af==f)&&((oth==o)&&((p0==p)&&(n0==n)))))):=hD rfl;rw[HQ.o];clear HQ;unfold cmV;simp only;obtain⟨m,hm⟩:∃m,d1.length=m:=⟨_,rfl⟩;have hm6:m<=1000000:=by have:=ha.1;omega
  have HM1:=hD hm;have HM2:=hD (hl.symm.trans hm);rw[hm,<-hl,hm];have hB0:=((bQ w).aIw (cq #[tag,kd,ao,.bool af,nmV vol,nmV oth,p0,n0,.slice a m k] 48)).aIw (cq #[tag,kd,ao,.bool f,nmV vol,nmV o,p,n,.slice b m k2] 48);have e1:(w.alloc (cq #[tag,kd,ao,.bool af,nmV vol,nmV oth,p0,n0,.slice a m k] 48)).heap.size=w.heap.size+1:=by simp
  have hC1:∀i u,(#[Value.int .i64 tag,.int .i64 kd,.int .i64 ao,.bool af,nmV vol,nmV oth,.int .i64 p0,.int .i64 n0,.slice a m k]:Array Value)[i]? =some u->((w.alloc (cq #[tag,kd,ao,.bool af,nmV vol,nmV oth,p0,n0,.slice a m k] 48)).alloc (cq #[tag,kd,ao,.bool f,nmV vol,nmV o,p,n,.slice b m k2] 48)).cell? (cw w i)=some u:=λi u h=>by
   rw[Ya _ _ _ sM,World.cell?_alloc_new]
   simpa using h
  have hC2:∀i u,(#[Value.int .i64 tag,.int .i64 kd,.int .i64 ao,.bool f,nmV vol,nmV o,.int .i64 p,.int .i64 n,.slice b m k2]:Array Value)[i]? =some u->((w.alloc (cq #[tag,kd,ao,.bool af,nmV vol,nmV oth,p0,n0,.slice a m k] 48)).alloc (cq #[tag,kd,ao,.bool f,nmV vol,nmV o,p,n,.slice b m k2] 48)).cell? (cw (cf w) i)=some u:=λi u h=>by
   rw[<-e1,World.cell?_alloc_new]
   simpa using h
  have HA:=hD (ha.keep hB0);have HD:=hD (hb.keep hB0);have HB0:=hD hB0;have HC1:=hD hC1;have HC2:=hD hC2;clear hB0 e1 hC1 hC2 ha hb hm hl;go_enter func73,ntmps73;obtain⟨W,hW⟩:∃W,((w.alloc (cq #[tag,kd,ao,.bool af,nmV vol,nmV oth,p0,n0,.slice a m k] 48)).alloc (cq #[tag,kd,ao,.bool f,nmV vol,nmV o,p,n,.slice b m k2] 48))=W:=⟨_,rfl⟩;rw[hW]at HA HD HB0 HC1 HC2;go_upto_region 1 with fail
  try rw[hW]
  clear hW;have x8:=HC1.o 8 _ rfl;have y8:=HC2.o 8 _ rfl;go_upto_region 4 with fail;go_loopw [17] (λi wr=>∃j:Nat,j<=m/\i= .int .i64 j/\Hid (d1.take j=D.take j)/\Below W W wr) (λi _=>m-(intOf i).toNat)
  case atStart=>exact⟨0,Yf _,rfl,hD rfl,bR⟩
  case round=>
   obtain⟨j,hj,rfl,hT,hB⟩:=hrel;by_cases hlt:j<m
   ·obtain ⟨xb,xo,rfl,hxat⟩:=(HA.o.keep hB).at (by rw[HM1.o];omega);obtain⟨yb,yo,rfl,hyat⟩:=(HD.o.keep hB).at (by rw[HM2.o];omega);obtain⟨⟨x0,x1,x2,x3,x4,x5,x6,x7⟩,hx⟩:∃x,d1[j]? =some x:=⟨d1[j]'(by rw[HM1.o];exact hlt),Qa _⟩;obtain⟨⟨y0,y1,y2,y3,y4,y5,y6,y7⟩,hy⟩:∃x,D[j]? =some x:=⟨D[j]'(by rw[HM2.o];exact hlt),Qa _⟩;obtain⟨q0,q1,q2,q3,q4,q5,q6,q7⟩:=hxat j _ hx;have hyj:=hyat j _ hy;simp only at q0 q1 q2 q3 q4 q5 q6 q7;have hka:=(bQ wr).aIw (cq #[.int .u8 x0,.int .u8 x1,.int .u8 x2,.int .u8 x3,.int .u8 x4,.int .u8 x5,.int .u8 x6,.int .u8 x7] 56);obtain⟨r0,r1,r2,r3,r4,r5,r6,r7⟩:=hyj.keep hka;simp only at r0 r1 r2 r3 r4 r5 r6 r7;have hTa:zM (wr.alloc (cq #[.int .u8 x0,.int .u8 x1,.int .u8 x2,.int .u8 x3,.int .u8 x4,.int .u8 x5,.int .u8 x6,.int .u8 x7] 56)) wr.heap.size 0 0 ⟨x0,x1,x2,x3,x4,x5,x6,x7⟩:=⟨sM,sM,sM,sM,sM,sM,sM,sM⟩;have HTA:=hD hTa;have HBB:=hD (hB.on hka);have y8:=(hB.on hka).keep y8;obtain⟨B,hBq⟩:∃B,decide ((⟨x0,x1,x2,x3,x4,x5,x6,x7⟩:Bk)=⟨y0,y1,y2,y3,y4,y5,y6,y7⟩)=B:=⟨_,rfl⟩;have hEq:=λW=>uY ⟨x0,x1,x2,x3,x4,x5,x6,x7⟩ ⟨y0,y1,y2,y3,y4,y5,y6,y7⟩ 9998 W;rw[hBq]at hEq;simp only[Bk.v,Nat.reduceAdd]at hEq;have HBQ:=hD hBq;have HX:=hD hx;have HY:=hD hy;have hk0:(0:Int)<=j:=oM
    have hk1:(j:Int)<m:=oM
    clear hxat hyat hx hy hyj hka hB hBq hTa;go_upto_region 6 with fail;generalize wr.alloc (cq #[.int .u8 x0,.int .u8 x1,.int .u8 x2,.int .u8 x3,.int .u8 x4,.int .u8 x5,.int .u8 x6,.int .u8 x7] 56)=W1 at *;generalize wr.heap.size=T at *;clear q0 q1 q2 q3 q4 q5 q6 q7;obtain⟨q0,q1,q2,q3,q4,q5,q6,q7⟩:=HTA.o;simp only[Nat.zero_mul,Nat.zero_add]at q0 q1 q2 q3 q4 q5 q6 q7;refine wpr ?_
    repeat(go_big_quiet_step (fail))
    refine wqn λnq=> ?_;cases B
    ·have HN:Hid (decide (d1=D)=false):=hD (Qp λe=>by
      have h1:=HX.o;rw[e,HY.o]at h1;have h2:=HBQ.o;rw[Qv h1]at h2
      simp at h2)
     go_wp2_with fail;go_ret;exact⟨by rw[HN.o];rfl,(HB0.o.on HBB.o).aJd _⟩
    ·have HN:Hid (d1.take (j+1)=D.take (j+1)):=hD (by
      have h2:=Qt HBQ.o
      rw[List.take_add_one,List.take_add_one,hT.o,HX.o,HY.o,h2])
     go_wp2_with fail;go_roundw
     case rel=>exact⟨j+1,oM,by go_num,HN,HBB.o.aJd _⟩
     case measure=>simp[intOf];omega
   ·obtain rfl:j=m:=oM
    have HE:Hid (decide (d1=D)=true):=hD (Qo (by
     have:=hT.o
     rwa [Qq (by rw[HM1.o];exact Ye _),Qq (by rw[HM2.o];exact Ye _)]at this))
    have x0:=hB.keep (HC1.o 0 _ rfl);have x1:=hB.keep (HC1.o 1 _ rfl);have x2:=hB.keep (HC1.o 2 _ rfl);have x3:=hB.keep (HC1.o 3 _ rfl);have x4:=hB.keep (HC1.o 4 _ rfl);have x5:=hB.keep (HC1.o 5 _ rfl);have x6:=hB.keep (HC1.o 6 _ rfl);have x7:=hB.keep (HC1.o 7 _ rfl);have y0:=hB.keep (HC2.o 0 _ rfl);have y1:=hB.keep (HC2.o 1 _ rfl);have y2:=hB.keep (HC2.o 2 _ rfl);have y3:=hB.keep (HC2.o 3 _ rfl);have y4:=hB.keep (HC2.o 4 _ rfl);have y5:=hB.keep (HC2.o 5 _ rfl);have y6:=hB.keep (HC2.o 6 _ rfl);have y7:=hB.keep (HC2.o 7 _ rfl);have HR:=hD (HB0.o.on hB);clear hT hB;go_wp2_with fail
    all_goals
     go_ret;exact⟨aU (by rw[HE.o,Bool.true_and];simp_all),HR.o⟩
 ·have HQ:Hid (vQ ⟨tag,kd,ao,af,vol,oth,p0,n0,d1⟩ f o p n D=false):=hD (by
   unfold vQ
   rw[Qp (λe=>hl (congrArg List.length e)),Bool.false_and])
  rw[HQ.o];exact Zt tag kd ao af f vol oth o p0 n0 p n d1 D a b k k2 w oM
open Go.Deep
structure CV where
 c:Cmd Bk
 a:OA
 k:Nat
structure yC(w:Wd)(g o i:Nat)(x:CV):Prop where
 c0:w (cw g (o+i*9))=x.c.tag
 c1:w (cw g (o+i*9+1))=x.c.kd
 c2:w (cw g (o+i*9+2))=x.c.ao
 c3:w (cw g (o+i*9+3))=some (.bool x.c.af)
 c4:w (cw g (o+i*9+4))=some (nmV x.c.vol)
 c5:w (cw g (o+i*9+5))=some (nmV x.c.oth)
 c6:w (cw g (o+i*9+6))=x.c.p
 c7:w (cw g (o+i*9+7))=x.c.n
 c8:w (cw g (o+i*9+8))=some (.slice x.a x.c.data.length x.k)
theorem yC.keep{w w':Wd}{g o i:Nat}{x:CV}(h:yC w g o i x)(hb:Below w w w'):yC w' g o i x:=
 ⟨hb.keep h.c0,hb.keep h.c1,hb.keep h.c2,hb.keep h.c3,hb.keep h.c4,hb.keep h.c5,hb.keep h.c6,hb.keep h.c7,hb.keep h.c8⟩
structure CV.fit(w:Wd)(x:CV):Prop where
 fit:tN x.c
 dl:x.c.data.length<=9223372036854775807
 dat:x.c.data.length<=1000000->RdB w x.a x.c.data
theorem CV.fit.keep{w w':Wd}{x:CV}(h:x.fit w)(hb:Below w w w'):x.fit w':=⟨h.fit,h.dl,λq=>(h.dat q).keep hb⟩
def FM(w:Wd)(a:OA)(L:List CV):Prop:=
 L.length<=9223372036854775807/\(∀x∈L,x.fit w)/\(L=[]∨ ∃g o,a=cw g o/\ ∀i x,L[i]? =some x->yC w g o i x)
theorem FM.keep{w w':Wd}{a:OA}{L:List CV}(h:FM w a L)(hb:Below w w w'):FM w' a L:=
 ⟨h.1,λx hx=>(h.2.1 x hx).keep hb,h.2.2.imp id λ⟨g,o,e,hat⟩=>⟨g,o,e,λi x hi=>(hat i x hi).keep hb⟩⟩
theorem FM.at{w:Wd}{a:OA}{L:List CV}(h:FM w a L)(h0:0<L.length):∃g o,a=cw g o/\ ∀i x,L[i]? =some x->yC w g o i x:=
 h.2.2.resolve_left (by intro e;rw[e]at h0;simp at h0)
theorem LK{α:Type}{P:Nat->α->Prop}(n:Nat)(h:∀i,i<n-> ∃x,P i x):∃l:List α,l.length=n/\ ∀i x,l[i]? =some x->P i x:=by
 induction n with
 |zero=>exact⟨[],rfl,λi x hx=>by simp at hx⟩
 | succ n ih=>
  obtain⟨l,hl,hp⟩:=ih λi hi=>h i oM;obtain⟨y,hy⟩:=h n oM;refine⟨l++[y],by simp[hl],λi x hx=> ?_⟩;by_cases hi:i<n
  ·rw[Ym oM]at hx;exact hp i x hx
  ·have hlt:=(Qx.1 hx).1;simp[hl]at hlt;obtain rfl:i=n:=oM
   rw[List.getElem?_append_right oM,hl]at hx;simp at hx;rw[<-hx];exact hy
theorem aIi{l:List Value}(h:l.length=9):∃c0 c1 c2 c3 c4 c5 c6 c7 c8,l=[c0,c1,c2,c3,c4,c5,c6,c7,c8]:=by
 match l,h with
 | [c0,c1,c2,c3,c4,c5,c6,c7,c8],_=>exact⟨c0,c1,c2,c3,c4,c5,c6,c7,c8,rfl⟩
theorem aIj{l:List Value}(h:l.length=8):∃c0 c1 c2 c3 c4 c5 c6 c7,l=[c0,c1,c2,c3,c4,c5,c6,c7]:=by
 match l,h with
 | [c0,c1,c2,c3,c4,c5,c6,c7],_=>exact⟨c0,c1,c2,c3,c4,c5,c6,c7,rfl⟩
section
variable{H:Type}{enc:TypeId × Value->H}{w:Wd}
theorem OP{cs:List Value}{fuel:Nat}{x:DataW H × List MemPlace}(h:DataW.trod enc prog w 0 (λ_=>true) true fuel 56 cs=some x):∃b:Bk,cs=b.cells:=by
 have hce:prog.cellsOf 5=1:=kR
 obtain ⟨xs,m,_,_,hsz,hl,hel⟩:=DataW.trod_array underlying56 h;rw[show prog.cellsOf 56=8 by kernel_rfl]at hsz;obtain⟨c0,c1,c2,c3,c4,c5,c6,c7,rfl⟩:=aIj hsz;have one:∀i,i<8-> ∃n:Int,(([c0,c1,c2,c3,c4,c5,c6,c7]:List Value).drop i).take 1=[.int .u8 n]:=λi hi=>by
  have e0:=hel i hi;rw[hce,Nat.mul_one,Qa oM]at e0;obtain⟨n,k,_,_⟩:=DataW.trod_int underlying5 e0;exact⟨n,k⟩
 obtain⟨n0,k0⟩:=one 0 oM;obtain⟨n1,k1⟩:=one 1 oM;obtain⟨n2,k2⟩:=one 2 oM;obtain⟨n3,k3⟩:=one 3 oM;obtain⟨n4,k4⟩:=one 4 oM;obtain⟨n5,k5⟩:=one 5 oM;obtain⟨n6,k6⟩:=one 6 oM;obtain⟨n7,k7⟩:=one 7 oM;simp at k0 k1 k2 k3 k4 k5 k6 k7;subst k0 k1 k2 k3 k4 k5 k6 k7;exact⟨⟨n0,n1,n2,n3,n4,n5,n6,n7⟩,rfl⟩
theorem CK{cs:List Value}{fuel:Nat}{x:DataW H × List MemPlace}(h:DataW.trod enc prog w 0 (λ_=>true) true fuel 29 cs=some x):
  ∃(D:List Bk) (a:OA) (cap:Nat),cs=[.slice a D cap]/\D.length<=9223372036854775807/\(D.length<=1000000->RdB w a D):=by
 rcases open_slice underlying29 h with ⟨hcs,_⟩|⟨ad,len,cap,m,n,_,_,hcs,_,hl,hm,hmm,_,hi⟩
 ·exact⟨[],none,0,hcs,sM,λ_=>⟨sM,.inl rfl⟩⟩
 ·simp only[if_true]at hmm;subst hmm;obtain⟨D,hlen,hp⟩:=LK (P:=λi (b:Bk)=>∀j u,b.cells[j]? =some u->w.cell? ((ad.add (i*8)).add j)=some u) len (λi hlt=>by
   obtain⟨cs',h1,h2⟩:=hi i oM;obtain⟨b,rfl⟩:=OP h2;rw[show prog.cellsOf 56=8 by kernel_rfl]at h1;refine⟨b,λj u hj=> ?_⟩;have:=(World.cells?_some h1).2.2 j (by have:=(Qx.1 hj).1;exact this);rw[this]
   exact hj)
  refine⟨D,some ad,m,by rw[hlen];exact hcs,by unfold maxLen at hm;omega,λhDd=>⟨hDd,?_⟩⟩;by_cases h0:D=[]
  ·exact .inl h0
  ·refine .inr ?_;obtain⟨b,off,spot⟩:=ad;have h00:0<D.length:=List.length_pos_iff.2 h0;have z0:=hp 0 _ (Qa h00) 0 _ rfl;have hspot:spot=none:=by simpa [Addr.add]using World.cell?_spot z0
   subst hspot;have hadd:∀o j,((cw b o):Addr).add j=(cw b (o+j)):=λo j=>by unfold Addr.add;split <;> simp_all
   refine⟨b,off,rfl,λk x hk=> ?_⟩;have c:=hp k x hk;simp only[hadd]at c;exact⟨c 0 _ rfl,c 1 _ rfl,c 2 _ rfl,c 3 _ rfl,c 4 _ rfl,c 5 _ rfl,c 6 _ rfl,c 7 _ rfl⟩
theorem Aq{v:Value}{fuel:Nat}{x:DataW H × List MemPlace}(h:DataW.trod enc prog w 0 (λ_=>true) true fuel 9 [v]=some x):∃l:LU,v=nmV l/\l.length<=maxLen:=by
 obtain⟨s,es,_,ws⟩:=DataW.trod_string underlying9 h;obtain rfl:v= .string s:=by simpa using es
 exact⟨s.data.toList,by rw[show nmV s.data.toList= .string ⟨s.data.toList.toArray⟩ from rfl,Array.toArray_toList],by rw[Array.length_toList];exact ws⟩
theorem Ud{a:OA}{len cap fuel:Nat}{x:DataW H × List MemPlace}(h:DataW.trod enc prog w 0 (λ_=>true) true fuel 22 [.slice a len cap]=some x):
  ∃L:List CV,L.length=len/\(len<=9223372036854775807/\len<=cap/\cap<=9223372036854775807)/\FM w a L:=by
 rcases Ar underlying22 underlying48 kR kR h with ⟨hcs,_⟩|⟨ad,len',cap',m,D,Pl,hcs,hb,hl,hm,hmm,hx,hi⟩
 ·simp at hcs;obtain⟨rfl,rfl,rfl⟩:=hcs;exact⟨[],rfl,⟨oM,oM,oM⟩,⟨sM,sM,.inl rfl⟩⟩
 ·simp at hcs;obtain⟨rfl,rfl,rfl⟩:=hcs;simp only[if_true]at hmm;subst hmm;obtain⟨L,hlen,hp⟩:=LK (P:=λi (x:CV)=>x.fit w/\w.cell? (ad.add (i*9+0))=x.c.tag/\w.cell? (ad.add (i*9+1))=x.c.kd/\w.cell? (ad.add (i*9+2))=x.c.ao/\w.cell? (ad.add (i*9+3))=some (.bool x.c.af)/\w.cell? (ad.add (i*9+4))=some (nmV x.c.vol)/\w.cell? (ad.add (i*9+5))=some (nmV x.c.oth)/\w.cell? (ad.add (i*9+6))=x.c.p/\w.cell? (ad.add (i*9+7))=x.c.n/\w.cell? (ad.add (i*9+8))=some (.slice x.a x.c.data.length x.k)) len (λi hlt=>by
   obtain⟨ys,n,_,_,hys,hf⟩:=hi i oM;obtain⟨v0,y0,k0,_,t0⟩:=hf 0 _ rfl;obtain⟨v1,y1,k1,_,t1⟩:=hf 1 _ rfl;obtain⟨v2,y2,k2,_,t2⟩:=hf 2 _ rfl;obtain⟨v3,y3,k3,_,t3⟩:=hf 3 _ rfl;obtain⟨v4,y4,k4,_,t4⟩:=hf 4 _ rfl;obtain⟨v5,y5,k5,_,t5⟩:=hf 5 _ rfl;obtain⟨v6,y6,k6,_,t6⟩:=hf 6 _ rfl;obtain⟨v7,y7,k7,_,t7⟩:=hf 7 _ rfl;obtain⟨v8,y8,k8,_,t8⟩:=hf 8 _ rfl;obtain⟨n0,e0,_,w0⟩:=DataW.trod_int underlying3 t0;obtain⟨n1,e1,_,w1⟩:=DataW.trod_int underlying3 t1;obtain⟨n2,e2,_,w2⟩:=DataW.trod_int underlying3 t2;obtain⟨b3,e3,_⟩:=DataW.trod_bool underlying4 t3;obtain⟨l4,rfl,w4⟩:=Aq t4;obtain⟨l5,rfl,w5⟩:=Aq t5;obtain⟨n6,e6,_,w6⟩:=DataW.trod_int underlying3 t6;obtain⟨n7,e7,_,w7⟩:=DataW.trod_int underlying3 t7;obtain⟨B,da,dk,e8,q1,q2⟩:=CK t8;simp at e0 e1 e2 e3 e6 e7 e8;subst e0 e1 e2 e3 e6 e7 e8
   exact⟨⟨⟨n0,n1,n2,b3,l4,l5,n6,n7,B⟩,da,dk⟩,⟨⟨bounds_i64 w0,bounds_i64 w1,bounds_i64 w2,bounds_i64 w6,bounds_i64 w7,w4,w5⟩,q1,q2⟩,k0,k1,k2,k3,k4,k5,k6,k7,k8⟩)
  refine⟨L,hlen,by unfold maxLen at hm;exact⟨oM,hl,oM⟩,⟨by unfold maxLen at hm;omega,λx hx=> ?_,?_⟩⟩
  ·obtain⟨i,hi'⟩:=List.mem_iff_getElem?.1 hx;exact(hp i x hi').1
  ·by_cases h0:L=[]
   ·exact .inl h0
   ·refine .inr ?_;obtain⟨b,off,spot⟩:=ad;have h00:0<L.length:=List.length_pos_iff.2 h0;obtain⟨_,z0,_⟩:=hp 0 _ (Qa h00);have hspot:spot=none:=by simpa [Addr.add]using World.cell?_spot z0
    subst hspot;refine⟨b,off,rfl,λk x hk=> ?_⟩;obtain⟨_,c0,c1,c2,c3,c4,c5,c6,c7,c8⟩:=hp k x hk;have hadd:∀j,((cw b off):Addr).add j=(cw b (off+j)):=λj=>by unfold Addr.add;split <;> simp_all
    rw[hadd]at c0 c1 c2 c3 c4 c5 c6 c7 c8;simp only[<-Nat.add_assoc,Nat.add_zero]at c0 c1 c2 c3 c4 c5 c6 c7 c8;exact⟨c0,c1,c2,c3,c4,c5,c6,c7,c8⟩
theorem aIa{r:Reach}{b0:Nat}{v:Value}{d:DataW H}{p:List MemPlace}(hv:Value.okWide prog w r b0 48 v)(h:DataW.Trod enc prog w 0 (λ_=>true) true 48 v d p):
  ∃x:CV,v=cmV x.c x.a x.k/\x.fit w:=by
 obtain ⟨cs,rfl,hsz,_⟩:∃cs,v= .agg cs/\cs.size=prog.cellsOf 48/\Row.okWide prog w r b0 48 cs:=by
  simpa [Value.okWide,underlying48]using hv
 obtain⟨fuel,hf⟩:=h;rw[show prog.cellsOf 48=9 by kernel_rfl]at hsz;obtain⟨l⟩:=cs;obtain⟨v0,v1,v2,v3,v4,v5,v6,v7,v8,rfl⟩:=aIi hsz;obtain⟨xs,m,_,_,_,hl,hel⟩:=DataW.trod_struct underlying48 hf;have c1:prog.cellsOf 3=1:=kR
 have c2:prog.cellsOf 4=1:=kR
 have c3:prog.cellsOf 9=1:=kR
 have c4:prog.cellsOf 29=1:=kR
 have hl9:xs.length=9:=hl;have y:∀i (hi:i<9),xs[i]? =some (xs[i]'(by omega)):=λi hi=>Qa oM;obtain⟨n0,e0,_,w0⟩:=DataW.trod_int underlying3 ((hel 0 _ rfl).trans (y 0 oM));obtain⟨n1,e1,_,w1⟩:=DataW.trod_int underlying3 ((hel 1 _ rfl).trans (y 1 oM));obtain⟨n2,e2,_,w2⟩:=DataW.trod_int underlying3 ((hel 2 _ rfl).trans (y 2 oM));obtain⟨b3,e3,_⟩:=DataW.trod_bool underlying4 ((hel 3 _ rfl).trans (y 3 oM));obtain⟨l4,rfl,w4⟩:=Aq (v:=v4) ((hel 4 _ rfl).trans (y 4 oM));obtain⟨l5,rfl,w5⟩:=Aq (v:=v5) ((hel 5 _ rfl).trans (y 5 oM));obtain⟨n6,e6,_,w6⟩:=DataW.trod_int underlying3 ((hel 6 _ rfl).trans (y 6 oM));obtain⟨n7,e7,_,w7⟩:=DataW.trod_int underlying3 ((hel 7 _ rfl).trans (y 7 oM));obtain⟨B,da,dk,e8,q1,q2⟩:=CK ((hel 8 _ rfl).trans (y 8 oM));replace e0:[v0]=[.int .i64 n0]:=e0;replace e1:[v1]=[.int .i64 n1]:=e1;replace e2:[v2]=[.int .i64 n2]:=e2;replace e3:[v3]=[.bool b3]:=e3;replace e6:[v6]=[.int .i64 n6]:=e6;replace e7:[v7]=[.int .i64 n7]:=e7;replace e8:[v8]=[.slice da B dk]:=e8;simp at e0 e1 e2 e3 e6 e7 e8;subst e0 e1 e2 e3 e6 e7 e8;exact⟨⟨⟨n0,n1,n2,b3,l4,l5,n6,n7,B⟩,da,dk⟩,rfl,⟨⟨bounds_i64 w0,bounds_i64 w1,bounds_i64 w2,bounds_i64 w6,bounds_i64 w7,w4,w5⟩,q1,q2⟩⟩
end
end Go.Proofs.YtphfgbbbejloaaaGreatDoor
