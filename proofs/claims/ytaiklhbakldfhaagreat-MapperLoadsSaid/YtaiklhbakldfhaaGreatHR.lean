/-
  tegulalaw36: scripts in memory, the statements' helper build.
  tegulalaw36: the statements' helper build.
  Conditions: as each theorem says.
-/
import Derived.Test.YtaiklhbakldfhaaGreatFcR
import Derived.Test.YtaiklhbakldfhaaGreatGB
namespace Go.Proofs.YtaiklhbakldfhaaGreat
set_option linter.unusedSimpArgs false
set_option linter.unusedVariables false
set_option maxRecDepth 100000
set_option maxHeartbeats 16000000
open Go.ChangeShapes Go.WideShapes Go.ChangeAt Go.RowKit Go.Deep Go.Maps
structure rD (w:World) (b o j:Nat) (x:aW):Prop where
 c0:w.cell? ⟨b,o+j*6,none⟩=some (.int .u8 x.k)
 c1:w.cell? ⟨b,o+j*6+1,none⟩=some (.int .u8 x.v)
 c2:w.cell? ⟨b,o+j*6+2,none⟩=some (.int .u8 x.o)
 c3:w.cell? ⟨b,o+j*6+3,none⟩=some (.int .u8 x.a)
 c4:w.cell? ⟨b,o+j*6+4,none⟩=some (.int .u8 x.n)
 c5:w.cell? ⟨b,o+j*6+5,none⟩=some (.int .u8 x.s)
 ok:x.ok
def mQ (w:World) (a:Option Addr) (S:List aW):Prop:=
 S.length<=9223372036854775807/\(S=[]∨ ∃b o,a=some ⟨b,o,none⟩/\ ∀k x,S[k]? =some x->rD w b o k x)
theorem rD.keep {w w':World} (h:Below w.heap.size w w') {b o k:Nat} {x:aW} (ha:rD w b o k x):rD w' b o k x:=
 ⟨h.keep ha.c0,h.keep ha.c1,h.keep ha.c2,h.keep ha.c3,h.keep ha.c4,h.keep ha.c5,ha.ok⟩
theorem mQ.keep {w w':World} (h:Below w.heap.size w w') {a:Option Addr} {S:List aW} (hr:mQ w a S):mQ w' a S:=
 ⟨hr.1,hr.2.imp id fun⟨b,o,ha,hat⟩=>⟨b,o,ha,fun k x hk=>(hat k x hk).keep h⟩⟩
theorem mQ.at {w:World} {a:Option Addr} {S:List aW} (hr:mQ w a S) (h:0<S.length):∃ b o,a=some ⟨b,o,none⟩/\ ∀k x,S[k]? =some x->rD w b o k x:=
 hr.2.resolve_left (by intro e;rw[e]at h;simp at h)
theorem vI:3≠31:=by decide
structure BB (w0 W:World) (T S:Nat) (u v x y:Value) (F:Fam):Prop where
 fb:Bx W T 46 u v
 gb:Bx W S 31 x y
 fam:bA W (.agg #[u,v]) F
 famr:bI W (.agg #[x,y]) F
 r1:Bx W w0.heap.size 46 (.slice none 0 0) (.map none)
 r2:Bx W (w0.heap.size+1) 31 (.int .i64 0) (.slice none 0 0)
 o1:w0.heap.size+1<T
 o2:T<S
 B:Below w0.heap.size w0 W
section
variable {w0 W W':World} {T S:Nat} {u v x y u' v' x' y':Value} {F G:Fam}
theorem BB.later (h:BB w0 W T S u v x y F) (hb:Below W.heap.size W W'):BB w0 W' T S u v x y F:=
 ⟨h.fb.later hb,h.gb.later hb,h.fam.keep hb,h.famr.keep hb,h.r1.later hb,h.r2.later hb,h.o1,h.o2,h.B.on hb⟩
theorem BB.put (h:BB w0 W T S u v x y F) (h1:bA W (.agg #[u',v']) G) (h2:bI W (.agg #[x',y']) G):BB w0 (dN (dN W T u' v') S x' y') T S u' v' x' y' G:=by
 have q1:=h.o1;have q2:=h.o2;have gb:=h.gb.far (R:=T) (by omega) u' v';exact⟨(h.fb.put u' v').far (by omega) x' y',gb.put x' y',gb.famV vI (h.fb.famV bKm h1),gb.famR (h.fb.famR h2),(h.r1.far (by omega) u' v').far (by omega) x' y',(h.r2.far (by omega) u' v').far (by omega) x' y',q1,q2,
  (((h.B.setCell (by simp only;omega) _).setCell (by simp only;omega) _).setCell (by simp only;omega) _).setCell (by simp only;omega) _⟩
theorem BB.res (h:BB w0 W T S u v x y F):bA (dN (dN W w0.heap.size u v) (w0.heap.size+1) x y) (.agg #[u,v]) F/\bI (dN (dN W w0.heap.size u v) (w0.heap.size+1) x y) (.agg #[x,y]) F/\
  Below w0.heap.size w0 (dN (dN W w0.heap.size u v) (w0.heap.size+1) x y)/\Bx (dN (dN W w0.heap.size u v) (w0.heap.size+1) x y) w0.heap.size 46 u v/\Bx (dN (dN W w0.heap.size u v) (w0.heap.size+1) x y) (w0.heap.size+1) 31 x y:=by
 have r2:=h.r2.far (R:=w0.heap.size) (by omega) u v;exact⟨r2.famV vI (h.r1.famV bKm h.fam),r2.famR (h.r1.famR h.famr),(((h.B.setCell (by simp only;omega) _).setCell (by simp only;omega) _).setCell (by simp only;omega) _).setCell (by simp only;omega) _,(h.r1.put u v).far (by omega) x y,r2.put x y⟩
end
def bKt (m:Nat) (w:World) (e:Ending) (w':World):Prop:=
 ∃F fv gv,e= .returned (.tuple #[fv,gv,.bool true])/\F.good/\F.N=m/\bA w' fv F/\bI w' gv F/\Below w.heap.size w w'
theorem step_N (F:Fam) (s:aW) (h:(iB F s).2.2=0):(iB F s).1.N=F.N:=by
 revert h;unfold iB
 split
 ·show(aU F (aY s.v) s.n s.a).2=0->(aU F (aY s.v) s.n s.a).1.N=F.N;unfold aU
  split
  ·intro h;simp at h
  split
  ·intro h;simp at h
  split
  ·intro h;simp at h
  intro _;rfl
 split
 ·show(bJ F (aY s.v) (aY s.o)).2=0->(bJ F (aY s.v) (aY s.o)).1.N=F.N;unfold bJ
  split
  ·intro h;simp at h
  split
  ·intro h;simp at h
  split
  ·intro h;simp at h
  split
  ·intro h;simp at h
  intro _;rfl
 split
 ·unfold bC
  split
  ·intro h;simp at h
  intro _;rfl
 split
 ·unfold bY
  split
  ·intro h;simp at h
  split
  ·intro h;simp at h
  intro _;rfl
 unfold aQ
 split
 ·intro h;simp at h
 split
 ·intro h;simp at h
 intro _;rfl
theorem bAy {α:Type} {P:Nat->α->Prop} (n:Nat) (h:∀ i,i<n-> ∃x,P i x):∃ l:List α,l.length=n/\ ∀i x,l[i]? =some x->P i x:=by
 induction n with
 |zero=>exact⟨[],rfl,fun i x hx=>by simp at hx⟩
 | succ n ih=>
  obtain⟨l,hl,hp⟩:=ih fun i hi=>h i (by omega);obtain⟨y,hy⟩:=h n (by omega);refine⟨l++[y],by simp[hl],fun i x hx=> ?_⟩;by_cases hi:i<n
  ·rw[List.getElem?_append_left (by omega)]at hx;exact hp i x hx
  ·have hlt:=(List.getElem?_eq_some_iff.1 hx).1;simp[hl]at hlt;obtain rfl:i=n:=by omega
   rw[List.getElem?_append_right (by omega),hl]at hx;simp at hx;rw[<-hx];exact hy
section
variable {H:Type} {enc:TypeId × Value->H} {w:World}
theorem kM {a:Option Addr} {len cap fuel:Nat} {x:DataW H × List MemPlace} (h:DataW.trod enc Tryz.prog w 0 (fun _=>true) true fuel 22 [.slice a len cap]=some x):
  ∃S:List aW,S.length=len/\(len<=9223372036854775807/\len<=cap/\cap<=9223372036854775807)/\mQ w a S:=by
 rcases rO Tryz.underlying22 Tryz.underlying66 (by kernel_rfl) (by kernel_rfl) h with ⟨hcs,_⟩|⟨ad,len',cap',m,D,Pl,hcs,hb,hl,hm,hmm,hx,hi⟩
 ·simp at hcs;obtain⟨rfl,rfl,rfl⟩:=hcs;exact⟨[],rfl,⟨by omega,by omega,by omega⟩,⟨by simp,.inl rfl⟩⟩
 ·simp at hcs;obtain⟨rfl,rfl,rfl⟩:=hcs;simp only[if_true]at hmm;subst hmm;obtain⟨S,hlen,hp⟩:=bAy (P:=fun i (x:aW)=>w.cell? (ad.add (i*6+0))=some (.int .u8 x.k)/\w.cell? (ad.add (i*6+1))=some (.int .u8 x.v)/\w.cell? (ad.add (i*6+2))=some (.int .u8 x.o)/\w.cell? (ad.add (i*6+3))=some (.int .u8 x.a)/\w.cell? (ad.add (i*6+4))=some (.int .u8 x.n)/\w.cell? (ad.add (i*6+5))=some (.int .u8 x.s)/\x.ok) len (fun i hlt=>by
   obtain⟨ys,n,_,_,hys,hf⟩:=hi i (by omega);obtain⟨v0,y0,k0,_,t0⟩:=hf 0 _ rfl;obtain⟨v1,y1,k1,_,t1⟩:=hf 1 _ rfl;obtain⟨v2,y2,k2,_,t2⟩:=hf 2 _ rfl;obtain⟨v3,y3,k3,_,t3⟩:=hf 3 _ rfl;obtain⟨v4,y4,k4,_,t4⟩:=hf 4 _ rfl;obtain⟨v5,y5,k5,_,t5⟩:=hf 5 _ rfl;obtain⟨n0,e0,_,w0⟩:=DataW.trod_int Tryz.underlying5 t0;obtain⟨n1,e1,_,w1⟩:=DataW.trod_int Tryz.underlying5 t1;obtain⟨n2,e2,_,w2⟩:=DataW.trod_int Tryz.underlying5 t2;obtain⟨n3,e3,_,w3⟩:=DataW.trod_int Tryz.underlying5 t3;obtain⟨n4,e4,_,w4⟩:=DataW.trod_int Tryz.underlying5 t4;obtain⟨n5,e5,_,w5⟩:=DataW.trod_int Tryz.underlying5 t5;simp at e0 e1 e2 e3 e4 e5;subst e0 e1 e2 e3 e4 e5
   exact⟨⟨n0,n1,n2,n3,n4,n5⟩,k0,k1,k2,k3,k4,k5,bounds_u8 w0,bounds_u8 w1,bounds_u8 w2,bounds_u8 w3,bounds_u8 w4,bounds_u8 w5⟩)
  refine⟨S,hlen,by unfold maxLen at hm;exact⟨by omega,hl,by omega⟩,⟨by unfold maxLen at hm;omega,?_⟩⟩;by_cases h0:S=[]
  ·exact .inl h0
  ·refine .inr ?_;obtain⟨b,off,spot⟩:=ad;have h00:0<S.length:=List.length_pos_iff.2 h0;obtain⟨z0,_⟩:=hp 0 _ (List.getElem?_eq_getElem h00);have hspot:spot=none:=by simpa [Addr.add]using World.cell?_spot z0
   subst hspot;refine⟨b,off,rfl,fun k x hk=> ?_⟩;obtain⟨c0,c1,c2,c3,c4,c5,hok⟩:=hp k x hk;have hadd:∀ j,(⟨b,off,none⟩:Addr).add j=⟨b,off+j,none⟩:=fun j=>by unfold Addr.add;split <;> simp_all
   rw[hadd]at c0 c1 c2 c3 c4 c5;exact⟨by simpa using c0,by rw[Nat.add_assoc];exact c1,by rw[Nat.add_assoc];exact c2,by rw[Nat.add_assoc];exact c3,by rw[Nat.add_assoc];exact c4,by rw[Nat.add_assoc];exact c5,hok⟩
end
open Go.RowKit Go.Maps
abbrev StC (w:World) (b o:Nat) (s:aW):Prop:=w.cell? ⟨b,o,none⟩=some (.int .u8 s.k)/\w.cell? ⟨b,o+1,none⟩=some (.int .u8 s.v)/\w.cell? ⟨b,o+2,none⟩=some (.int .u8 s.o)/\w.cell? ⟨b,o+3,none⟩=some (.int .u8 s.a)/\w.cell? ⟨b,o+4,none⟩=some (.int .u8 s.n)/\w.cell? ⟨b,o+5,none⟩=some (.int .u8 s.s)
theorem rD.cells {w:World} {b o k:Nat} {s:aW} (h:rD w b o k s):StC w b (o+k*6) s:=⟨h.c0,h.c1,h.c2,h.c3,h.c4,h.c5⟩
def ApC (w1:World) (fam:World->Value->Fam->Prop) (t:TypeId) (G:Fam) (L:List E) (x0:Int) (p q r:Value) (W:World):Prop:=
 ∃T u v sa sc,p= .pointer (some ⟨T,0,none⟩)/\q= .slice sa L.length sc/\r= .int .i64 x0/\Bx W T t u v/\fam W (.agg #[u,v]) G/\Rd W sa L/\Below w1.heap.size w1 W/\w1.heap.size<=T
theorem bKy (F:Fam) (s:aW):(iB F s).2.1.length<=46912496118443:=by
 have h:∀ F G:Fam,(dS F G).length<=46912496118443:=fun F G=>by have:=qC F G;omega
 unfold iB
 split
 ·simp
 split
 ·simp
 split
 ·unfold bC
  split
  ·simp
  exact h _ _
 split
 ·unfold bY
  split
  ·simp
  split
  ·simp
  exact h _ _
 unfold aQ
 split
 ·simp
 split
 ·simp
 exact h _ _
end Go.Proofs.YtaiklhbakldfhaaGreat
