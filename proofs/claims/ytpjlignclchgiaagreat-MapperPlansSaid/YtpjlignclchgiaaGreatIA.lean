/-
  The walk of the law FamilyScript.
  The walk of the law FamilyIndependent; a step opened.
  Conditions: as each theorem says.
-/
import Derived.Test.YtpjlignclchgiaaGreatHR
namespace Go.Proofs.YtpjlignclchgiaaGreat
set_option linter.unusedSimpArgs false
set_option linter.unusedVariables false
set_option maxRecDepth 100000
set_option maxHeartbeats 16000000
open Go.RowKit Go.Maps
structure LB (w W:World) (T:Nat) (u v x y:Value) (F:Fam):Prop where
 fb:Bx W T 76 u v
 gb:Bx W (T+1) 30 x y
 fam:FamV W (.agg #[u,v]) F
 famr:FamR W (.agg #[x,y]) F
 B:Below w.heap.size w W
 le:w.heap.size≤T
theorem LB.later {w W W':World} {T:Nat} {u v x y:Value} {F:Fam} (h:LB w W T u v x y F) (hb:Below W.heap.size W W'):LB w W' T u v x y F:=
 ⟨h.fb.later hb,h.gb.later hb,h.fam.keep hb,h.famr.keep hb,h.B.on hb,h.le⟩
theorem LB.new {w w2:World} {u v x y:Value} {F:Fam} (hf:FamV w2 (.agg #[u,v]) F) (hg:FamR w2 (.agg #[x,y]) F) (hb:Below w.heap.size w w2):LB w ((w2.alloc (.cells #[u,v] 76)).alloc (.cells #[x,y] 30)) w2.heap.size u v x y F:=by
 have hk:=((Below.refl w2.heap.size w2).onAlloc (.cells #[u,v] 76)).onAlloc (.cells #[x,y] 30);exact⟨(Bx.new w2 _ rfl u v _).later ((Below.refl _ _).onAlloc _),Bx.new _ _ (by simp) x y _,hf.keep hk,hg.keep hk,hb.on hk,hb.size⟩
open Go.ChangeShapes Go.WideShapes Go.ChangeAt Go.RowKit Go.Deep Go.Maps
section
variable {H:Type} {enc:TypeId × Value→H} {w:World}
theorem step_trod {cs:List Value} {fuel:Nat} {x:DataW H × List MemPlace} (h:DataW.trod enc Tryz.prog w 0 (fun _=>true) true fuel 37 cs=some x):
  ∃s:Step36,cs=[.int .u8 s.k,.int .u8 s.v,.int .u8 s.o,.int .u8 s.a,.int .u8 s.n,.int .u8 s.s]∧s.ok:=by
 obtain⟨xs,m,_,_,hlen,hl,hel⟩:=DataW.trod_struct Tryz.underlying37 h;rw[show Tryz.prog.cellsOf 37=6 by kernel_rfl]at hlen;have hce:Tryz.prog.cellsOf 5=1:=by kernel_rfl
 have hl6:xs.length=6:=hl
 match cs,hlen with
 | [c0,c1,c2,c3,c4,c5],_=>
  have e0:=hel 0 _ rfl;have e1:=hel 1 _ rfl;have e2:=hel 2 _ rfl;have e3:=hel 3 _ rfl;have e4:=hel 4 _ rfl;have e5:=hel 5 _ rfl;have y0:xs[0]? =some (xs[0]'(by omega)):=List.getElem?_eq_getElem (by omega);have y1:xs[1]? =some (xs[1]'(by omega)):=List.getElem?_eq_getElem (by omega);have y2:xs[2]? =some (xs[2]'(by omega)):=List.getElem?_eq_getElem (by omega);have y3:xs[3]? =some (xs[3]'(by omega)):=List.getElem?_eq_getElem (by omega);have y4:xs[4]? =some (xs[4]'(by omega)):=List.getElem?_eq_getElem (by omega);have y5:xs[5]? =some (xs[5]'(by omega)):=List.getElem?_eq_getElem (by omega);rw[y0]at e0;rw[y1]at e1;rw[y2]at e2;rw[y3]at e3;rw[y4]at e4;rw[y5]at e5;obtain⟨n0,k0,_,w0⟩:=DataW.trod_int Tryz.underlying5 e0;obtain⟨n1,k1,_,w1⟩:=DataW.trod_int Tryz.underlying5 e1;obtain⟨n2,k2,_,w2⟩:=DataW.trod_int Tryz.underlying5 e2;obtain⟨n3,k3,_,w3⟩:=DataW.trod_int Tryz.underlying5 e3;obtain⟨n4,k4,_,w4⟩:=DataW.trod_int Tryz.underlying5 e4;obtain⟨n5,k5,_,w5⟩:=DataW.trod_int Tryz.underlying5 e5;replace k0:[c0]=[.int .u8 n0]:=k0;replace k1:[c1]=[.int .u8 n1]:=k1;replace k2:[c2]=[.int .u8 n2]:=k2;replace k3:[c3]=[.int .u8 n3]:=k3;replace k4:[c4]=[.int .u8 n4]:=k4;replace k5:[c5]=[.int .u8 n5]:=k5;injection k0 with k0;injection k1 with k1;injection k2 with k2;injection k3 with k3;injection k4 with k4;injection k5 with k5;subst k0 k1 k2 k3 k4 k5;exact⟨⟨n0,n1,n2,n3,n4,n5⟩,rfl,bounds_u8 w0,bounds_u8 w1,bounds_u8 w2,bounds_u8 w3,bounds_u8 w4,bounds_u8 w5⟩
theorem open_step36 {r:Reach} {b0:Nat} {v:Value} {d:DataW H} {p:List MemPlace} (hv:Value.okWide Tryz.prog w r b0 37 v) (h:DataW.Trod enc Tryz.prog w 0 (fun _=>true) true 37 v d p):
  ∃s:Step36,v=s.val∧s.ok:=by
 obtain ⟨cs,rfl,hsz,_⟩:∃ cs,v= .agg cs∧cs.size=Tryz.prog.cellsOf 37∧Row.okWide Tryz.prog w r b0 37 cs:=by
  simpa [Value.okWide,Tryz.underlying37]using hv
 obtain ⟨fuel,hf⟩:=h;obtain⟨s,hs,hok⟩:=step_trod hf;refine⟨s,?_,hok⟩;have:cs= #[.int .u8 s.k,.int .u8 s.v,.int .u8 s.o,.int .u8 s.a,.int .u8 s.n,.int .u8 s.s]:=by
  apply Array.toList_inj.1
  exact hs
 rw[this]
end
end Go.Proofs.YtpjlignclchgiaaGreat
