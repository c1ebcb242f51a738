/-
  tegulalaw36: the statements' helper same.
  Conditions: as the theorem says.
-/
import Derived.Test.YtaiklhbakldfhaaGreatHQ
import Derived.Test.YtaiklhbakldfhaaGreatHU
namespace Go.Proofs.YtaiklhbakldfhaaGreat
set_option linter.unusedSimpArgs false
set_option linter.unusedVariables false
set_option maxRecDepth 100000
set_option maxHeartbeats 16000000
open Go.RowKit Go.Maps
theorem bLs.rd {w:World} {B:Nat} {v:Value} {l:List (List UInt8)} (h:bLs w B v l):∃ a c,v= .slice a l.length c/\(l=[]∨ ∃g,a=some ⟨g,0,none⟩/\ ∀k x,l[k]? =some x->w.cell? ⟨g,k,none⟩=some (nmV x)):=by
 rcases h.2 with ⟨rfl,hn⟩|⟨g,cap,cur,rfl,hb,hg,hn,hc,hs,ht⟩
 ·exact⟨_,_,by rw[hn],.inl (List.eq_nil_of_length_eq_zero hn)⟩
 ·refine⟨_,_,rfl,.inr ⟨g,rfl,fun k x hk=> ?_⟩⟩;have hk':k<l.length:=(List.getElem?_eq_some_iff.1 hk).1;rw[World.ownsRow.cellAt (cap:=cap) h k (by omega),List.getElem?_map,hk];rfl
structure SB (w W:World) (u v x y:Value) (F:Fam):Prop where
 fb:Bx W w.heap.size 46 u v
 gb:Bx W (w.heap.size+1) 31 x y
 fam:bA W (.agg #[u,v]) F
 famr:bI W (.agg #[x,y]) F
 B:Below w.heap.size w W
theorem SB.later {w W W':World} {u v x y:Value} {F:Fam} (h:SB w W u v x y F) (hb:Below W.heap.size W W'):SB w W' u v x y F:=
 ⟨h.fb.later hb,h.gb.later hb,h.fam.keep hb,h.famr.keep hb,h.B.on hb⟩
theorem SB.init (w:World) (u v x y:Value) (F:Fam) (h1:bA w (.agg #[u,v]) F) (h2:bI w (.agg #[x,y]) F) (W:World) (hW:W=(w.alloc (.cells #[u,v] 46)).alloc (.cells #[x,y] 31)):SB w W u v x y F:=by
 subst hW;have hk:=((Below.refl w.heap.size w).bMq (.cells #[u,v] 46)).bMq (.cells #[x,y] 31);exact⟨(Bx.new w _ rfl u v _).later ((Below.refl _ _).bMq _),Bx.new _ _ (by simp) x y _,h1.keep hk,h2.keep hk,hk⟩
theorem bIs {F:Fam} (hF:F.ok) {v:Vol} (hv:v∈F.vs):eP F v.nm=(⟨v.nm,v.n,v.r,aT v.l,bF F.C v.l⟩,0):=by
 unfold eP;rw[iO hF.sorted hv];rfl
theorem aAa (F:Fam) (im:List UInt8) (i1 i2 i3 i4 e0:Int) (gv:Value) (nm:List UInt8) (w:World) (hF:F.ok) (h:bI w gv F) (hnm:nm.length<=maxLen) (he:eP F nm=(⟨im,i1,i2,i3,i4⟩,e0)):
  Calls Tryz.prog 70 #[gv,nmV nm] w fun e w'=>e= .returned (.tuple #[.agg #[nmV im,.int .i64 i1,.int .i64 i2,.int .i64 i3,.int .i64 i4],.int .i64 e0])/\Below w.heap.size w w':=by
 have:=bDq F gv nm w hF h hnm
 rwa [he]at this
theorem aMl (F:Fam) (L:List E) (e0:Int) (fv:Value) (nm:List UInt8) (p q:Int) (w:World) (hF:F.ok) (h:bA w fv F) (hn:nm.length<=maxLen) (hp: -9223372036854775808<=p/\p<=9223372036854775807) (hq: -9223372036854775808<=q/\q<=9223372036854775807) (he:fU F nm p q=(L,e0)):
  Calls Tryz.prog 20 #[fv,nmV nm,.int .i64 p,.int .i64 q] w fun e w'=>∃ sv,e= .returned (.tuple #[sv,.int .i64 e0])/\aG w' w.heap.size sv L/\Below w.heap.size w w':=by
 have:=aLb F fv nm p q w hF h hn hp hq
 rwa [he]at this
theorem aMf (F:Fam) (N:Int) (fv:Value) (w:World) (hF:F.ok) (h:bA w fv F) (hN:(F.N:Int)=N):Calls Tryz.prog 69 #[fv] w fun e w'=>e= .returned (.int .i64 N)/\Below w.heap.size w w':=by
 subst hN;exact aKy F fv w hF h
theorem bLd (C:List Int) (k:Nat) (h:k<C.length):ofC C k=C.getD k 0:=by
 unfold ofC;rw[if_pos ⟨by omega,by omega⟩];simp
def yF (w:World) (na:Option Addr) (l:List (List UInt8)):Prop:=l=[]∨ ∃g,na=some ⟨g,0,none⟩/\ ∀k x,l[k]? =some x->w.cell? ⟨g,k,none⟩=some (nmV x)
theorem yF.keep {w w':World} {na:Option Addr} {l:List (List UInt8)} (h:yF w na l) (hb:Below w.heap.size w w'):yF w' na l:=
 h.imp id fun⟨g,h1,h2⟩=>⟨g,h1,fun k x hk=>hb.keep (h2 k x hk)⟩
def bLt (w1:World) (i:qE) (p q:Value) (W:World):Prop:= ∃T,p= .pointer (some ⟨T,0,none⟩)/\q= .int .i64 0/\IT W T i/\Below w1.heap.size w1 W
end Go.Proofs.YtaiklhbakldfhaaGreat
