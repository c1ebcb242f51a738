/-
  The argument of MapperForged and MapperLoads opened; what Apply makes of any bytes.
  Conditions: as each theorem says.
-/
import Derived.Test.YtpjlignclchgiaaGreatMqQ
import Derived.Test.YtpjlignclchgiaaGreatGB
namespace Go.Proofs.YtpjlignclchgiaaGreat
set_option linter.unusedSimpArgs false
set_option linter.unusedVariables false
set_option maxRecDepth 100000
set_option maxHeartbeats 16000000
open Go.ChangeShapes Go.WideShapes Go.ChangeAt Go.RowKit Go.Deep
theorem bAx {α:Type} {P:Nat->α->Prop} (n:Nat) (h:∀ i,i<n-> ∃x,P i x):∃ l:List α,l.length=n/\ ∀i x,l[i]? =some x->P i x:=by
 induction n with
 |zero=>exact⟨[],rfl,fun i x hx=>by simp at hx⟩
 | succ n ih=>
  obtain⟨l,h1,h2⟩:=ih fun i hi=>h i (by omega);obtain⟨x,hx⟩:=h n (by omega);refine⟨l++[x],by simp[h1],fun i y hy=> ?_⟩;rcases Nat.lt_trichotomy i l.length with q|q|q
  ·rw[List.getElem?_append_left q]at hy;exact h2 i y hy
  ·rw[List.getElem?_append_right (by omega),q,Nat.sub_self]at hy;simp at hy;subst hy;rw[q,h1];exact hx
  ·have:=(List.getElem?_eq_some_iff.1 hy).1;simp at this;omega
section
variable {H:Type} {enc:TypeId × Value->H} {w:World}
theorem aUw {a:Option Addr} {len cap fuel:Nat} {x:DataW H × List MemPlace} (h:DataW.trod enc Tryz.prog w 0 (fun _=>true) true fuel 33 [.slice a len cap]=some x):
  ∃l:List UInt8,l.length=len/\(len<=9223372036854775807/\len<=cap/\cap<=9223372036854775807)/\(len<=1000000000->RdY w a l):=by
 have hce:Tryz.prog.cellsOf 5=1:=by kernel_rfl
 rcases open_slice Tryz.underlying33 h with ⟨hcs,_⟩|⟨ad,len',cap',m,n,D,Pl,hcs,hb,hl,hm,hmm,hx,hi⟩
 ·simp at hcs;obtain⟨rfl,rfl,rfl⟩:=hcs;exact⟨[],rfl,⟨by omega,by omega,by omega⟩,fun _=>RdY.nil w⟩
 ·simp at hcs;obtain⟨rfl,rfl,rfl⟩:=hcs;simp only[if_true]at hmm;subst hmm;obtain⟨L,hlen,hp⟩:=bAx (P:=fun i (x:UInt8)=>w.cell? (ad.add i)=some (byV x)) len (fun i hlt=>by
   obtain⟨cs',hc,ht'⟩:=hi i (by omega);rw[hce]at hc;obtain⟨_,hcl,hat⟩:=World.cells?_some hc;obtain⟨v,k0,_,w0⟩:=DataW.trod_int Tryz.underlying5 ht';have h0:=hat 0 (by omega);rw[k0]at h0;have hb:=bounds_u8 w0;refine⟨v.toNat.toUInt8,?_⟩;rw[Go.Deep.add_add]at h0;have h0:w.cell? (ad.add i)=some (.int .u8 v):=by simpa using h0
   rw[h0];show some (Value.int .u8 v)=some (Value.int .u8 _);rw[jD (by omega)];congr 2
   omega)
  refine⟨L,hlen,by unfold maxLen at hm;exact⟨by omega,hl,by omega⟩,fun h9=>⟨by omega,?_⟩⟩;by_cases h0:L=[]
  ·exact .inl h0
  ·refine .inr ?_;obtain⟨b,off,spot⟩:=ad;have h00:0<L.length:=List.length_pos_iff.2 h0;have z0:=hp 0 _ (List.getElem?_eq_getElem h00);have hspot:spot=none:=by simpa [Addr.add]using World.cell?_spot z0
   subst hspot;refine⟨b,off,rfl,fun k x hk=> ?_⟩;have c0:=hp k x hk;have hadd:∀ j,(⟨b,off,none⟩:Addr).add j=⟨b,off+j,none⟩:=fun j=>by unfold Addr.add;split <;> simp_all
   rw[hadd]at c0;exact c0
theorem aPy {r:Reach} {b0:Nat} {v:Value} {d:DataW H} {p:List MemPlace} (hv:Value.okWide Tryz.prog w r b0 70 v) (h:DataW.Trod enc Tryz.prog w 0 (fun _=>true) true 70 v d p):
  ∃(l:List UInt8) (al:Option Addr) (cl:Nat) (x y:Int),v= .agg #[.slice al l.length cl,.int .u16 x,.int .u8 y]/\l.length<=9223372036854775807/\(l.length<=1000000000->RdY w al l)/\(0<=x/\x<=65535)/\(0<=y/\y<=255):=by
 obtain ⟨v0,v1,v2,y0,y1,y2,n,rfl,_,_,t0,t1,t2⟩:=Joins.open_agg3 Tryz.underlying70 (by kernel_rfl) (by kernel_rfl) hv h;obtain⟨n1,e1,_,w1⟩:=DataW.trod_int Tryz.underlying68 t1;obtain⟨n2,e2,_,w2⟩:=DataW.trod_int Tryz.underlying5 t2;simp at e1 e2;subst e1 e2;obtain⟨al,ln,cl,rfl⟩:∃ al ln cl,v0= .slice al ln cl:=by
  rcases open_slice Tryz.underlying33 t0 with ⟨hcs,_⟩|⟨a1,l1,c1,_,_,_,_,hcs,_⟩
  ·simp at hcs;exact⟨_,_,_,hcs⟩
  ·simp at hcs;exact⟨_,_,_,hcs⟩
 obtain⟨l,rfl,hl1,hl2⟩:=aUw t0;exact⟨l,al,cl,n1,n2,rfl,hl1.1,hl2,bounds_u16 w1,bounds_u8 w2⟩
end
theorem bCs {F:Fam} (hF:F.sound) (l:List UInt8):∃ G y,fO F l=(G,y)/\G.ok/\(∀v∈G.vs,v.l.length<=8000)/\0<=cB G/\(y≠0->G=F):=by
 have same:∀ e:Int,∃G y,((F,e):Fam × Int)=(G,y)/\G.ok/\(∀v∈G.vs,v.l.length<=8000)/\0<=cB G/\(y≠0->G=F):=fun e=>⟨F,e,rfl,hF.ok,hF.short8,hF.room,fun _=>rfl⟩;unfold fO
 split
 ·exact same 5
 rename_i h256
 split
 ·exact same 5
 rename_i k r hu
 have hsh:=lL hu
 split
 ·split
  ·exact same 5
  rename_i G e q hc
  obtain ⟨g1,g2⟩:=aYc (B:=600) hF.ok (fun v hv=>by
   have h1:=(hF.ok.vol v hv).short.2;have h2:=hF.small v hv
   omega) hc
  unfold aEg
  split
  ·exact same e
  split
  ·exact same 5
  split
  ·exact same 11
  rename_i h1 h2 h3
  exact⟨G,0,rfl,g1,fun v hv=>Nat.le_trans (g2 v hv) (by omega),by omega,fun h=>absurd rfl h⟩
 ·exact same 5
structure Fg (W:World) (B:Nat) (u0 u1 u2:Value):Prop where
 c0:W.cell? ⟨B,0,none⟩=some u0
 c1:W.cell? ⟨B,1,none⟩=some u1
 c2:W.cell? ⟨B,2,none⟩=some u2
theorem Fg.later {W W':World} {B:Nat} {u0 u1 u2:Value} (h:Fg W B u0 u1 u2) (hb:Below W.heap.size W W'):Fg W' B u0 u1 u2:=⟨hb.keep h.c0,hb.keep h.c1,hb.keep h.c2⟩
theorem Fg.new (V:World) (u0 u1 u2:Value) (t:TypeId):Fg (V.alloc (.cells #[u0,u1,u2] t)) V.heap.size u0 u1 u2:=⟨by simp,by simp,by simp⟩
theorem bHz (x:Int):0<=IntKind.u8.wrap x/\IntKind.u8.wrap x<=255:=by
 have:IntKind.u8.wrap x=x%256:=rfl;omega
theorem aPf {w:World} {g j:Nat} {l:List UInt8} {z:Int} (hl:l.length<=1000000000) (hat:∀ k x,l[k]? =some x->w.cell? ⟨g,k,none⟩=some (byV x)) (hj:j<l.length) (hz:0<=z/\z<=255):RdY (w.setCell ⟨g,j,none⟩ (.int .u8 z)) (some ⟨g,0,none⟩) (l.set j z.toNat.toUInt8):=by
 refine⟨by rw[List.length_set];exact hl,.inr ⟨g,0,rfl,fun k x hk=> ?_⟩⟩;rw[Nat.zero_add];rw[List.getElem?_set]at hk;by_cases e:j=k
 ·subst e;rw[if_pos rfl,if_pos hj]at hk;injection hk with hk;subst hk;rw[World.cell?_setCell_same _ _ _ (hat j _ (List.getElem?_eq_getElem hj))];show some (Value.int .u8 z)=some (Value.int .u8 _);rw[jD (by omega)];congr 2;omega
 ·rw[if_neg e]at hk;rw[World.cell?_setCell_other _ _ _ _ (by simp[e])];exact hat k x hk
end Go.Proofs.YtpjlignclchgiaaGreat
