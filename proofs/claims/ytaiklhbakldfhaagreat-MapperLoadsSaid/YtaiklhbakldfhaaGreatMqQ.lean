/-
  What the laws' walks share: the mapper and the family of the reference.
  Conditions: as each theorem says.
-/
import Derived.Test.YtaiklhbakldfhaaGreatMqM
namespace Go.Proofs.YtaiklhbakldfhaaGreat
set_option linter.unusedSimpArgs false
set_option linter.unusedVariables false
set_option maxRecDepth 100000
set_option maxHeartbeats 16000000
open Go.RowKit Go.Maps
structure LM (w0 W:World) (M T:Nat) (H F:Fam) (u v:Value):Prop where
 map:dU W M H
 fb:Bx W T 31 u v
 fam:bI W (.agg #[u,v]) F
 o1:w0.heap.size<=M
 o2:M<T
 B:Below w0.heap.size w0 W
section
variable {w0 W W':World} {M T:Nat} {H G F:Fam} {u v:Value}
theorem LM.later (h:LM w0 W M T H F u v) (hb:Below W.heap.size W W'):LM w0 W' M T H F u v:=⟨h.map.later hb,h.fb.later hb,h.fam.keep hb,h.o1,h.o2,h.B.on hb⟩
theorem LM.went (h:LM w0 W M T H F u v) (hm:dU W' M G) (hg:W.grownBy W' (some M)):LM w0 W' M T G F u v:=by
 have q1:=h.o1;have q2:=h.o2;exact⟨hm,h.fb.grown hg (fun e=>by injection e with e;omega),h.fam.grown h.map.odd hg,q1,q2,h.B.bMu hg fun j e=>by injection e with e;omega⟩
theorem LM.new {w1:World} (hm:dU w1 M F) (hf:bI w1 (.agg #[u,v]) F) (hb:Below w0.heap.size w0 w1) (ho:w0.heap.size<=M):LM w0 (w1.alloc (.cells #[u,v] 31)) M w1.heap.size F F u v:=by
 have hk:=(Below.refl w1.heap.size w1).bMq (.cells #[u,v] 31);have hlt:M<w1.heap.size:=by
  obtain⟨_,_,h,_⟩:=hm;exact h.lt
 exact⟨hm.later hk,Bx.new w1 _ rfl u v _,hf.keep hk,ho,hlt,hb.on hk⟩
theorem bI.len {w:World} {N:Int} {a:Option Addr} {n c:Nat} {F:Fam} (h:bI w (.agg #[.int .i64 N,.slice a n c]) F):n=F.vs.length:=by
 obtain⟨a',c',ts,he,_,_,hts,_⟩:=h;injection he with he;have h1:=congrArg Array.toList he;simp at h1;rw[h1.2.2.1,<-hts,List.length_map]
end
theorem bEh (M:Nat) (F:Fam) (nm:List UInt8) (p:Int) (n cd:Nat) (D:List Bk) (ad:Option Addr) (w:World) (hF:F.sound) (ho:F.once) (h:dU w M F) (hn:nm.length<=1000000) (hp: -9223372036854775808<=p/\p<=9223372036854775807) (hD:D.length=n) (hnn:n<=1000000) (hrd:RdB w ad D):
  Calls Tryz.prog 14 #[.pointer (some ⟨M,0,none⟩),nmV nm,.int .i64 p,.slice ad n cd] w fun e w'=>∃ v,e= .returned v/\Below w.heap.size w w':=by
 by_cases he:jR F nm p n=0
 ·obtain⟨v,p0,n0,k,hv,hvn,hp0,hn0,g1,g2,hk,hf,hpw⟩:=aJv hF ho he;obtain rfl:n0=n:=by omega
  subst hvn;subst hp0;refine(qG M F v p0 n0 cd k D _ ad w hF.ok hF.short h hv hD hpw.le hrd he hk hf rfl).mono ?_;rintro e w' ⟨a1,c1,a2,c2,rfl,_,_,hb⟩;exact⟨_,rfl,hb⟩
 ·refine(aAk M F _ nm p n cd ad w hF.ok hF.short h hn hp hnn rfl he).mono ?_;rintro e w' ⟨rfl,hb⟩;exact⟨_,rfl,hb⟩
end Go.Proofs.YtaiklhbakldfhaaGreat
