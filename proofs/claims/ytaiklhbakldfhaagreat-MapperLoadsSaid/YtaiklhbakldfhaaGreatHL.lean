/-
  What a change leaves of a sound family.
  recover in a region that draws its order.
  What stays as it was where one block is written: families of the reference.
  Conditions: as each theorem says.
-/
import Derived.Test.YtaiklhbakldfhaaGreatMpL
import Derived.Recover
import Derived.WalkKit
import Derived.Test.YtaiklhbakldfhaaGreatFcH
import Derived.Test.YtaiklhbakldfhaaGreatHH
namespace Go.Proofs.YtaiklhbakldfhaaGreat
set_option linter.unusedSimpArgs false
set_option linter.unusedVariables false
set_option maxRecDepth 100000
set_option maxHeartbeats 16000000
theorem aYg (nm:List UInt8):∀ (k:Nat) (F:Fam) (l:List UInt8) (G:Fam) (x:Int) (q:List UInt8) (B:Nat),F.ok->(∀v∈F.vs,v.l.length+l.length<=B)->wT k F nm l=some (G,x,q)->G.ok/\(∀v∈G.vs,v.l.length<=B)/\q.length<=l.length
 |0,F,l,G,x,q,B,hF,hB,h=>by cases h;exact⟨hF,fun v hv=>by have:=hB v hv;omega,Nat.le_refl _⟩
 | k + 1,F,l,G,x,q,B,hF,hB,h=>by
  cases hx:uW l with
  |none=>rw[aLv hx]at h;cases h
  | some p=>
   obtain⟨e,r⟩:=p;rw[aLu hx]at h;have hsh:=(zF hx).1;by_cases h0:(aQ F nm e).2.2=0
   ·rw [if_pos h0]at h;have h1:∀ v∈(aQ F nm e).1.vs,v.l.length+r.length<=B:=fun v hv=>by
     by_cases hem:F.vs=[]
     ·exfalso;have hq:(aQ F nm e).2.2=9:=by
       unfold aQ;have:aP F.vs nm=none:=by rw[hem];rfl
       rw[this]
      omega
     ·obtain⟨u,hu⟩:=List.exists_mem_of_ne_nil _ hem;have h5:=hB u hu;have:=aLt hF (nm:=nm) (x:=e) (B:=B-l.length) (fun u hu=>by have:=hB u hu;omega) h0 v hv;omega
    obtain⟨g1,g2,g3⟩:=aYg nm k _ r G x q B (nH hF nm e) h1 h;exact⟨g1,g2,by omega⟩
   ·rw [if_neg h0]at h;cases h;refine⟨nH hF nm e,fun v hv=> ?_,by omega⟩;have:(aQ F nm e).1=dR:=by
     unfold aQ at h0 ⊢
     cases hg:aP F.vs nm with
     |none=>rfl
     | some u=>
      rw[hg]at h0;simp only at h0 ⊢
      split
      ·rfl
      ·rename_i h9
       rw[if_neg h9]at h0;exact absurd rfl h0
    rw[this]at hv;cases hv
theorem bJk (l:List E) (p n:Int) (hn:0<=n) (hv:aI l=true):(fV l p n).length<=l.length+1:=by
 rw[nY l p n hn hv];refine Nat.le_trans (jL _) ?_;rw[List.length_append];exact aKb l p (p+n) (by omega) ((bQ l).1 hv).2
theorem aYc {k:Nat} {F G:Fam} {x:Int} {l q:List UInt8} {B:Nat} (hF:F.ok) (hB:∀ v∈F.vs,v.l.length+l.length<=B) (h:aEj k F l=some (G,x,q)):G.ok/\(∀v∈G.vs,v.l.length<=B):=by
 have hB':∀ v∈F.vs,v.l.length<=B:=fun v hv=>by have:=hB v hv;omega
 unfold aEj at h
 split at h
 ·unfold asP at h
  cases hb:eT l with
  |none=>rw[hb]at h;cases h
  | some p=>
   obtain⟨nm,l1⟩:=p;have:=iJ hb;rw[hb]at h;simp only at h
   split at h
   ·cases hn:fP l1 with
    |none=>rw[hn]at h;cases h
    | some p=>
     obtain⟨j,l2⟩:=p;have h2:=(jJ hn).1;rw[hn]at h;obtain⟨g1,g2,_⟩:=aYg nm j F l2 G x q B hF (fun v hv=>by have:=hB v hv;omega) h;exact⟨g1,g2⟩
   ·cases h;exact⟨hF,hB'⟩
 ·split at h
  ·unfold unP at h
   cases hb:eT l with
   |none=>rw[hb]at h;cases h
   | some p=>
    obtain⟨nm,l1⟩:=p;have:=iJ hb;rw[hb]at h;simp only at h
    cases hn:fP l1 with
    |none=>rw[hn]at h;cases h
    | some p=>
     obtain⟨a,l2⟩:=p;rw[hn]at h;simp only at h
     cases hm:fP l2 with
     |none=>rw[hm]at h;cases h
     | some p=>
      obtain⟨b,l3⟩:=p;rw[hm]at h;cases h;refine⟨aAg hF nm a b,fun v hv=> ?_⟩;unfold bY at hv
      cases hg:aP F.vs nm with
      |none=>rw[hg]at hv;cases hv
      | some u=>
       rw[hg]at hv;simp only at hv
       split at hv
       ·cases hv
       ·have hu:=(aH hg).1;rcases eF.1 hv with rfl|⟨hv,_⟩
        ·have h5:=bJk u.l a b (by omega) (hF.vol u hu).valid;have:=hB u hu;show(fV u.l a b).length<=B;omega
        ·exact hB' v hv
  ·split at h
   ·unfold crP at h
    cases hb:eT l with
    |none=>rw[hb]at h;cases h
    | some p=>
     obtain⟨nm,l1⟩:=p;rw[hb]at h;simp only at h
     cases hn:fP l1 with
     |none=>rw[hn]at h;cases h
     | some p=>
      obtain⟨a,l2⟩:=p;rw[hn]at h;simp only at h
      cases hm:fP l2 with
      |none=>rw[hm]at h;cases h
      | some p=>
       obtain⟨b,l3⟩:=p;rw[hm]at h;cases h;refine⟨aKe hF nm a b,fun v hv=> ?_⟩;unfold aU at hv
       split at hv
       ·cases hv
       ·split at hv
        ·cases hv
        ·split at hv
         ·cases hv
         ·rcases eF.1 hv with rfl|⟨hv,_⟩
          ·simp
          ·exact hB' v hv
   ·split at h
    ·unfold clP at h
     cases hb:eT l with
     |none=>rw[hb]at h;cases h
     | some p=>
      obtain⟨nm,l1⟩:=p;rw[hb]at h;simp only at h
      cases hn:eT l1 with
      |none=>rw[hn]at h;cases h
      | some p=>
       obtain⟨ot,l2⟩:=p;rw[hn]at h;cases h;refine⟨aQb hF nm ot,fun v hv=> ?_⟩;unfold bJ at hv
       cases hg:aP F.vs nm with
       |none=>rw[hg]at hv;cases hv
       | some u=>
        rw[hg]at hv;simp only at hv
        split at hv
        ·cases hv
        ·split at hv
         ·cases hv
         ·split at hv
          ·cases hv
          ·rcases eF.1 hv with rfl|⟨hv,_⟩
           ·exact hB' u (aH hg).1
           ·exact hB' v hv
    ·unfold deP at h
     cases hb:eT l with
     |none=>rw[hb]at h;cases h
     | some p=>
      obtain⟨nm,l1⟩:=p;rw[hb]at h;cases h;refine⟨xD hF nm,fun v hv=> ?_⟩;unfold bC at hv
      cases hg:aP F.vs nm with
      |none=>rw[hg]at hv;cases hv
      | some u=>
       rw[hg]at hv;exact hB' v (gM.1 hv).1
end Go.Proofs.YtaiklhbakldfhaaGreat
namespace Go
set_option linter.unusedSimpArgs false
set_option linter.unusedVariables false
set_option maxRecDepth 100000
section
variable {P:Program} {Q:Exit->Act->List Frame->World->Prop} {a:Act} {cs:List Frame} {w:World}
theorem kZ {id:Nat} {ops:Array Oper} (hm:P.follows .mixedOrders=true) (h:∀ t,wpOpsS P ops Q (Region.linearise .any ops t) a cs {w with drawn:=w.drawn+1}):(Code.region id ops true).wpS P Q a cs w:=by
 intro b k hb hr;have h2:=h (w.tape w.drawn (.order b.fn id));obtain⟨e,a',cs',w',q,r⟩:=wp_opsS _ a cs _ h2 b k hb hr;refine⟨e,a',cs',w',q,.of_steps (.one ?_) r⟩;have:=step_region_draw (P:=P) (b:=b) (a:=a) (k:=k) (cs:=cs) (w:=w) (ops:=ops) (id:=id);rw[this];simp only[Region.schedule,hm,Bool.true_or,if_true]
end
end Go
namespace Go.Proofs.YtaiklhbakldfhaaGreat
set_option linter.unusedSimpArgs false
set_option linter.unusedVariables false
set_option maxRecDepth 100000
open Go.RowKit Go.Maps
section
variable {W W':World} {X:Nat}
theorem RdR.grown (hX:Odd W X) (hg:W.grownBy W' (some X)) {a:Option Addr} {ts:List RT} (h:RdR W a ts):RdR W' a ts:=by
 refine ⟨h.1,h.2.imp id fun⟨b,o,ha,hat⟩=>⟨b,o,ha,fun k z hk=> ?_⟩⟩;have q:=hat k z hk;have hne:b≠X:=fun e=>by
  subst e;have h1:=q.c3;rw[hX.two _ (by omega)]at h1;cases h1
 exact⟨aZ hg q.c0 hne,aZ hg q.c1 hne,aZ hg q.c2 hne,aZ hg q.c3 hne⟩
theorem bI.grown (hX:Odd W X) (hg:W.grownBy W' (some X)) {gv:Value} {F:Fam} (hf:bI W gv F):bI W' gv F:=by
 obtain⟨a,c,ts,h1,h2,h3,h4⟩:=hf;exact⟨a,c,ts,h1,h2.grown hX hg,fun z hz=>(h3 z hz).grown hX hg,h4⟩
end
end Go.Proofs.YtaiklhbakldfhaaGreat
