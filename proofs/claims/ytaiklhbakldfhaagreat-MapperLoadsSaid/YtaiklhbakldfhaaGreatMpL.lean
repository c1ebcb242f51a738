/-
  package mapper: the changes that notes describe: the assignment of extents.
  Conditions: as each theorem says.
-/
import Derived.Test.YtaiklhbakldfhaaGreatHJ
namespace Go.Proofs.YtaiklhbakldfhaaGreat
open Go.Lib (hid)
set_option linter.unusedSimpArgs false
set_option linter.unusedVariables false
set_option maxRecDepth 100000
set_option maxHeartbeats 16000000
open Go.RowKit Go.Maps
theorem aKb (l:List E) (p q:Int) (hpq:p<=q):l.Pairwise (fun x y=>x.a+x.n<=y.a)->(aJ l 0 p).length+(aJ l q 65536).length<=l.length+1:=by
 induction l with
 |nil=>intro _;simp[aJ]
 | cons x r ih=>
  intro h;obtain⟨h1,h2⟩:=List.pairwise_cons.1 h;have ih:=ih h2;rw[dO,dO,List.length_append,List.length_append,List.length_cons];have hr:=bU r q 65536;by_cases hx:bR x 0 p=true/\bR x q 65536=true
  ·have h0:aJ r 0 p=[]:=nG r 0 p fun y hy=> .inr (by
    have hy1:=h1 y hy;obtain⟨ha,hb⟩:=hx;unfold bR at ha hb;simp only[decide_eq_true_eq]at ha hb
    omega)
   rw[h0,if_pos hx.1,if_pos hx.2];simp;omega
  ·by_cases ha:bR x 0 p=true
   ·rw[if_pos ha,if_neg (fun h=>hx ⟨ha,h⟩)];simp;omega
   ·rw [if_neg ha]
    split
    all_goals
     simp;omega
theorem bEa (l:List E) (x:E) (hn:0<=x.n) (hv:aI l=true):(bK l x).length<=l.length+2:=by
 unfold bK;refine Nat.le_trans (jL _) ?_;rw[List.length_append,List.length_append,List.length_singleton];have:=aKb l x.a (x.a+x.n) (by omega) ((bQ l).1 hv).2;omega
theorem aLt {F:Fam} (hF:F.ok) {nm:List UInt8} {x:E} {B:Nat} (h:∀ v∈F.vs,v.l.length<=B) (he:(aQ F nm x).2.2=0):∀ v∈(aQ F nm x).1.vs,v.l.length<=B+2:=by
 unfold aQ at he ⊢
 cases hg:aP F.vs nm with
 |none=>rw[hg]at he;simp at he
 | some u=>
  rw[hg]at he;simp only at he ⊢
  split
  ·rename_i h1
   rw[if_pos h1]at he;simp at he
  ·rename_i h1
   intro v hv;have hu:=(aH hg).1;rcases eF.1 hv with rfl|⟨hv,_⟩
   ·simp only[Bool.not_eq_false,Bool.and_eq_true]at h1;have h2:=(iN _ _ _).1 h1.1;have:=bEa u.l x h2.2.1 (hF.vol u hu).valid;have:=h u hu;show(bK u.l x).length<=B+2;omega
   ·have:=h v hv;omega
theorem aLu {k:Nat} {F:Fam} {nm l r:List UInt8} {x:E} (h:uW l=some (x,r)):wT (k+1) F nm l=if (aQ F nm x).2.2=0 then wT k (aQ F nm x).1 nm r else some ((aQ F nm x).1,(aQ F nm x).2.2,r):=by
 show(match uW l with|none=>none|some (x,r)=>_)=_;rw[h]
theorem aLv {k:Nat} {F:Fam} {nm l:List UInt8} (h:uW l=none):wT (k+1) F nm l=none:=by
 show(match uW l with|none=>none|some (x,r)=>_)=_;rw[h]
theorem bLl {l r:List UInt8} {x:E} (h:uW l=some (x,r)):x.wf:=by
 have:=zF h;unfold E.wf;omega
def AsI (w:World) (X:Nat) (nm:List UInt8) (o:Option (Fam × Int × List UInt8)) (k j:Nat) (wr:World):Prop:=
 ∃(G:Fam) (ga:Option Addr) (gc:Nat) (gm:Option Nat) (r:List UInt8),CL w wr X (.slice ga G.N gc) (.map gm) G r/\G.ok/\(∀v∈G.vs,v.l.length+r.length<=9000)/\wT (k-j) G nm r=o
theorem bJr (F:Fam) (fv:Value) (X:Nat) (l:List UInt8) (w:World) (hF:F.ok) (hs:∀ v∈F.vs,v.l.length+l.length<=9000) (hf:bA w fv F) (hr:gG w X l) (hl:l.length<=1000000):
  Calls Tryz.prog 82 #[fv,.agg #[.pointer (some ⟨X,0,none⟩)]] w (aXe w X (asP F l)):=by
 obtain⟨a,c,m,rfl⟩:=hf.form;have H:=hid (CL.init w X _ _ F l hf hr _ rfl);have hrb:=H.o.rb
 cases hb:eT l with
 | none=>
  have U:=hid hb;have HP:Hid (asP F l=none):=hid (by unfold asP;rw[hb]);clear hb hf hr;rw[HP.o];go_enter Tryz.func82,Tryz.ntmps82;go_wp2_with fail;refine(sN H.o.r U.o).mono ?_;rintro e w1 ⟨rfl,hg1⟩;exact⟨rfl,rfl,H.o.g.next hg1⟩
 | some p =>
  obtain⟨nm,l1⟩:=p;have hsh:=iJ hb;have hnm:nm.length<=maxLen:=by simp only[maxLen];omega
  have U:=hid hb;have HNM:=hid hnm;have HF:=hid hF;have HS:Hid (∀v∈F.vs,v.l.length<=9000):=hid fun v hv=>by have:=hs v hv;omega
  have HS2:=hid hs;obtain⟨⟨im,i1,i2,i3,i4⟩,e0,hi⟩:∃ i e0,eP F nm=(i,e0):=⟨_,_,rfl⟩;have HI:=hid hi;have hasP:asP F l=if e0=0 then (match fP l1 with|none=>none|some (k,l2)=>wT k F nm l2)else some (F,e0,l1):=by
   unfold asP;rw[hb];simp only;rw[hi];rfl
  by_cases he0:e0=0
  ·subst he0;rw[if_pos rfl]at hasP
   cases hb2:fP l1 with
   | none=>
    rw[hb2]at hasP;have HP:=hid hasP;have U2:=hid hb2;clear hb hb2 hf hr hs hnm hi hasP hF hsh;rw[HP.o];go_enter Tryz.func82,Tryz.ntmps82;go_wp2_with fail;refine(gW H.o.r U.o).mono ?_;rintro e w1 ⟨rfl,hr1,hg1⟩;replace H:=hid (H.o.went hr1 hg1);clear hr1 hg1 hrb;have b0:=H.o.fb.c0;have b1:=H.o.fb.c1;go_wp2_with fail;refine(sD F im i1 i2 i3 i4 0 _ nm _ HF.o HS.o H.o.fam HNM.o HI.o).mono ?_;rintro e w2 ⟨rfl,hb2⟩;replace H:=hid ((H.o.later hb2).later ((Below.refl _ _).bMq (.cells #[nmV im,.int .i64 i1,.int .i64 i2,.int .i64 i3,.int .i64 i4] 73)));have hrb:=H.o.rb;clear hb2 b0 b1;go_wp2_with fail;refine(rH H.o.r U2.o).mono ?_;rintro e w3 ⟨rfl,hg1⟩;exact⟨rfl,rfl,H.o.g.next hg1⟩
   | some p=>
    obtain⟨k,l2⟩:=p;rw[hb2]at hasP;have hk9:=(jJ hb2);have HP:Hid (asP F l=wT k F nm l2):=hid hasP;have U2:=hid hb2;have HS3:Hid (∀v∈F.vs,v.l.length+l2.length<=9000):=hid fun v hv=>by have:=hs v hv;omega
    clear hb hb2 hf hr hs hnm hi hasP hF;rw[HP.o];obtain⟨O,hO⟩:∃ O,wT k F nm l2=O:=⟨_,rfl⟩;have HO:=hid hO;have HKO:Hid (wT (k-0) F nm l2=O):=hid hO;rw[HO.o];have hk:k<=65536:=hk9.2;clear hO hk9 HP;go_enter Tryz.func82,Tryz.ntmps82;go_wp2_with fail;refine(gW H.o.r U.o).mono ?_;rintro e w1 ⟨rfl,hr1,hg1⟩;replace H:=hid (H.o.went hr1 hg1);clear hr1 hg1 hrb;have b0:=H.o.fb.c0;have b1:=H.o.fb.c1;go_wp2_with fail;refine(sD F im i1 i2 i3 i4 0 _ nm _ HF.o HS.o H.o.fam HNM.o HI.o).mono ?_;rintro e w2 ⟨rfl,hb2⟩;replace H:=hid ((H.o.later hb2).later ((Below.refl _ _).bMq (.cells #[nmV im,.int .i64 i1,.int .i64 i2,.int .i64 i3,.int .i64 i4] 73)));have hrb:=H.o.rb;clear hb2 b0 b1;go_wp2_with fail;refine(iT H.o.r U2.o).mono ?_;rintro e w3 ⟨rfl,hr1,hg1⟩;replace H:=hid (H.o.went hr1 hg1);clear hr1 hg1 hrb;go_wp2_with fail;go_loopw [9,24] (fun e i wr=>∃ (j:Nat),j<=k/\e= .int .i64 0/\i= .int .i64 j/\AsI w X nm O k j wr) (fun _ i _=>k-(intOf i).toNat)
    case atStart=>exact⟨0,Nat.zero_le _,rfl,rfl,F,a,c,m,l2,H.o,HF.o,HS3.o,HKO.o⟩
    case round=>
     obtain⟨j,hj,rfl,rfl,G,ga,gc,gm,r,hc,hGo,hGs,hGp⟩:=hrel;have HC:=hid hc;have HGO:=hid hGo;have HGS:=hid hGs;have HGP:=hid hGp;clear hc hGo hGs hGp H HS HS2 HS3 HF HI;have b0:=HC.o.fb.c0;have b1:=HC.o.fb.c1;have hrb:=HC.o.rb;by_cases hlt:j<k
     ·cases hx:uW r with
      | none=>
       have U3:=hid hx;obtain rfl:O=none:=by
        have:=HGP.o;rw[show k-j=(k-j-1)+1 by omega,aLv hx]at this;exact this.symm
       clear hx;go_upto_region 8 with fail;have HD:=hid (HC.o.later (Below.refl _ _).drew);refine wp_region_held_drew (S:=(fun w'=>w'.cell? ⟨w.heap.size,0,none⟩=some (.slice ga G.N gc)/\w'.cell? ⟨w.heap.size,1,none⟩=some (.map gm)/\w'.cell? ⟨w.heap.size+1,0,none⟩=some (.pointer (some ⟨X,0,none⟩)))) (by kernel_rfl) ⟨HD.o.fb.c0,HD.o.fb.c1,HD.o.rb⟩ (fun hHeld=> ?_);refine wpAnyH_take (i:=0) (v:= ?_) rfl (by kernel_rfl) (by kernel_rfl) (by kernel_rfl) (fun _ _ _ h=>h) (Or.inl ⟨by rfl,?_⟩) (by assumption) ?_
       rotate_left
       ·(intro w hSw;(try dsimp only at hSw);go_simp;try with_reducible rfl)
       try simp only[Act.put,List.setIfInBounds_toArray,List.set_cons_zero,List.set_cons_succ]
       refine wpAnyH_take (i:=1) (v:= ?_) rfl (by kernel_rfl) (by kernel_rfl) (by kernel_rfl) (fun _ _ _ h=>h) (Or.inl ⟨by rfl,?_⟩) (by assumption) ?_
       rotate_left
       ·(intro w hSw;(try dsimp only at hSw);go_simp;try with_reducible rfl)
       try simp only[Act.put,List.setIfInBounds_toArray,List.set_cons_zero,List.set_cons_succ]
       refine wpAnyH_take (i:=2) (v:= ?_) rfl (by kernel_rfl) (by kernel_rfl) (by kernel_rfl) (fun _ _ _ h=>h) (Or.inl ⟨by rfl,?_⟩) (by assumption) ?_
       rotate_left
       ·(intro w hSw;(try dsimp only at hSw);go_simp;try with_reducible rfl)
       try simp only[Act.put,List.setIfInBounds_toArray,List.set_cons_zero,List.set_cons_succ]
       refine wpAnyH_ready (rs:=[3]) (by kernel_rfl) (by simp) ?_;refine AllReadyH.cons rfl (fun K hK=> ?_) AllReadyH.nil;go_simp;refine(bId HD.o.r U3.o).mono ?_;rintro e w4 ⟨rfl,hg1⟩;exact⟨rfl,rfl,HD.o.g.next hg1⟩
      | some p=>
       obtain ⟨x,r2⟩:=p;obtain⟨G2,L2,x0,hd⟩:∃ G2 L2 x0,aQ G nm x=(G2,L2,x0):=⟨_,_,_,rfl⟩;have hgp:=HGP.o;rw[show k-j=(k-j-1)+1 by omega,aLu hx,hd]at hgp;simp only at hgp;have hrs:=(zF hx).1;have hok2:=nH HGO.o nm x;rw[hd]at hok2;have HOK2:Hid G2.ok:=hid hok2;have hsh2:Hid (x0=0-> ∀v∈G2.vs,v.l.length+r2.length<=9000):=hid fun h0 v hv=>by
        have h9:=aLt HGO.o (nm:=nm) (x:=x) (B:=9000-r.length) (fun u hu=>by have:=HGS.o u hu;omega) (by rw[hd];exact h0) v (by rw[hd];exact hv);by_cases hem:G.vs=[]
        ·exfalso;have hq:(aQ G nm x).2.2=9:=by
          unfold aQ;have:aP G.vs nm=none:=by rw[hem];rfl
          rw[this]
         rw[hd]at hq;simp only at hq;omega
        ·obtain⟨u,hu⟩:=List.exists_mem_of_ne_nil _ hem;have:=HGS.o u hu;omega
       have HS9:Hid (∀v∈G.vs,v.l.length<=9000):=hid fun v hv=>by have:=HGS.o v hv;omega
       have U3:=hid hx;have HWF:=hid (bLl hx);have HDE:=hid hd;have HGP2:=hid hgp;have f0:=HC.o.fb.f0;have f1:=HC.o.fb.f1;clear hx hd hgp hrs hok2;go_upto_region 8 with fail
       go_cut [9] from 26 to 34 (fun e wx=>CLI w X G2 r2 x0 e wx)
       case first=>
        have HD:=hid (HC.o.later (Below.refl _ _).drew)
        go_region_with (first
         |(go_at_call 68;(with_reducible refine(bDr HD.o.r U3.o).mono ?_);rintro e w4 ⟨rfl,hr3,hg3⟩;have H3:=hid (HD.o.went hr3 hg3);have b10:=H3.o.fb.c0;have b11:=H3.o.fb.c1;clear hr3 hg3)
         |(go_at_call 67;(with_reducible refine(bHd G G2 L2 x0 _ nm x _ HGO.o HS9.o H3.o.fam HNM.o HWF.o HDE.o).mono ?_);rintro e w5 ⟨gv,sv,rfl,hg,ho,hb4⟩;obtain⟨ga2,gc2,gm2,rfl⟩:=hg.form;have H4:=hid (H3.o.later hb4);have HG:=hid hg;have b20:=H4.o.fb.c0;have b21:=H4.o.fb.c1;have f20:=H4.o.fb.f0;have f21:=H4.o.fb.f1;clear hg ho hb4))
        all_goals
         have HZ:Hid (CLI w X G2 r2 x0 (.int .i64 x0) (dN w5 w.heap.size (.slice ga2 G2.N gc2) (.map gm2))):=hid ⟨rfl,ga2,gc2,gm2,H4.o.putF HG.o⟩;go_wp2_with fail;go_meet;exact HZ.o
       case rest=>
        obtain⟨rfl,ga2,gc2,gm2,hcl⟩:=hcut;have HC2:=hid hcl;clear hcl b0 b1 f0 f1 hrb;by_cases h0:x0=0
        ·subst h0;have hgp:=HGP2.o;rw[if_pos rfl]at hgp;have HGP3:Hid (wT (k-(j+1)) G2 nm r2=O):=hid (by rw[show k-(j+1)=k-j-1 by omega];exact hgp);have HS3:=hid (hsh2.o rfl);clear hgp;go_wp2_with fail;go_roundw
         case rel=>exact⟨j+1,by omega,rfl,by go_num,G2,ga2,gc2,gm2,r2,HC2.o,HOK2.o,HS3.o,HGP3.o⟩
         case measure=>simp[intOf];omega
        ·obtain rfl:O=some (G2,x0,r2):=by
          have:=HGP2.o;rw[if_neg h0]at this;exact this.symm
         have hx0:(x0==0)=false:=by simpa using h0
         clear h0;have b0:=HC2.o.fb.c0;have b1:=HC2.o.fb.c1;have r0:=HC2.o.r1.c0;have r1:=HC2.o.r1.c1;have g0:=HC2.o.r1.f0;have g1:=HC2.o.r1.f1;go_wp2_with fail;have j0:=(HC2.o.r1.put (.slice ga2 G2.N gc2) (.map gm2)).c0;have j1:=(HC2.o.r1.put (.slice ga2 G2.N gc2) (.map gm2)).c1
         (try simp only[Exit.inBlock,Exit.then])
         refine bodyPost_ret (v:= .tuple #[.agg #[.slice ga2 G2.N gc2,.map gm2],.int .i64 x0]) (by first|(rw[results_cell_tmp rfl];go_simp;done)|(rw[aB rfl];go_simp;done)|(rw[aA rfl];go_simp;done)) rfl ?_;exact uM HC2.o HC2.o.fam x0
     ·obtain rfl:O=some (G,0,r):=by
       have:=HGP.o;rw[show k-j=0 by omega]at this;exact this.symm
      have r0:=HC.o.r1.c0;have r1:=HC.o.r1.c1;have g0:=HC.o.r1.f0;have g1:=HC.o.r1.f1;go_wp2_with fail;have j0:=(HC.o.r1.put (.slice ga G.N gc) (.map gm)).c0;have j1:=(HC.o.r1.put (.slice ga G.N gc) (.map gm)).c1
      (try simp only[Exit.inBlock,Exit.then])
      refine bodyPost_ret (v:= .tuple #[.agg #[.slice ga G.N gc,.map gm],.int .i64 0]) (by first|(rw[results_cell_tmp rfl];go_simp;done)|(rw[aB rfl];go_simp;done)|(rw[aA rfl];go_simp;done)) rfl ?_;exact uM HC.o HC.o.fam 0
  ·have HP:Hid (asP F l=some (F,e0,l1)):=hid (by rw[hasP,if_neg he0]);have hx0:(e0==0)=false:=by simpa using he0
   clear hb hf hr hs hnm hi hasP hF hsh he0;rw[HP.o];go_enter Tryz.func82,Tryz.ntmps82;go_wp2_with fail;refine(gW H.o.r U.o).mono ?_;rintro e w1 ⟨rfl,hr1,hg1⟩;replace H:=hid (H.o.went hr1 hg1);clear hr1 hg1 hrb;have b0:=H.o.fb.c0;have b1:=H.o.fb.c1;go_wp2_with fail;refine(sD F im i1 i2 i3 i4 e0 _ nm _ HF.o HS.o H.o.fam HNM.o HI.o).mono ?_;rintro e w2 ⟨rfl,hb2⟩;replace H:=hid ((H.o.later hb2).later ((Below.refl _ _).bMq (.cells #[nmV im,.int .i64 i1,.int .i64 i2,.int .i64 i3,.int .i64 i4] 73)));clear hb2;replace b0:=H.o.fb.c0;replace b1:=H.o.fb.c1;have r0:=H.o.r1.c0;have r1:=H.o.r1.c1;have g0:=H.o.r1.f0;have g1:=H.o.r1.f1;go_wp2_with fail;have j0:=(H.o.r1.put (.slice a F.N c) (.map m)).c0;have j1:=(H.o.r1.put (.slice a F.N c) (.map m)).c1
   (try simp only[Exit.inBlock,Exit.then])
   refine bodyPost_ret (v:= .tuple #[.agg #[.slice a F.N c,.map m],.int .i64 e0]) (by first|(rw[results_cell_tmp rfl];go_simp;done)|(rw[aB rfl];go_simp;done)|(rw[aA rfl];go_simp;done)) rfl ?_;exact uM H.o H.o.fam e0
end Go.Proofs.YtaiklhbakldfhaaGreat
