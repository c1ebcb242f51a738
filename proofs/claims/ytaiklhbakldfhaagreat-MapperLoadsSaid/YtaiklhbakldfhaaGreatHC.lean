/-
  package alloc: run, end, size, clip.
  package alloc: fit, lowest.
  package alloc: without.
  Conditions: as each theorem says.
-/
import Derived.Test.YtaiklhbakldfhaaGreatHB
import Derived.Test.YtaiklhbakldfhaaGreatHX
import Derived.Test.YtaiklhbakldfhaaGreatGD
import Derived.Deep.RegionHeld3
import Derived.IntWalk
namespace Go.Proofs.YtaiklhbakldfhaaGreat
open Go.Lib (hid)
set_option linter.unusedSimpArgs false
set_option linter.unusedVariables false
set_option maxRecDepth 100000
set_option maxHeartbeats 16000000
open Go.RowKit
theorem tF (f t:Int) (w:World) (h0: -9223372036854775808<=t-f) (h1:t-f<=9223372036854775807):
  Calls Tryz.prog 183 #[.int .i64 f,.int .i64 t] w fun e w'=>e= .returned (.agg #[.int .i64 (lD f t).a,.int .i64 (lD f t).n,.int .i64 (lD f t).s])/\Below w.heap.size w w':=by
 go_enter Tryz.func183,Tryz.ntmps183;go_wp2;refine bodyPost_ret (v:= .agg #[.int .i64 0,.int .i64 (t-f),.int .i64 f]) ?_ rfl ⟨rfl,?_⟩
 ·simp[results,Tryz.results183,go_sem]
 ·(repeat(first|exact Below.refl _ _|assumption|refine Below.bMt ?_ _|refine Below.bMq ?_ _|refine Below.setCell ?_ (by simp) _|refine Below.drew ?_))
theorem oV (a n s:Int) (w:World) (h0: -9223372036854775808<=s+n) (h1:s+n<=9223372036854775807):
  Calls Tryz.prog 181 #[.agg #[.int .i64 a,.int .i64 n,.int .i64 s]] w fun e w'=>e= .returned (.int .i64 (s+n))/\Below w.heap.size w w':=by
 go_enter Tryz.func181,Tryz.ntmps181;go_wp2;go_ret;exact⟨rfl,(Below.refl _ _).bMq _⟩
theorem qR (l:List E) (M:Int) (h:∀ x∈l,0<=x.n/\x.n<=M):0<=aT l/\aT l<=M*l.length:=by
 induction l with
 |nil=>simp[aT]
 | cons x r ih=>
  have h1:=h x (by simp);have h2:=ih fun y hy=>h y (by simp[hy]);rw[xP,List.length_cons,show((r.length+1:Nat):Int)=r.length+1 by omega,Int.mul_add];omega
theorem tC (l:List E) (a:Option Addr) (c:Nat) (w:World) (hr:Rd w a l) (hn:∀ x∈l,0<=x.n/\x.n<=65536) (hl:l.length<=1000000000):
  Calls Tryz.prog 133 #[.slice a l.length c] w fun e w'=>e= .returned (.int .i64 (aT l))/\Below w.heap.size w w':=by
 have HM:=hid hn;clear hn;go_enter Tryz.func133,Tryz.ntmps133;go_wp2_with fail;go_loopw [3,8] (fun v t wr=>∃ k:Nat,k<=l.length/\t= .int .i64 k/\v= .int .i64 (aT (l.take k))/\Below w.heap.size w wr) (fun _ t _=>l.length-(intOf t).toNat)
 case atStart=>exact⟨0,Nat.zero_le _,rfl,rfl,Below.refl _ _⟩
 case round=>
  obtain⟨k,hk,rfl,rfl,hBk⟩:=hrel;by_cases hlt:k<l.length
  ·obtain⟨b,o,rfl,hat⟩:=(hr.keep hBk).at (by omega);obtain⟨h1,h2,h3⟩:=hat k _ (List.getElem?_eq_getElem hlt);have HT:=hid (aCc l k hlt);obtain⟨m1,m2⟩:=HM.o _ (List.getElem_mem hlt);obtain⟨q1,q2⟩:=qR (l.take k) 65536 (fun x hx=>HM.o x (List.mem_of_mem_take hx));have hle:=List.length_take_le k l;have q3:aT (l.take k)<=65536000000000:=by omega
   generalize l[k]=x at *;generalize aT (l.take k)=sm at *;clear hat q2 hr;go_wp2;go_roundw
   case rel=>exact⟨k+1,by omega,by go_num,by rw[HT.o],hBk.bMq _⟩
   case measure=>simp[intOf];omega
  ·obtain rfl:k=l.length:=by omega
   rw[List.take_length];go_wp2;go_ret;exact⟨rfl,hBk⟩
def bHw (w:World) (F B:List E) (e:Ending) (w':World):Prop:=
 ∃v m,e= .returned (.tuple #[v,m])/\aG w' w.heap.size v F/\aG w' w.heap.size m B/\(v.ownBlock=none∨v.ownBlock≠m.ownBlock)/\Below w.heap.size w w'
theorem wO (l:List E) (p:Int) (a:Option Addr) (c:Nat) (w:World) (hr:Rd w a l) (hok:∀ x∈l,okB x=true) (hl:l.length<=1000000) (hp:0<=p/\p<=65536):
  Calls Tryz.prog 136 #[.slice a l.length c,.int .i64 p] w (bHw w (dM l p) (beforeL l p)):=by
 have HO:=hid hok;obtain⟨p0,p1⟩:=hp;obtain⟨i0,hi,hz0,hz1,hz2⟩:=info_parts kV;clear hok;go_enter Tryz.func136,Tryz.ntmps136;go_wp2_with fail;go_loopw [4,5,10] (fun v m i wr=>∃ k:Nat,k<=l.length/\i= .int .i64 k/\aG wr w.heap.size v (dM (l.take k) p)/\aG wr w.heap.size m (beforeL (l.take k) p)/\(v.ownBlock=none∨v.ownBlock≠m.ownBlock)/\Below w.heap.size w wr) (fun _ _ i _=>l.length-(intOf i).toNat)
 case atStart=>exact⟨0,Nat.zero_le _,rfl,aG.nil _ _,aG.nil _ _,.inl rfl,Below.refl _ _⟩
 case round=>
  obtain⟨k,hk,rfl,hoR,hoM,hsep,hB⟩:=hrel;by_cases hlt:k<l.length
  ·obtain ⟨b,o,rfl,hat⟩:=(hr.keep hB).at (by omega);obtain⟨h1,h2,h3⟩:=hat k _ (List.getElem?_eq_getElem hlt);obtain⟨c1,c2,c3,c4,c5⟩:=(aD _).1 (HO.o _ (List.getElem_mem hlt));have HF:=hid (aVt l p k hlt);have HBf:=hid (aNs l p k hlt);have lF:=Nat.le_trans (uD (l.take k) p) (List.length_take_le k l);have lB:=Nat.le_trans (wS (l.take k) p) (List.length_take_le k l);generalize l[k]=x at *;generalize dM (l.take k) p=R at *;generalize beforeL (l.take k) p=M at *;have S:Hid (St w (wr.alloc (.cells #[.int .i64 x.a,.int .i64 x.n,.int .i64 x.s] 81)) wr.heap.size x u4 R u5 M):=
    hid ⟨by simp,by simp,by simp,hoR.keep ((Below.refl _ _).bMq _),hoM.keep ((Below.refl _ _).bMq _),fun e=>by have:=(hoR.lt _ e).2;omega,fun e=>by have:=(hoM.lt _ e).2;omega,hsep,hB.bMq _⟩
   clear hat hr hoR hoM;by_cases hx1:x.s<p
   ·by_cases hx2:p<x.s+x.n
    ·go_wp2_with fail;generalize wr.alloc (.cells #[.int .i64 x.a,.int .i64 x.n,.int .i64 x.s] 81)=W0 at *;generalize wr.heap.size=X at *;have hx0:=S.o.x1;have hx3:=S.o.x2;have hx4:=S.o.x3;have S:=hid (S.o.later (Below.refl _ _).drew)
     go_region_held3 (fun w'=>w'.cell? ⟨X,0,none⟩=some (.int .i64 x.a)/\w'.cell? ⟨X,1,none⟩=some (.int .i64 x.n)/\w'.cell? ⟨X,2,none⟩=some (.int .i64 x.s))
      (first|exact⟨S.o.x1,S.o.x2,S.o.x3⟩|exact⟨(S.o.alloc _).x1,(S.o.alloc _).x2,(S.o.alloc _).x3⟩)
      (first
       |(go_at_call 181;refine(oV _ _ _ _ (by omega) (by omega)).mono ?_;rintro e w3 ⟨rfl,hb3⟩;have S:=hid (S.o.later hb3))
       |(go_at_call 183;refine(tF _ _ _ (by omega) (by omega)).mono ?_;rintro e w4 ⟨rfl,hb4⟩;have S:=hid (S.o.later hb4))
       |(refine gT _ (by rfl) _ _ 76 (by rfl) w.heap.size 81 i0 (.agg #[.int .i64 0,.int .i64 0,.int .i64 0]) 3 24 Tryz.underlying76 hi hz0 hz1 hz2 rfl (by decide) u5 _ _ (by rfl) (S.o.alloc _).hM ⟨w4.heap.size,0,none⟩ 1 1 (E.cells (lD x.s (min (x.s+x.n) p))) (by rfl) rfl (rF _ _ (by simp) _ _) (bX _) (by omega) (by simp only[maxLen];omega) (by have:=S.o.hB.size;simp only[World.size_alloc];omega) ?_;intro v1 w5 hown1 hgrow1 hwhere1;have S:=hid ((S.o.alloc _).pushM (aG.snoc hown1 rfl) hgrow1 (hwhere1.imp id fun h=>⟨_,h,Nat.le_refl _⟩))))
     go_wp2_with fail;refine(oV _ _ _ _ (by omega) (by omega)).mono ?_;rintro e w6 ⟨rfl,hb6⟩;have S:=hid (S.o.later hb6);have hx0:=S.o.x1;have hx3:=S.o.x2;have hx4:=S.o.x3;go_wp2_with fail;have hx0:=S.o.x1;have hx3:=S.o.x2;have hx4:=S.o.x3;have S:=hid (S.o.later (Below.refl _ _).drew)
     go_region_held3 (fun w'=>w'.cell? ⟨X,0,none⟩=some (.int .i64 x.a)/\w'.cell? ⟨X,1,none⟩=some (.int .i64 x.n)/\w'.cell? ⟨X,2,none⟩=some (.int .i64 x.s))
      (first|exact⟨S.o.x1,S.o.x2,S.o.x3⟩|exact⟨(S.o.alloc _).x1,(S.o.alloc _).x2,(S.o.alloc _).x3⟩)
      (first
       |(go_at_call 181;refine(oV _ _ _ _ (by omega) (by omega)).mono ?_;rintro e w3 ⟨rfl,hb3⟩;have S:=hid (S.o.later hb3))
       |(go_at_call 183;refine(tF _ _ _ (by omega) (by omega)).mono ?_;rintro e w4 ⟨rfl,hb4⟩;have S:=hid (S.o.later hb4))
       |(refine gT _ (by rfl) _ _ 76 (by rfl) w.heap.size 81 i0 (.agg #[.int .i64 0,.int .i64 0,.int .i64 0]) 3 24 Tryz.underlying76 hi hz0 hz1 hz2 rfl (by decide) u4 _ _ (by rfl) (S.o.alloc _).hR ⟨w4.heap.size,0,none⟩ 1 1 (E.cells (lD (max x.s p) (x.s+x.n))) (by rfl) rfl (rF _ _ (by simp) _ _) (bX _) (by omega) (by simp only[maxLen];omega) (by have:=S.o.hB.size;simp only[World.size_alloc];omega) ?_;intro v1 w5 hown1 hgrow1 hwhere1;have S:=hid ((S.o.alloc _).pushR (aG.snoc hown1 rfl) hgrow1 (hwhere1.imp id fun h=>⟨_,h,Nat.le_refl _⟩))))
     all_goals
      go_wp2_with fail;go_roundw
      case rel=>exact⟨k+1,by omega,by go_num,by rw[HF.o,if_pos hx2];exact S.o.hR,by rw[HBf.o,if_pos hx1];exact S.o.hM,S.o.sep,S.o.hB⟩
      case measure=>simp[intOf];omega
    ·go_wp2_with fail;generalize wr.alloc (.cells #[.int .i64 x.a,.int .i64 x.n,.int .i64 x.s] 81)=W0 at *;generalize wr.heap.size=X at *;have hx0:=S.o.x1;have hx3:=S.o.x2;have hx4:=S.o.x3;have S:=hid (S.o.later (Below.refl _ _).drew)
     go_region_held3 (fun w'=>w'.cell? ⟨X,0,none⟩=some (.int .i64 x.a)/\w'.cell? ⟨X,1,none⟩=some (.int .i64 x.n)/\w'.cell? ⟨X,2,none⟩=some (.int .i64 x.s))
      (first|exact⟨S.o.x1,S.o.x2,S.o.x3⟩|exact⟨(S.o.alloc _).x1,(S.o.alloc _).x2,(S.o.alloc _).x3⟩)
      (first
       |(go_at_call 181;refine(oV _ _ _ _ (by omega) (by omega)).mono ?_;rintro e w3 ⟨rfl,hb3⟩;have S:=hid (S.o.later hb3))
       |(go_at_call 183;refine(tF _ _ _ (by omega) (by omega)).mono ?_;rintro e w4 ⟨rfl,hb4⟩;have S:=hid (S.o.later hb4))
       |(refine gT _ (by rfl) _ _ 76 (by rfl) w.heap.size 81 i0 (.agg #[.int .i64 0,.int .i64 0,.int .i64 0]) 3 24 Tryz.underlying76 hi hz0 hz1 hz2 rfl (by decide) u5 _ _ (by rfl) (S.o.alloc _).hM ⟨w4.heap.size,0,none⟩ 1 1 (E.cells (lD x.s (min (x.s+x.n) p))) (by rfl) rfl (rF _ _ (by simp) _ _) (bX _) (by omega) (by simp only[maxLen];omega) (by have:=S.o.hB.size;simp only[World.size_alloc];omega) ?_;intro v1 w5 hown1 hgrow1 hwhere1;have S:=hid ((S.o.alloc _).pushM (aG.snoc hown1 rfl) hgrow1 (hwhere1.imp id fun h=>⟨_,h,Nat.le_refl _⟩))))
     go_wp2_with fail;refine(oV _ _ _ _ (by omega) (by omega)).mono ?_;rintro e w6 ⟨rfl,hb6⟩;have S:=hid (S.o.later hb6);have hx0:=S.o.x1;have hx3:=S.o.x2;have hx4:=S.o.x3
     all_goals
      go_wp2_with fail;go_roundw
      case rel=>exact⟨k+1,by omega,by go_num,by rw[HF.o,if_neg (show ¬p<x.s+x.n by omega)];exact S.o.hR,by rw[HBf.o,if_pos hx1];exact S.o.hM,S.o.sep,S.o.hB⟩
      case measure=>simp[intOf];omega
   ·by_cases hx2:p<x.s+x.n
    ·go_wp2_with fail;generalize wr.alloc (.cells #[.int .i64 x.a,.int .i64 x.n,.int .i64 x.s] 81)=W0 at *;generalize wr.heap.size=X at *;refine(oV _ _ _ _ (by omega) (by omega)).mono ?_;rintro e w6 ⟨rfl,hb6⟩;have S:=hid (S.o.later hb6);have hx0:=S.o.x1;have hx3:=S.o.x2;have hx4:=S.o.x3;go_wp2_with fail;have hx0:=S.o.x1;have hx3:=S.o.x2;have hx4:=S.o.x3;have S:=hid (S.o.later (Below.refl _ _).drew)
     go_region_held3 (fun w'=>w'.cell? ⟨X,0,none⟩=some (.int .i64 x.a)/\w'.cell? ⟨X,1,none⟩=some (.int .i64 x.n)/\w'.cell? ⟨X,2,none⟩=some (.int .i64 x.s))
      (first|exact⟨S.o.x1,S.o.x2,S.o.x3⟩|exact⟨(S.o.alloc _).x1,(S.o.alloc _).x2,(S.o.alloc _).x3⟩)
      (first
       |(go_at_call 181;refine(oV _ _ _ _ (by omega) (by omega)).mono ?_;rintro e w3 ⟨rfl,hb3⟩;have S:=hid (S.o.later hb3))
       |(go_at_call 183;refine(tF _ _ _ (by omega) (by omega)).mono ?_;rintro e w4 ⟨rfl,hb4⟩;have S:=hid (S.o.later hb4))
       |(refine gT _ (by rfl) _ _ 76 (by rfl) w.heap.size 81 i0 (.agg #[.int .i64 0,.int .i64 0,.int .i64 0]) 3 24 Tryz.underlying76 hi hz0 hz1 hz2 rfl (by decide) u4 _ _ (by rfl) (S.o.alloc _).hR ⟨w4.heap.size,0,none⟩ 1 1 (E.cells (lD (max x.s p) (x.s+x.n))) (by rfl) rfl (rF _ _ (by simp) _ _) (bX _) (by omega) (by simp only[maxLen];omega) (by have:=S.o.hB.size;simp only[World.size_alloc];omega) ?_;intro v1 w5 hown1 hgrow1 hwhere1;have S:=hid ((S.o.alloc _).pushR (aG.snoc hown1 rfl) hgrow1 (hwhere1.imp id fun h=>⟨_,h,Nat.le_refl _⟩))))
     all_goals
      go_wp2_with fail;go_roundw
      case rel=>exact⟨k+1,by omega,by go_num,by rw[HF.o,if_pos hx2];exact S.o.hR,by rw[HBf.o,if_neg (show ¬x.s<p by omega)];exact S.o.hM,S.o.sep,S.o.hB⟩
      case measure=>simp[intOf];omega
    ·exfalso;omega
  ·go_wp2;go_ret2;rw[List.take_of_length_le (by omega)]at hoR hoM;exact⟨_,_,rfl,hoR,hoM,hsep,hB⟩
open Go.RowKit
theorem bGf (x:E) (n:Int) (b:Nat) (w:World) (hc:w.cell? ⟨b,0,none⟩=some (.int .i64 n)):
  Calls Tryz.prog 185 #[.agg #[.int .i64 x.a,.int .i64 x.n,.int .i64 x.s],.pointer (some ⟨b,0,none⟩)] w fun e w'=>e= .returned (.bool (oH n x))/\Below w.heap.size w w':=by
 go_enter Tryz.func185,Tryz.ntmps185;go_wp2;go_ret;exact⟨bW (by simp[oH]),(Below.refl _ _).bMq _⟩
theorem aKt (l:List E) (n:Int) (a:Option Addr) (c q:Nat) (w:World) (hc:w.cell? ⟨q,0,none⟩=some (.int .i64 n)) (hr:Rd w a l):
  Calls Tryz.prog 184 #[.slice a l.length c,.func (.func 185) #[] #[.pointer (some ⟨q,0,none⟩)]] w fun e w'=>e= .returned (.int .i64 (aIy l (oH n)))/\Below w.heap.size w w':=by
 have hlen:=hr.1;go_enter Tryz.func184,Tryz.ntmps184;go_wp2_with fail;go_loopw [8] (fun i wr=>∃ k:Nat,k<=l.length/\i= .int .i64 k/\(∀x∈l.take k,oH n x=false)/\Below w.heap.size w wr) (fun i _=>l.length-(intOf i).toNat)
 case atStart=>exact⟨0,Nat.zero_le _,rfl,by simp,Below.refl _ _⟩
 case round=>
  obtain⟨k,hk,rfl,hv,hB⟩:=hrel;by_cases hlt:k<l.length
  ·obtain ⟨b,o,rfl,hat⟩:=(hr.keep hB).at (by omega);obtain⟨h1,h2,h3⟩:=hat k _ (List.getElem?_eq_getElem hlt);have HT:=hid (aEs l (oH n) k hlt hv);have HF:=hid (uS l (oH n) k hlt hv);have hcr:=hB.keep hc;generalize l[k]=x at *;clear hat hr hv hc;have hcon:=hid (bGf x n q wr hcr);cases hp:oH n x
   ·have HP:=hid hp;clear hp;go_wp2_with fail;refine hcon.o.mono ?_;rintro e w1 ⟨rfl,hb1⟩;rw[HP.o];go_wp2_with fail;go_roundw
    case rel=>exact⟨k+1,by omega,by go_num,HF.o HP.o,hB.on hb1⟩
    case measure=>simp[intOf];omega
   ·have HP:=hid hp;clear hp;go_wp2_with fail;refine hcon.o.mono ?_;rintro e w1 ⟨rfl,hb1⟩;rw[HP.o];go_wp2_with fail;go_ret;exact⟨pU (HT.o HP.o).symm,hB.on hb1⟩
  ·have HN:=hid (xR l (oH n) (by rw[List.take_of_length_le (by omega)]at hv;exact hv));clear hv;go_wp2;go_ret;exact⟨pU HN.o.symm,hB⟩
theorem bGe (l:List E) (n:Int) (a:Option Addr) (c:Nat) (w:World) (hr:Rd w a l) (h:oO l n=none):
  Calls Tryz.prog 137 #[.slice a l.length c,.int .i64 n] w fun e w'=>e= .returned (.tuple #[.slice none 0 0,.bool false])/\Below w.heap.size w w':=by
 have hN:aIy l (oH n)= -1:=xR l (oH n) fun x hx=>by
  unfold oO at h;rw[Option.map_eq_none_iff,List.find?_eq_none]at h;have:=h x hx
  simpa using this
 have HN:=hid hN;clear hN;go_enter Tryz.func137,Tryz.ntmps137;go_wp2_with fail;have hcon:=aKt l n a c w.heap.size (w.alloc (.cells #[.int .i64 n] 3)) (by simp) (hr.keep ((Below.refl _ _).bMq _));rw[HN.o]at hcon;refine hcon.mono ?_;rintro e w1 ⟨rfl,hb1⟩;clear hcon;go_wp2_with fail;go_ret2;exact⟨rfl,((Below.refl _ _).bMq _).on hb1⟩
theorem aXq (l:List E) (n s:Int) (a:Option Addr) (c:Nat) (w:World) (hr:Rd w a l) (hok:∀ x∈l,okB x=true) (hn:1<=n/\n<=65536) (h:oO l n=some s):
  Calls Tryz.prog 137 #[.slice a l.length c,.int .i64 n] w fun e w'=>∃ v,e= .returned (.tuple #[v,.bool true])/\aG w' w.heap.size v [⟨0,n,s⟩]/\Below w.heap.size w w':=by
 obtain⟨x,hx,rfl⟩:=Option.map_eq_some_iff.1 h;obtain⟨k,hk,hlk,hkf,hfx⟩:=aXs l (oH n) x hx;have HN:Hid (aIy l (oH n)=k):=hid (aEs l (oH n) k hk hkf (by rw[hlk];exact hfx));obtain⟨c1,c2,c3,c4,c5⟩:=(aD _).1 (hok x (by rw[<-hlk];exact List.getElem_mem hk));have hnx:n<=x.n:=of_decide_eq_true hfx;have hlen:=hr.1;obtain⟨b,o,rfl,hat⟩:=hr.at (by omega);obtain⟨h1,h2,h3⟩:=hat k x (by rw[List.getElem?_eq_getElem hk,hlk]);have hk0:(0:Int)<=k:=by omega
 have hk1:(k:Int)<l.length:=by omega
 have HR:=hid hr;clear h hx hkf hfx hlk hat hok hr;go_enter Tryz.func137,Tryz.ntmps137;go_wp2_with fail;have hcon:=aKt l n _ c w.heap.size (w.alloc (.cells #[.int .i64 n] 3)) (by simp) (HR.o.keep ((Below.refl _ _).bMq _));rw[HN.o]at hcon;refine hcon.mono ?_;rintro e w1 ⟨rfl,hb1⟩;have hcn:=hb1.keep (a:=⟨w.heap.size,0,none⟩) (v:= .int .i64 n) (by simp);have hB1:Below w.heap.size w w1:=((Below.refl w.heap.size w).bMq _).on hb1;have hc3:=hB1.keep h3;have q1:IntKind.i64.wrap (x.s+n)=x.s+n:=IntWalk.i64_in _ (by omega);have hsz:=hB1.size;clear hcon hb1 h1 h2 h3 HR;go_wp2_with fail;have HB:=hid (Below.refl w1.drew.heap.size w1.drew);have hcd:w1.drew.cell? ⟨b,o+k*3+2,none⟩=some (.int .i64 x.s):=hc3;have hcm:w1.drew.cell? ⟨w.heap.size,0,none⟩=some (.int .i64 n):=hcn
 go_region_held3 (fun w'=>w'.cell? ⟨b,o+k*3+2,none⟩=some (.int .i64 x.s)/\w'.cell? ⟨w.heap.size,0,none⟩=some (.int .i64 n))
  (first|exact⟨hc3,hcn⟩|exact⟨HB.o.keep hcd,HB.o.keep hcm⟩|exact⟨(HB.o.bMq _).keep hcd,(HB.o.bMq _).keep hcm⟩)
  ((go_at_call 183;refine(tF _ _ _ (by omega) (by omega)).mono ?_;rintro e w4 ⟨rfl,hb4⟩;have HB:=hid (HB.o.on hb4)))
 go_wp2_with fail;go_ret2;have hE:lD x.s (x.s+n)=⟨0,n,x.s⟩:=by unfold lD;congr 1;omega
 refine⟨_,rfl,?_,?_⟩
 ·rw[<-hE];refine aG.lit w4 _ [lD x.s (x.s+n)] ?_ (by simp[maxLen]) _ ?_
  ·simp[bH,E.cells]
  ·exact Nat.le_trans hsz (HB.o.size)
 ·exact(hB1.drew.on HB.o).bMq _
theorem aGo (l:List E) (n:Int) (a:Option Addr) (c:Nat) (w:World) (hr:Rd w a l) (hok:∀ x∈l,okB x=true) (hl:l.length<=1000000) (hn:0<=n/\n<=65536):
  Calls Tryz.prog 138 #[.slice a l.length c,.int .i64 n] w fun e w'=>∃ v,e= .returned v/\aG w' w.heap.size v (cZ l n).1/\Below w.heap.size w w':=by
 have HO:=hid hok;obtain⟨n0,n1⟩:=hn;have HLF:=hid (aKp l n n0 (fun x hx=>((aD x).1 (hok x hx)).1));obtain⟨i0,hi,hz0,hz1,hz2⟩:=info_parts kV;clear hok;go_enter Tryz.func138,Tryz.ntmps138;go_wp2_with fail;go_loopw [1,5,11] (fun m v i wr=>∃ k:Nat,k<=l.length/\i= .int .i64 k/\m= .int .i64 (cZ (l.take k) n).2/\aG wr w.heap.size v (cZ (l.take k) n).1/\Below w.heap.size w wr) (fun _ _ i _=>l.length-(intOf i).toNat)
 case atStart=>exact⟨0,Nat.zero_le _,rfl,rfl,aG.nil _ _,Below.refl _ _⟩
 case round=>
  obtain⟨k,hk,rfl,rfl,ho,hB⟩:=hrel;by_cases hlt:k<l.length
  ·obtain ⟨b,o,rfl,hat⟩:=(hr.keep hB).at (by omega);obtain⟨h1,h2,h3⟩:=hat k _ (List.getElem?_eq_getElem hlt);obtain⟨c1,c2,c3,c4,c5⟩:=(aD _).1 (HO.o _ (List.getElem_mem hlt));have HT:=hid (aDp l n k hlt);obtain⟨⟨f1,f2⟩,f3⟩:=HLF.o k hk;generalize l[k]=x at *;generalize cZ (l.take k) n=st at *;obtain⟨R,m⟩:=st;simp only at ho f1 f2 f3 HT;simp only[xN]at HT;have HOW:=hid ho;have hsz:=hB.size;clear hat hr ho;by_cases hm:0<min m x.n
   ·have d1:decide (0<min m x.n)=true:=decide_eq_true hm;have HS1:Hid ((cZ (l.take (k+1)) n).1=R++[⟨0,min m x.n,x.s⟩]):=hid (by rw[HT.o];simp[hm]);have HS2:Hid ((cZ (l.take (k+1)) n).2=m-min m x.n):=hid (by rw[HT.o]);have q1:IntKind.i64.wrap (x.s+min m x.n)=x.s+min m x.n:=IntWalk.i64_in _ (by omega);have hmb:min m x.n<=65536:=by omega
    clear HT;go_wp2_with fail;have hE:lD x.s (x.s+min m x.n)=⟨0,min m x.n,x.s⟩:=by unfold lD;congr 1;omega
    refine(tF x.s (x.s+min m x.n) _ (by omega) (by omega)).mono ?_;rw[hE];rintro e w4 ⟨rfl,hb4⟩;have hbb:=((Below.refl wr.heap.size wr).bMq (.cells #[.int .i64 x.a,.int .i64 x.n,.int .i64 x.s] 81)).on hb4;have HO4:=hid (HOW.o.keep hbb);have hB4:=hB.on hbb;have hsz4:=hB4.size;have q2:IntKind.i64.wrap (m-min m x.n)=m-min m x.n:=IntWalk.i64_in _ (by omega);clear hE hb4 hbb HOW
    go_wp2_with (at_builtin;refine aM _ rfl _ _ 76 rfl w.heap.size 81 i0 (.agg #[.int .i64 0,.int .i64 0,.int .i64 0]) 3 24 Tryz.underlying76 hi hz0 hz1 hz2 rfl (by decide) _ _ _ rfl (World.ownsRow.alloc HO4.o _) ⟨w4.heap.size,0,none⟩ 1 1 (E.cells (⟨0,min m x.n,x.s⟩:E)) rfl rfl (rF _ _ (by simp) _ _) (bX _) (by first|omega|(simp only[List.length_nil,List.length_append,List.length_cons];omega)) (by first|(simp only[maxLen];omega)|(simp only[maxLen,List.length_nil,List.length_append,List.length_cons];omega)) (by simp only[World.size_alloc];omega) ?_;intro v1 w1 hown1 hgrow1 hwhere1)
    have hB5:=hid ((hB4.bMq (.cells #[.int .i64 0,.int .i64 (min m x.n),.int .i64 x.s] 81)).bMu hgrow1 fun j hj=>(HO4.o.lt j hj).1);have HO5:=hid (aG.snoc hown1 (by simp));clear hown1 hgrow1 hwhere1;go_roundw
    case rel=>exact⟨k+1,by omega,by go_num,by rw[HS2.o],by rw[HS1.o];exact HO5.o,hB5.o⟩
    case measure=>simp[intOf];omega
   ·have d1:decide (0<min m x.n)=false:=decide_eq_false hm;have HS1:Hid ((cZ (l.take (k+1)) n).1=R):=hid (by rw[HT.o];simp[hm]);have HS2:Hid ((cZ (l.take (k+1)) n).2=m-min m x.n):=hid (by rw[HT.o]);have q2:IntKind.i64.wrap (m-min m x.n)=m-min m x.n:=IntWalk.i64_in _ (by omega);clear HT;go_wp2_with fail;go_roundw
    case rel=>exact⟨k+1,by omega,by go_num,by rw[HS2.o],by rw[HS1.o];exact HOW.o.keep ((Below.refl _ _).bMq _),hB.bMq _⟩
    case measure=>simp[intOf];omega
  ·rw[List.take_of_length_le (by omega)]at ho;go_wp2;go_ret;exact⟨_,rfl,ho,hB⟩
open Go.RowKit
def aIn (B:Nat) (a0 a:Option Addr):Prop:=a=a0∨ ∀b o,a=some ⟨b,o,none⟩->B<=b
theorem aIn.own {w:World} {B B' n c:Nat} {a0 a:Option Addr} {l:List E} (h:aG w B (.slice a n c) l) (hb:B'<=B):aIn B' a0 a:=by
 refine .inr fun b o e=> ?_;subst e;exact Nat.le_trans hb (h.lt b rfl).1
theorem Rd.lt {w:World} {a:Option Addr} {l:List E} (h:Rd w a l):l=[]∨ ∀b o,a=some ⟨b,o,none⟩->b<w.heap.size:=by
 cases l with
 |nil=>exact .inl rfl
 | cons x r=>
  obtain⟨b,o,e,hat⟩:=h.at (by simp);refine .inr fun b' o' e'=> ?_;have hc:=World.block_lt_of_cell? w _ (hat 0 x rfl).a;rw[e]at e';injection e' with e';injection e' with e1;rw[<-e1];exact hc
theorem Rd.cell_ne {w:World} {a:Option Addr} {l:List E} (h:Rd w a l) (g o:Nat) (v:Value) (hb:l=[]∨ ∀b o',a=some ⟨b,o',none⟩->b≠g):Rd (w.setCell ⟨g,o,none⟩ v) a l:=by
 rcases hb with hb|hb
 ·exact⟨h.1,.inl hb⟩
 refine⟨h.1,h.2.imp id fun⟨b,o',ha,hat⟩=>⟨b,o',ha,fun k x hk=> ?_⟩⟩;have hne:=hb b o' ha;obtain⟨h1,h2,h3⟩:=hat k x hk;exact⟨by rw[World.cell?_setCell_far _ _ _ _ (Ne.symm hne)];exact h1,by rw[World.cell?_setCell_far _ _ _ _ (Ne.symm hne)];exact h2,by rw[World.cell?_setCell_far _ _ _ _ (Ne.symm hne)];exact h3⟩
theorem zP (less:List E):dF [] less=[]:=by
 induction less with
 |nil=>rfl
 |cons x r ih=>exact ih
theorem aOc (l less:List E) (a al:Option Addr) (c cl:Nat) (w:World) (hr:Rd w a l) (hrl:Rd w al less) (hc:Canon l) (hok:∀ x∈less,okB x=true) (hl:less.length<=1000000):
  Calls Tryz.prog 132 #[.slice a l.length c,.slice al less.length cl] w fun e w'=>∃ a1 c1,e= .returned (.slice a1 (dF l less).length c1)/\Rd w' a1 (dF l less)/\aIn w.heap.size a a1/\Below w.heap.size w w':=by
 have HO:=hid hok;have HCA:Hid (∀k,Canon (dF l (less.take k))):=hid fun k=>(rW (less.take k) (fun x hx=>hok x (List.mem_of_mem_take hx)) l hc).1;obtain⟨i0,hi,hz0,hz1,hz2⟩:=info_parts kV;clear hok;go_enter Tryz.func132,Tryz.ntmps132;go_wp2_with fail;go_loopw [0,13] (fun v i wr=>∃ k:Nat,k<=less.length/\i= .int .i64 k/\(∃a1 c1,v= .slice a1 (dF l (less.take k)).length c1/\Rd wr a1 (dF l (less.take k))/\aIn w.heap.size a a1)/\Below w.heap.size w wr) (fun _ i _=>less.length-(intOf i).toNat)
 case atStart=>exact⟨0,Nat.zero_le _,rfl,⟨a,c,rfl,hr,.inl rfl⟩,Below.refl _ _⟩
 case round=>
  obtain⟨k,hk,rfl,⟨a1,c1,rfl,hr1,hfr1⟩,hB⟩:=hrel;by_cases hlt:k<less.length
  ·obtain⟨b,o,rfl,hat⟩:=(hrl.keep hB).at (by omega);obtain⟨h1,h2,h3⟩:=hat k _ (List.getElem?_eq_getElem hlt);have hxo:=HO.o _ (List.getElem_mem hlt);obtain⟨d1,d2,d3,d4,d5⟩:=(aD _).1 hxo;have HT:=hid (aIs l less k hlt);have HC1:=hid (HCA.o k);have HC2:=hid (HCA.o (k+1));generalize less[k]=x at *;generalize dF l (less.take k)=L at *;have hLs:=bE HC1.o;have HOK:Hid (∀y∈L,okB y=true):=hid fun y hy=>(HC1.o.1 y hy).2;have HOK2:Hid (∀y∈dM L x.s,okB y=true):=hid fun y hy=>((jF L x.s HC1.o).1 y hy).2;have lB:=wS L x.s;have lF:=uD L x.s;have lG:=uD (dM L x.s) (x.s+x.n);clear hat hrl hr;go_wp2_with fail;refine(wO L x.s a1 c1 _ (hr1.keep ((Below.refl _ _).bMq _)) HOK.o (by omega) (by omega)).mono ?_;rintro e w3 ⟨v3,m3,rfl,ho3,hm3,hsep,hb3⟩;have hx0:=hb3.keep (a:=⟨wr.heap.size,0,none⟩) (v:= .int .i64 x.a) (by simp);have hx1:=hb3.keep (a:=⟨wr.heap.size,1,none⟩) (v:= .int .i64 x.n) (by simp);have hx2:=hb3.keep (a:=⟨wr.heap.size,2,none⟩) (v:= .int .i64 x.s) (by simp);have hB3:Below w.heap.size w w3:=(hB.bMq _).on hb3;obtain⟨a3,c3,rfl,hr3⟩:=ho3.rd (by omega);have HM:=hid hm3;have HSZ:Hid (w.heap.size<=(wr.alloc (.cells #[.int .i64 x.a,.int .i64 x.n,.int .i64 x.s] 81)).heap.size):=hid (by have h5:=hB.size;simp only[World.size_alloc];omega);have hrow:∀ j,m3.ownBlock=some j->w.heap.size<=j:=fun j hj=>by have h4:=(hm3.lt j hj).1;have h5:=hB.size;simp only[World.size_alloc]at h4;omega
   have HROW:=hid hrow;clear ho3 hm3 hsep hb3 hrow hr1 h1 h2 h3;go_wp2_with fail;refine(oV _ _ _ _ (by omega) (by omega)).mono ?_;rintro e w4 ⟨rfl,hb4⟩;have HM:=hid (HM.o.keep hb4);have hr4:=hr3.keep hb4;have hB4:=hB3.on hb4;clear hb4 hr3 hx0 hx1 hx2;go_wp2_with fail;refine(wO (dM L x.s) (x.s+x.n) a3 c3 _ hr4 HOK2.o (by omega) (by omega)).mono ?_;rintro e w5 ⟨v5,m5,rfl,ho5,hm5,hsep,hb5⟩;have HM:=hid (HM.o.keep hb5);have hB5:=hB4.on hb5;have HSZ5:=hid hB5.size;obtain⟨a5,c5,rfl,hr5⟩:=ho5.rd (by omega);have HS:=hid hr5.source;clear hb5 ho5 hm5 hsep hr5 hr4
   go_wp2_with (at_builtin;refine dB _ rfl _ _ 76 rfl w.heap.size 81 i0 (.agg #[.int .i64 0,.int .i64 0,.int .i64 0]) 3 24 Tryz.underlying76 hi hz0 hz1 hz2 rfl (by decide) m3 _ _ rfl (HM.o.mono HSZ.o) _ _ _ _ rfl HS.o (by omega) (by simp only[maxLen];omega) HSZ5.o ?_;intro v1 w6 hown1 hgrow1 hwhere1)
   have HO6:=hid (aG.append hown1 rfl);have HB6:=hid (hB5.bMu hgrow1 HROW.o);have HLEN:Hid ((aAp L x).length<=46912496118443):=hid (by unfold aAp;rw[List.length_append];omega);clear hown1 hgrow1 hwhere1;go_roundw
   case rel=>exact⟨k+1,by omega,by go_num,(by rw[HT.o];obtain⟨a6,c6,rfl,hr6⟩:=HO6.o.rd HLEN.o;exact⟨a6,c6,rfl,hr6,aIn.own HO6.o (Nat.le_refl _)⟩),HB6.o⟩
   case measure=>simp[intOf];omega
  ·rw[List.take_of_length_le (by omega)]at hr1 ⊢;go_wp2;go_ret;exact⟨a1,c1,rfl,hr1,hfr1,hB⟩
end Go.Proofs.YtaiklhbakldfhaaGreat
