/- package alloc: run, end, size, clip. Conditions: as each theorem says. -/
import Derived.Test.YtphfgbbbejloaaaGreatDoorGH
import Derived.Test.YtphfgbbbejloaaaGreatDoorHX
import Derived.Lib.AppendZerosOnto
set_option linter.unusedSimpArgs false
set_option linter.unusedVariables false
set_option maxRecDepth 100000
set_option maxHeartbeats 16000000
namespace Go.Proofs.YtphfgbbbejloaaaGreatDoor
open Go.RowKit
open Go.Proofs.Tryz
theorem aFu{P:Prop}(h:P:=by simp only[maxLen];omega):P:=h
theorem aFt{P:Prop}(h:P:=by have:=S.o.hB.size;simp only[World.size_alloc];omega):P:=h
theorem sh98{P:Prop}(h:P:=by first|omega|(simp only[List.length_nil,Qg,List.length_cons];omega)):P:=h
theorem sh99{P:Prop}(h:P:=by first|(simp only[maxLen];omega)|(simp only[maxLen,List.length_nil,Qg,List.length_cons];omega)):P:=h
theorem aEy{P:Prop}(h:P:=by first|omega|(simp only[World.size_alloc];omega)):P:=h
theorem aEx{P:Prop}(h:P:=by have:=Qj _ _ r0;simp at this;omega):P:=h
theorem sh93{P:Prop}(h:P:=by
  have b0:=HS3.o.b0;have b1:=HS3.o.b1;go_wp2_with fail;clear b0 b1;refine(IM M (iH M n h) a a3 c c3 _ hN HR3.o (HO3.o.rd' oM) HW.o oM).m ?_;rintro e w4 hp;obtain⟨hb4,⟨h1,_⟩|⟨_,h1,_⟩|⟨_,_,v4,rfl,hn4⟩⟩:=hp
  ·exact absurd HT.o.range (by rw[h1];simp)
  ·exact absurd HT.o.st h1
  obtain⟨a4,c4,rfl,hr4,hfr4⟩:=hn4;have hsz3:w.heap.size+1<w3.heap.size:=by have:=Qj _ _ HS3.o.r0;simpa using this
  have HA4:=hD (hfr4.away HAW.o hsz3);have HF4:=hD (hfr4.mono HS3.o.B.size);have HS:=hD (HS3.o.aIx hb4);have HO4:=hD (HO3.o.keep hb4);have HR4:=hD hr4;clear hb4 hr4 hfr4 HR3 HS3 HO3 hsz3;have r0:=HS.o.r0;have r1:=HS.o.r1;have f0:=HS.o.f0;have f1:=HS.o.f1;have b0:=HS.o.b0;have b1:=HS.o.b1;go_wp2_with fail;generalize hRR:aT (yA M (iH M n h) true)=R4 at *;have HRR:=hD hRR;clear hRR
  go_region
  all_goals
   go_wp2_with fail;refine Yg (v:= .tuple #[.slice a3 (iH M n h).length c3,.agg #[M.length,.slice a4 R4 c4],oo]) ?_ rfl ?_
   ·simp[results,results157,go_sem,r0,r1,f0,f1]
   ·exact VD HRR.o HS.o.B HO4.o HR4.o HA4.o HF4.o
  ):P:=h
theorem aFw{P:Prop}(h:P:=by
  have HS:=hD (HS0.o.aIx hb1);clear hb1 HS0;have r0:=HS.o.r0;have r1:=HS.o.r1;have f0:=HS.o.f0;have f1:=HS.o.f1;have b0:=HS.o.b0;have b1:=HS.o.b1;go_wp2_with fail;refine Yg (v:= .tuple #[.agg #[oo,sn],ow]) ?_ rfl ⟨rfl,?_⟩
  ·simp[results,results210,go_sem,r0,r1,f0,f1]
  ·exact(HS.o.B.setCell sM _).setCell sM _
  ):P:=h
theorem aFv{P:Prop}(h:P:=by
  have HS:=hD (HS0.o.aIx hb1);clear hb1 HS0;have r0:=HS.o.r0;have r1:=HS.o.r1;have f0:=HS.o.f0;have f1:=HS.o.f1;have b0:=HS.o.b0;have b1:=HS.o.b1;go_wp2_with fail;refine Yg (v:= .tuple #[.agg #[oo,sn],ow]) ?_ rfl ⟨rfl,?_⟩
  ·simp[results,results208,go_sem,r0,r1,f0,f1]
  ·exact(HS.o.B.setCell sM _).setCell sM _
  ):P:=h
theorem tK(f t:Int)(w:Wd)(h0: -9223372036854775808<=t-f)(h1:t-f<=9223372036854775807):
  ep 286 #[f,t] w (RB w (.agg #[.int .i64 (kU f t).a,.int .i64 (kU f t).n,.int .i64 (kU f t).s])):=by
 go_enter func286,ntmps286;go_wp2;refine Yg (v:= .agg #[oo,.int .i64 (t-f),f]) ?_ rfl ⟨rfl,?_⟩
 ·simp[results,results286,go_sem]
 ·(repeat(first|exact bR|assumption|refine Below.aJd ?_ _|refine Below.aIw ?_ _|refine Below.setCell ?_ sM _|refine Below.drew ?_))
theorem oO(a n s:Int)(w:Wd)(h0: -9223372036854775808<=s+n)(h1:s+n<=9223372036854775807):
  ep 279 #[.agg #[a,n,s]] w (RB w (.int .i64 (s+n))):=by
 go_enter func279,ntmps279;go_wp2;go_ret;exact⟨rfl,bR.aIw _⟩
theorem qN(l:List E)(M:Int)(h:∀x∈l,0<=x.n/\x.n<=M):0<=aR l/\aR l<=M*l.length:=by
 induction l with
 |nil=>simp[aR]
 | cons x r ih=>
  have h1:=h x sM;have h2:=ih λy hy=>h y (by simp[hy]);rw[sN,List.length_cons,show((r.length+1:Nat):Int)=r.length+1 by omega,Int.mul_add];omega
theorem tJ(l:List E)(a:OA)(c:Nat)(w:Wd)(hr:Rd w a l)(hn:∀x∈l,0<=x.n/\x.n<=65536)(hl:l.length<=1000000000):
  ep 251 #[.slice a l.length c] w (RB w (aR l)):=by
 have HM:=hD hn;clear hn;go_enter func251,ntmps251;go_wp2_with fail;go_loopw [3,8] (λv t wr=>∃k:Nat,k<=l.length/\t= .int .i64 k/\v= .int .i64 (aR (l.take k))/\Below w w wr) (λ_ t _=>l.length-(intOf t).toNat)
 case atStart=>exact⟨0,Yf _,rfl,rfl,bR⟩
 case round=>
  obtain⟨k,hk,rfl,rfl,hBk⟩:=hrel;by_cases hlt:k<l.length
  ·obtain⟨b,o,rfl,hat⟩:=(hr.keep hBk).at oM;obtain⟨h1,h2,h3⟩:=hat k _ (Qa hlt);have HT:=hD (BP l k hlt);obtain⟨m1,m2⟩:=HM.o _ (Qm hlt);obtain⟨q1,q2⟩:=qN (l.take k) 65536 (λx hx=>HM.o x (List.mem_of_mem_take hx));have hle:=List.length_take_le k l;have q3:aR (l.take k)<=65536000000000:=oM
   generalize l[k]=x at *;generalize aR (l.take k)=sm at *;clear hat q2 hr;go_wp2;go_roundw
   case rel=>exact⟨k+1,oM,by go_num,by rw[HT.o],hBk.aIw _⟩
   case measure=>simp[intOf];omega
  ·obtain rfl:k=l.length:=oM
   rw[List.take_length];go_wp2;go_ret;exact⟨rfl,hBk⟩
def aAc(w:Wd)(F B:List E)(e:Ending)(w':Wd):Prop:=
 ∃v m,e= .returned (.tuple #[v,m])/\aG w' w v F/\aG w' w m B/\(v.ownBlock=none∨v.ownBlock≠m.ownBlock)/\Below w w w'
theorem wO(l:List E)(p:Int)(a:OA)(c:Nat)(w:Wd)(hr:Rd w a l)(hok:∀x∈l,okB x=true)(hl:l.length<=1000000)(hp:0<=p/\p<=65536):
  ep 255 #[.slice a l.length c,p] w (aAc w (dN l p) (beforeL l p)):=by
 have HO:=hD hok;obtain⟨p0,p1⟩:=hp;obtain⟨i0,hi,hz0,hz1,hz2⟩:=info_parts kK;clear hok;go_enter func255,ntmps255;go_wp2_with fail;go_loopw [4,5,10] (λv m i wr=>∃k:Nat,k<=l.length/\i= .int .i64 k/\aG wr w v (dN (l.take k) p)/\aG wr w m (beforeL (l.take k) p)/\(v.ownBlock=none∨v.ownBlock≠m.ownBlock)/\Below w w wr) (λ_ _ i _=>l.length-(intOf i).toNat)
 case atStart=>exact⟨0,Yf _,rfl,aG.nil _ _,aG.nil _ _,.inl rfl,bR⟩
 case round=>
  obtain⟨k,hk,rfl,hoR,hoM,hsep,hB⟩:=hrel;by_cases hlt:k<l.length
  ·obtain ⟨b,o,rfl,hat⟩:=(hr.keep hB).at oM;obtain⟨h1,h2,h3⟩:=hat k _ (Qa hlt);obtain⟨c1,c2,c3,c4,c5⟩:=(aB _).1 (HO.o _ (Qm hlt));have HF:=hD (PM l p k hlt);have HBf:=hD (JP l p k hlt);have lF:=Nat.le_trans (uO (l.take k) p) (List.length_take_le k l);have lB:=Nat.le_trans (wS (l.take k) p) (List.length_take_le k l);generalize l[k]=x at *;generalize dN (l.take k) p=R at *;generalize beforeL (l.take k) p=M at *;have S:Hid (St w (wr.alloc (cq #[.int .i64 x.a,.int .i64 x.n,.int .i64 x.s] 128)) wr.heap.size x u4 R u5 M):=
    hD ⟨sM,sM,sM,hoR.keep (bR.aIw _),hoM.keep (bR.aIw _),λe=>by have:=(hoR.lt _ e).2;omega,λe=>by have:=(hoM.lt _ e).2;omega,hsep,hB.aIw _⟩
   clear hat hr hoR hoM;by_cases hx1:x.s<p
   ·by_cases hx2:p<x.s+x.n
    ·go_wp2_with fail;generalize wr.alloc (cq #[.int .i64 x.a,.int .i64 x.n,.int .i64 x.s] 128)=W0 at *;generalize wr.heap.size=X at *;have hx0:=S.o.x1;have hx3:=S.o.x2;have hx4:=S.o.x3;have S:=hD (S.o.aIx bR.drew)
     go_region_held3 (λw'=>w' (cw X 0)=some (.int .i64 x.a)/\w' (cw X 1)=some (.int .i64 x.n)/\w' (cw X 2)=some (.int .i64 x.s))
      (first|exact⟨S.o.x1,S.o.x2,S.o.x3⟩|exact⟨(S.o.alloc _).x1,(S.o.alloc _).x2,(S.o.alloc _).x3⟩)
      (first
       |(go_at_call 279;refine(oO _ _ _ _ oM oM).m ?_;rintro e w3 ⟨rfl,hb3⟩;have S:=hD (S.o.aIx hb3))
       |(go_at_call 286;refine(tK _ _ _ oM oM).m ?_;rintro e w4 ⟨rfl,hb4⟩;have S:=hD (S.o.aIx hb4))
       |(refine eH _ (by rfl) _ _ 52 (by rfl) w.heap.size 128 i0 (.agg #[.int .i64 0,.int .i64 0,.int .i64 0]) 3 24 underlying52 hi hz0 hz1 hz2 rfl dE u5 _ _ (by rfl) (S.o.alloc _).hM ⟨w4.heap.size,0,none⟩ 1 1 (E.cells (kU x.s (min (x.s+x.n) p))) (by rfl) rfl (sI _ _ sM _ _) (dF _) oM aFu aFt ?_;intro v1 w5 hown1 hgrow1 hwhere1;have S:=hD ((S.o.alloc _).pushM (aG.snoc hown1 rfl) hgrow1 (hwhere1.imp id λh=>⟨_,h,Ye _⟩))))
     go_wp2_with fail;refine(oO _ _ _ _ oM oM).m ?_;rintro e w6 ⟨rfl,hb6⟩;have S:=hD (S.o.aIx hb6);have hx0:=S.o.x1;have hx3:=S.o.x2;have hx4:=S.o.x3;go_wp2_with fail;have hx0:=S.o.x1;have hx3:=S.o.x2;have hx4:=S.o.x3;have S:=hD (S.o.aIx bR.drew)
     go_region_held3 (λw'=>w' (cw X 0)=some (.int .i64 x.a)/\w' (cw X 1)=some (.int .i64 x.n)/\w' (cw X 2)=some (.int .i64 x.s))
      (first|exact⟨S.o.x1,S.o.x2,S.o.x3⟩|exact⟨(S.o.alloc _).x1,(S.o.alloc _).x2,(S.o.alloc _).x3⟩)
      (first
       |(go_at_call 279;refine(oO _ _ _ _ oM oM).m ?_;rintro e w3 ⟨rfl,hb3⟩;have S:=hD (S.o.aIx hb3))
       |(go_at_call 286;refine(tK _ _ _ oM oM).m ?_;rintro e w4 ⟨rfl,hb4⟩;have S:=hD (S.o.aIx hb4))
       |(refine eH _ (by rfl) _ _ 52 (by rfl) w.heap.size 128 i0 (.agg #[.int .i64 0,.int .i64 0,.int .i64 0]) 3 24 underlying52 hi hz0 hz1 hz2 rfl dE u4 _ _ (by rfl) (S.o.alloc _).hR ⟨w4.heap.size,0,none⟩ 1 1 (E.cells (kU (max x.s p) (x.s+x.n))) (by rfl) rfl (sI _ _ sM _ _) (dF _) oM aFu aFt ?_;intro v1 w5 hown1 hgrow1 hwhere1;have S:=hD ((S.o.alloc _).pushR (aG.snoc hown1 rfl) hgrow1 (hwhere1.imp id λh=>⟨_,h,Ye _⟩))))
     all_goals
      go_wp2_with fail;go_roundw
      case rel=>exact⟨k+1,oM,by go_num,by rw[HF.o,Qf hx2];exact S.o.hR,by rw[HBf.o,Qf hx1];exact S.o.hM,S.o.sep,S.o.hB⟩
      case measure=>simp[intOf];omega
    ·go_wp2_with fail;generalize wr.alloc (cq #[.int .i64 x.a,.int .i64 x.n,.int .i64 x.s] 128)=W0 at *;generalize wr.heap.size=X at *;have hx0:=S.o.x1;have hx3:=S.o.x2;have hx4:=S.o.x3;have S:=hD (S.o.aIx bR.drew)
     go_region_held3 (λw'=>w' (cw X 0)=some (.int .i64 x.a)/\w' (cw X 1)=some (.int .i64 x.n)/\w' (cw X 2)=some (.int .i64 x.s))
      (first|exact⟨S.o.x1,S.o.x2,S.o.x3⟩|exact⟨(S.o.alloc _).x1,(S.o.alloc _).x2,(S.o.alloc _).x3⟩)
      (first
       |(go_at_call 279;refine(oO _ _ _ _ oM oM).m ?_;rintro e w3 ⟨rfl,hb3⟩;have S:=hD (S.o.aIx hb3))
       |(go_at_call 286;refine(tK _ _ _ oM oM).m ?_;rintro e w4 ⟨rfl,hb4⟩;have S:=hD (S.o.aIx hb4))
       |(refine eH _ (by rfl) _ _ 52 (by rfl) w.heap.size 128 i0 (.agg #[.int .i64 0,.int .i64 0,.int .i64 0]) 3 24 underlying52 hi hz0 hz1 hz2 rfl dE u5 _ _ (by rfl) (S.o.alloc _).hM ⟨w4.heap.size,0,none⟩ 1 1 (E.cells (kU x.s (min (x.s+x.n) p))) (by rfl) rfl (sI _ _ sM _ _) (dF _) oM aFu aFt ?_;intro v1 w5 hown1 hgrow1 hwhere1;have S:=hD ((S.o.alloc _).pushM (aG.snoc hown1 rfl) hgrow1 (hwhere1.imp id λh=>⟨_,h,Ye _⟩))))
     go_wp2_with fail;refine(oO _ _ _ _ oM oM).m ?_;rintro e w6 ⟨rfl,hb6⟩;have S:=hD (S.o.aIx hb6);have hx0:=S.o.x1;have hx3:=S.o.x2;have hx4:=S.o.x3
     all_goals
      go_wp2_with fail;go_roundw
      case rel=>exact⟨k+1,oM,by go_num,by rw[HF.o,Qe (show ¬p<x.s+x.n by omega)];exact S.o.hR,by rw[HBf.o,Qf hx1];exact S.o.hM,S.o.sep,S.o.hB⟩
      case measure=>simp[intOf];omega
   ·by_cases hx2:p<x.s+x.n
    ·go_wp2_with fail;generalize wr.alloc (cq #[.int .i64 x.a,.int .i64 x.n,.int .i64 x.s] 128)=W0 at *;generalize wr.heap.size=X at *;refine(oO _ _ _ _ oM oM).m ?_;rintro e w6 ⟨rfl,hb6⟩;have S:=hD (S.o.aIx hb6);have hx0:=S.o.x1;have hx3:=S.o.x2;have hx4:=S.o.x3;go_wp2_with fail;have hx0:=S.o.x1;have hx3:=S.o.x2;have hx4:=S.o.x3;have S:=hD (S.o.aIx bR.drew)
     go_region_held3 (λw'=>w' (cw X 0)=some (.int .i64 x.a)/\w' (cw X 1)=some (.int .i64 x.n)/\w' (cw X 2)=some (.int .i64 x.s))
      (first|exact⟨S.o.x1,S.o.x2,S.o.x3⟩|exact⟨(S.o.alloc _).x1,(S.o.alloc _).x2,(S.o.alloc _).x3⟩)
      (first
       |(go_at_call 279;refine(oO _ _ _ _ oM oM).m ?_;rintro e w3 ⟨rfl,hb3⟩;have S:=hD (S.o.aIx hb3))
       |(go_at_call 286;refine(tK _ _ _ oM oM).m ?_;rintro e w4 ⟨rfl,hb4⟩;have S:=hD (S.o.aIx hb4))
       |(refine eH _ (by rfl) _ _ 52 (by rfl) w.heap.size 128 i0 (.agg #[.int .i64 0,.int .i64 0,.int .i64 0]) 3 24 underlying52 hi hz0 hz1 hz2 rfl dE u4 _ _ (by rfl) (S.o.alloc _).hR ⟨w4.heap.size,0,none⟩ 1 1 (E.cells (kU (max x.s p) (x.s+x.n))) (by rfl) rfl (sI _ _ sM _ _) (dF _) oM aFu aFt ?_;intro v1 w5 hown1 hgrow1 hwhere1;have S:=hD ((S.o.alloc _).pushR (aG.snoc hown1 rfl) hgrow1 (hwhere1.imp id λh=>⟨_,h,Ye _⟩))))
     all_goals
      go_wp2_with fail;go_roundw
      case rel=>exact⟨k+1,oM,by go_num,by rw[HF.o,Qf hx2];exact S.o.hR,by rw[HBf.o,Qe (show ¬x.s<p by omega)];exact S.o.hM,S.o.sep,S.o.hB⟩
      case measure=>simp[intOf];omega
    ·exfalso;omega
  ·go_wp2;go_ret2;rw[Qq oM]at hoR hoM;exact⟨_,_,rfl,hoR,hoM,hsep,hB⟩
theorem YY(x:E)(n:Int)(b:Nat)(w:Wd)(hc:w (cw b 0)=n):
  ep 288 #[.agg #[x.a,x.n,x.s],.pointer (cw b 0)] w (RB w (.bool (nY n x))):=by
 go_enter func288,ntmps288;go_wp2;go_ret;exact⟨aU (by simp[nY]),bR.aIw _⟩
theorem Ie(l:List E)(n:Int)(a:OA)(c q:Nat)(w:Wd)(hc:w (cw q 0)=n)(hr:Rd w a l):
  ep 287 #[.slice a l c,.func (.func 288) #[] #[.pointer (cw q 0)]] w (RB w (Gc l (nY n))):=by
 have hlen:=hr.1;go_enter func287,ntmps287;go_wp2_with fail;go_loopw [8] (λi wr=>∃k:Nat,k<=l.length/\i= .int .i64 k/\(∀x∈l.take k,nY n x=false)/\Below w w wr) (λi _=>l.length-(intOf i).toNat)
 case atStart=>exact⟨0,Yf _,rfl,sM,bR⟩
 case round=>
  obtain⟨k,hk,rfl,hv,hB⟩:=hrel;by_cases hlt:k<l.length
  ·obtain ⟨b,o,rfl,hat⟩:=(hr.keep hB).at oM;obtain⟨h1,h2,h3⟩:=hat k _ (Qa hlt);have HT:=hD (Dy l (nY n) k hlt hv);have HF:=hD (vC l (nY n) k hlt hv);have hcr:=hB.keep hc;generalize l[k]=x at *;clear hat hr hv hc;have hcon:=hD (YY x n q wr hcr);cases hp:nY n x
   ·have HP:=hD hp;clear hp;go_wp2_with fail;refine hcon.o.m ?_;rintro e w1 ⟨rfl,hb1⟩;rw[HP.o];go_wp2_with fail;go_roundw
    case rel=>exact⟨k+1,oM,by go_num,HF.o HP.o,hB.on hb1⟩
    case measure=>simp[intOf];omega
   ·have HP:=hD hp;clear hp;go_wp2_with fail;refine hcon.o.m ?_;rintro e w1 ⟨rfl,hb1⟩;rw[HP.o];go_wp2_with fail;go_ret;exact⟨pG (HT.o HP.o).symm,hB.on hb1⟩
  ·have HN:=hD (xI l (nY n) (by rw[Qq oM]at hv;exact hv));clear hv;go_wp2;go_ret;exact⟨pG HN.o.symm,hB⟩
theorem YX(l:List E)(n:Int)(a:OA)(c:Nat)(w:Wd)(hr:Rd w a l)(h:oK l n=none):
  ep 256 #[.slice a l c,n] w (RB w (.tuple #[sn,false])):=by
 have hN:Gc l (nY n)= -1:=xI l (nY n) λx hx=>by
  unfold oK at h;rw[Option.map_eq_none_iff,List.find?_eq_none]at h;have:=h x hx
  simpa using this
 have HN:=hD hN;clear hN;go_enter func256,ntmps256;go_wp2_with fail;have hcon:=Ie l n a c w (w.alloc (cq #[n] 3)) sM (hr.keep (bR.aIw _));rw[HN.o]at hcon;refine hcon.m ?_;rintro e w1 ⟨rfl,hb1⟩;clear hcon;go_wp2_with fail;go_ret2;exact⟨rfl,(bR.aIw _).on hb1⟩
theorem RZ(l:List E)(n s:Int)(a:OA)(c:Nat)(w:Wd)(hr:Rd w a l)(hok:∀x∈l,okB x=true)(hn:1<=n/\n<=65536)(h:oK l n=some s):
  ep 256 #[.slice a l.length c,n] w λe w'=>∃v,e= .returned (.tuple #[v,true])/\aG w' w v [⟨0,n,s⟩]/\Below w w w':=by
 obtain⟨x,hx,rfl⟩:=Option.map_eq_some_iff.1 h;obtain⟨k,hk,hlk,hkf,hfx⟩:=Sb l (nY n) x hx;have HN:Hid (Gc l (nY n)=k):=hD (Dy l (nY n) k hk hkf (by rw[hlk];exact hfx));obtain⟨c1,c2,c3,c4,c5⟩:=(aB _).1 (hok x (by rw[<-hlk];exact Qm hk));have hnx:n<=x.n:=Qt hfx;have hlen:=hr.1;obtain⟨b,o,rfl,hat⟩:=hr.at oM;obtain⟨h1,h2,h3⟩:=hat k x (by rw[Qa hk,hlk]);have hk0:(0:Int)<=k:=oM
 have hk1:(k:Int)<l.length:=oM
 have HR:=hD hr;clear h hx hkf hfx hlk hat hok hr;go_enter func256,ntmps256;go_wp2_with fail;have hcon:=Ie l n _ c w (w.alloc (cq #[n] 3)) sM (HR.o.keep (bR.aIw _));rw[HN.o]at hcon;refine hcon.m ?_;rintro e w1 ⟨rfl,hb1⟩;have hcn:=hb1.keep (a:=(cw w 0)) (v:=n) sM;have hB1:Below w w w1:=((bQ w).aIw _).on hb1;have hc3:=hB1.keep h3;have q1:IntKind.i64.wrap (x.s+n)=x.s+n:=IntWalk.i64_in _ oM;have hsz:=hB1.size;clear hcon hb1 h1 h2 h3 HR;go_wp2_with fail;have HB:=hD (Below.refl w1.drew.heap.size w1.drew);have hcd:w1.drew.cell? (cw b (o+k*3+2))=some (.int .i64 x.s):=hc3;have hcm:w1.drew.cell? (cw w 0)=n:=hcn
 go_region_held3 (λw'=>w' (cw b (o+k*3+2))=some (.int .i64 x.s)/\w' (cw w 0)=n)
  (first|exact⟨hc3,hcn⟩|exact⟨HB.o.keep hcd,HB.o.keep hcm⟩|exact⟨(HB.o.aIw _).keep hcd,(HB.o.aIw _).keep hcm⟩)
  ((go_at_call 286;refine(tK _ _ _ oM oM).m ?_;rintro e w4 ⟨rfl,hb4⟩;have HB:=hD (HB.o.on hb4)))
 go_wp2_with fail;go_ret2;have hE:kU x.s (x.s+n)=⟨0,n,x.s⟩:=by unfold kU;congr 1;omega
 refine⟨_,rfl,?_,?_⟩
 ·rw[<-hE];refine aG.lit w4 _ [kU x.s (x.s+n)] ?_ (by simp[maxLen]) _ ?_
  ·simp[bI,E.cells]
  ·exact Nat.le_trans hsz (HB.o.size)
 ·exact(hB1.drew.on HB.o).aIw _
theorem Ew(l:List E)(n:Int)(a:OA)(c:Nat)(w:Wd)(hr:Rd w a l)(hok:∀x∈l,okB x=true)(hl:l.length<=1000000)(hn:0<=n/\n<=65536):
  ep 257 #[.slice a l.length c,n] w λe w'=>∃v,e= .returned v/\aG w' w v (cO l n).1/\Below w w w':=by
 have HO:=hD hok;obtain⟨n0,n1⟩:=hn;have HLF:=hD (Hy l n n0 (λx hx=>((aB x).1 (hok x hx)).1));obtain⟨i0,hi,hz0,hz1,hz2⟩:=info_parts kK;clear hok;go_enter func257,ntmps257;go_wp2_with fail;go_loopw [1,5,11] (λm v i wr=>∃k:Nat,k<=l.length/\i= .int .i64 k/\m= .int .i64 (cO (l.take k) n).2/\aG wr w v (cO (l.take k) n).1/\Below w w wr) (λ_ _ i _=>l.length-(intOf i).toNat)
 case atStart=>exact⟨0,Yf _,rfl,rfl,aG.nil _ _,bR⟩
 case round=>
  obtain⟨k,hk,rfl,rfl,ho,hB⟩:=hrel;by_cases hlt:k<l.length
  ·obtain ⟨b,o,rfl,hat⟩:=(hr.keep hB).at oM;obtain⟨h1,h2,h3⟩:=hat k _ (Qa hlt);obtain⟨c1,c2,c3,c4,c5⟩:=(aB _).1 (HO.o _ (Qm hlt));have HT:=hD (CR l n k hlt);obtain⟨⟨f1,f2⟩,f3⟩:=HLF.o k hk;generalize l[k]=x at *;generalize cO (l.take k) n=st at *;obtain⟨R,m⟩:=st;simp only at ho f1 f2 f3 HT;simp only[xE]at HT;have HOW:=hD ho;have hsz:=hB.size;clear hat hr ho;by_cases hm:0<min m x.n
   ·have d1:decide (0<min m x.n)=true:=Qo hm;have HS1:Hid ((cO (l.take (k+1)) n).1=R++[⟨0,min m x.n,x.s⟩]):=hD (by rw[HT.o];simp[hm]);have HS2:Hid ((cO (l.take (k+1)) n).2=m-min m x.n):=hD (by rw[HT.o]);have q1:IntKind.i64.wrap (x.s+min m x.n)=x.s+min m x.n:=IntWalk.i64_in _ oM;have hmb:min m x.n<=65536:=oM
    clear HT;go_wp2_with fail;have hE:kU x.s (x.s+min m x.n)=⟨0,min m x.n,x.s⟩:=by unfold kU;congr 1;omega
    refine(tK x.s (x.s+min m x.n) _ oM oM).m ?_;rw[hE];rintro e w4 ⟨rfl,hb4⟩;have hbb:=((bQ wr).aIw (cq #[.int .i64 x.a,.int .i64 x.n,.int .i64 x.s] 128)).on hb4;have HO4:=hD (HOW.o.keep hbb);have hB4:=hB.on hbb;have hsz4:=hB4.size;have q2:IntKind.i64.wrap (m-min m x.n)=m-min m x.n:=IntWalk.i64_in _ oM;clear hE hb4 hbb HOW
    go_wp2_with (at_builtin;refine aO _ rfl _ _ 52 rfl w.heap.size 128 i0 (.agg #[oo,oo,oo]) 3 24 underlying52 hi hz0 hz1 hz2 rfl dE _ _ _ rfl (Qu HO4.o _) (cw w4 0) 1 1 (E.cells (⟨0,min m x.n,x.s⟩:E)) rfl rfl (sI _ _ sM _ _) (dF _) sh98 sh99 (by simp only[World.size_alloc];omega) ?_;intro v1 w1 hown1 hgrow1 hwhere1)
    have hB5:=hD ((hB4.aIw (cq #[oo,.int .i64 (min m x.n),.int .i64 x.s] 128)).aJa hgrow1 λj hj=>(HO4.o.lt j hj).1);have HO5:=hD (aG.snoc hown1 sM);clear hown1 hgrow1 hwhere1;go_roundw
    case rel=>exact⟨k+1,oM,by go_num,by rw[HS2.o],by rw[HS1.o];exact HO5.o,hB5.o⟩
    case measure=>simp[intOf];omega
   ·have d1:decide (0<min m x.n)=false:=Qp hm;have HS1:Hid ((cO (l.take (k+1)) n).1=R):=hD (by rw[HT.o];simp[hm]);have HS2:Hid ((cO (l.take (k+1)) n).2=m-min m x.n):=hD (by rw[HT.o]);have q2:IntKind.i64.wrap (m-min m x.n)=m-min m x.n:=IntWalk.i64_in _ oM;clear HT;go_wp2_with fail;go_roundw
    case rel=>exact⟨k+1,oM,by go_num,by rw[HS2.o],by rw[HS1.o];exact HOW.o.keep (bR.aIw _),hB.aIw _⟩
    case measure=>simp[intOf];omega
  ·rw[Qq oM]at ho;go_wp2;go_ret;exact⟨_,rfl,ho,hB⟩
def FO(B:Nat)(a0 a:OA):Prop:=a=a0∨ ∀b o,a=cw b o->B<=b
theorem FO.own{w:Wd}{B B' n c:Nat}{a0 a:OA}{l:List E}(h:aG w B (.slice a n c) l)(hb:B'<=B):FO B' a0 a:=by
 refine .inr λb o e=> ?_;subst e;exact Nat.le_trans hb (h.lt b rfl).1
theorem Rd.lt{w:Wd}{a:OA}{l:List E}(h:Rd w a l):l=[]∨ ∀b o,a=cw b o->b<w.heap.size:=by
 cases l with
 |nil=>exact .inl rfl
 | cons x r=>
  obtain⟨b,o,e,hat⟩:=h.at sM;refine .inr λb' o' e'=> ?_;have hc:=Qj w _ (hat 0 x rfl).a;rw[e]at e';injection e' with e';injection e' with e1;rw[<-e1];exact hc
theorem Rd.cell_ne{w:Wd}{a:OA}{l:List E}(h:Rd w a l)(g o:Nat)(v:Value)(hb:l=[]∨ ∀b o',a=cw b o'->b≠g):Rd (w.setCell (cw g o) v) a l:=by
 rcases hb with hb|hb
 ·exact⟨h.1,.inl hb⟩
 refine⟨h.1,h.2.imp id λ⟨b,o',ha,hat⟩=>⟨b,o',ha,λk x hk=> ?_⟩⟩;have hne:=hb b o' ha;obtain⟨h1,h2,h3⟩:=hat k x hk;exact⟨by rw[World.cell?_setCell_far _ _ _ _ (Ne.symm hne)];exact h1,by rw[World.cell?_setCell_far _ _ _ _ (Ne.symm hne)];exact h2,by rw[World.cell?_setCell_far _ _ _ _ (Ne.symm hne)];exact h3⟩
theorem zQ(less:List E):dI [] less=[]:=by
 induction less with
 |nil=>rfl
 |cons x r ih=>exact ih
theorem Kb(l less:List E)(a al:OA)(c cl:Nat)(w:Wd)(hr:Rd w a l)(hrl:Rd w al less)(hc:Canon l)(hok:∀x∈less,okB x=true)(hl:less.length<=1000000):
  ep 250 #[.slice a l c,.slice al less.length cl] w λe w'=>∃a1 c1,e= .returned (.slice a1 (dI l less).length c1)/\Rd w' a1 (dI l less)/\FO w a a1/\Below w w w':=by
 have HO:=hD hok;have HCA:Hid (∀k,Canon (dI l (less.take k))):=hD λk=>(rQ (less.take k) (λx hx=>hok x (List.mem_of_mem_take hx)) l hc).1;obtain⟨i0,hi,hz0,hz1,hz2⟩:=info_parts kK;clear hok;go_enter func250,ntmps250;go_wp2_with fail;go_loopw [0,13] (λv i wr=>∃k:Nat,k<=less.length/\i= .int .i64 k/\(∃a1 c1,v= .slice a1 (dI l (less.take k)).length c1/\Rd wr a1 (dI l (less.take k))/\FO w a a1)/\Below w w wr) (λ_ i _=>less.length-(intOf i).toNat)
 case atStart=>exact⟨0,Yf _,rfl,⟨a,c,rfl,hr,.inl rfl⟩,bR⟩
 case round=>
  obtain⟨k,hk,rfl,⟨a1,c1,rfl,hr1,hfr1⟩,hB⟩:=hrel;by_cases hlt:k<less.length
  ·obtain⟨b,o,rfl,hat⟩:=(hrl.keep hB).at oM;obtain⟨h1,h2,h3⟩:=hat k _ (Qa hlt);have hxo:=HO.o _ (Qm hlt);obtain⟨d1,d2,d3,d4,d5⟩:=(aB _).1 hxo;have HT:=hD (FV l less k hlt);have HC1:=hD (HCA.o k);have HC2:=hD (HCA.o (k+1));generalize less[k]=x at *;generalize dI l (less.take k)=L at *;have hLs:=bE HC1.o;have HOK:Hid (∀y∈L,okB y=true):=hD λy hy=>(HC1.o.1 y hy).2;have HOK2:Hid (∀y∈dN L x.s,okB y=true):=hD λy hy=>((iQ L x.s HC1.o).1 y hy).2;have lB:=wS L x.s;have lF:=uO L x.s;have lG:=uO (dN L x.s) (x.s+x.n);clear hat hrl hr;go_wp2_with fail;refine(wO L x.s a1 c1 _ (hr1.keep (bR.aIw _)) HOK.o oM oM).m ?_;rintro e w3 ⟨v3,m3,rfl,ho3,hm3,hsep,hb3⟩;have hx0:=hb3.keep (a:=(cw wr.heap.size 0)) (v:=x.a) sM;have hx1:=hb3.keep (a:=(cw wr.heap.size 1)) (v:=x.n) sM;have hx2:=hb3.keep (a:=(cw wr.heap.size 2)) (v:=x.s) sM;have hB3:Below w w w3:=(hB.aIw _).on hb3;obtain⟨a3,c3,rfl,hr3⟩:=ho3.rd oM;have HM:=hD hm3;have HSZ:Hid (w.heap.size<=(wr.alloc (cq #[.int .i64 x.a,.int .i64 x.n,.int .i64 x.s] 128)).heap.size):=hD (by have h5:=hB.size;simp only[World.size_alloc];omega);have hrow:∀j,m3.ownBlock=some j->w.heap.size<=j:=λj hj=>by have h4:=(hm3.lt j hj).1;have h5:=hB.size;simp only[World.size_alloc]at h4;omega
   have HROW:=hD hrow;clear ho3 hm3 hsep hb3 hrow hr1 h1 h2 h3;go_wp2_with fail;refine(oO _ _ _ _ oM oM).m ?_;rintro e w4 ⟨rfl,hb4⟩;have HM:=hD (HM.o.keep hb4);have hr4:=hr3.keep hb4;have hB4:=hB3.on hb4;clear hb4 hr3 hx0 hx1 hx2;go_wp2_with fail;refine(wO (dN L x.s) (x.s+x.n) a3 c3 _ hr4 HOK2.o oM oM).m ?_;rintro e w5 ⟨v5,m5,rfl,ho5,hm5,hsep,hb5⟩;have HM:=hD (HM.o.keep hb5);have hB5:=hB4.on hb5;have HSZ5:=hD hB5.size;obtain⟨a5,c5,rfl,hr5⟩:=ho5.rd oM;have HS:=hD hr5.source;clear hb5 ho5 hm5 hsep hr5 hr4
   go_wp2_with (at_builtin;refine dB _ rfl _ _ 52 rfl w.heap.size 128 i0 (.agg #[oo,oo,oo]) 3 24 underlying52 hi hz0 hz1 hz2 rfl dE m3 _ _ rfl (HM.o.mono HSZ.o) _ _ _ _ rfl HS.o oM aFu HSZ5.o ?_;intro v1 w6 hown1 hgrow1 hwhere1)
   have HO6:=hD (aG.append hown1 rfl);have HB6:=hD (hB5.aJa hgrow1 HROW.o);have HLEN:Hid ((AA L x).length<=46912496118443):=hD (by unfold AA;rw[Qg];omega);clear hown1 hgrow1 hwhere1;go_roundw
   case rel=>exact⟨k+1,oM,by go_num,(by rw[HT.o];obtain⟨a6,c6,rfl,hr6⟩:=HO6.o.rd HLEN.o;exact⟨a6,c6,rfl,hr6,FO.own HO6.o (Ye _)⟩),HB6.o⟩
   case measure=>simp[intOf];omega
  ·rw[Qq oM]at hr1 ⊢;go_wp2;go_ret;exact⟨a1,c1,rfl,hr1,hfr1,hB⟩
theorem Vr(N:Int)(R:List E)(a:OA)(c:Nat)(w:Wd)(hr:Rd w a R)(hc:Canon R):
  ep 211 #[.agg #[N,.slice a R c]] w (RB w (aR R)):=by
 have hs:=bE hc;have HM:Hid (∀x∈R,0<=x.n/\x.n<=65536):=hD λx hx=>by
  have:=(aB x).1 (hc.1 x hx).2;omega
 go_enter func211,ntmps211;go_wp2_with fail;refine(tJ R a c _ (hr.keep (bR.aIw _)) HM.o oM).m ?_;rintro e w1 ⟨rfl,hb1⟩;go_wp2_with fail;go_ret;exact⟨rfl,(bR.aIw _).on hb1⟩
theorem ZP(n:Nat)(w:Wd)(h0:0<n)(hn:n<=65536):
  ep 206 #[n] w λe w'=>∃v,e= .returned (.tuple #[.agg #[n,v],oo])/\aG w' w v [⟨0,n,0⟩]/\Below w w w':=by
 have d0:((n:Int)==0)=false:=by simp;omega
 go_enter func206,ntmps206;go_wp2;refine Yg (v:= .tuple #[.agg #[n,.slice (cw (cf w) 0) 1 1],oo]) ?_ rfl ⟨_,rfl,?_,?_⟩
 ·simp[results,results206,go_sem]
 ·have h:=aG.lit (w.alloc (cq #[n,.slice (cw (cf w) 0) 1 1] 242)) #[.int .i64 0,.int .i64 n,.int .i64 0] [⟨0,n,0⟩] rfl (by simp[maxLen]) w sM
  simpa using h
 ·(repeat(first|exact bR|assumption|refine Below.aJd ?_ _|refine Below.aIw ?_ _|refine Below.setCell ?_ sM _|refine Below.drew ?_))
def oQ(l:List E)(k:Nat):List E:=eB (l.take k)++l.drop k
theorem Mr(l:List E):oQ l 0=l:=by simp[oQ,eB]
theorem PR(l:List E):oQ l l.length=eB l:=by simp[oQ]
theorem Gh(l:List E)(k:Nat):(oQ l k).length=l.length:=by simp[oQ,eB];omega
theorem PQ(l:List E)(k:Nat)(h:k<l.length):(oQ l k)[k]? =some l[k]:=by
 unfold oQ eB;rw[List.getElem?_append_right pO];simp;rw[show k-min k l.length=0 by omega];simp
theorem PP(l:List E)(k:Nat)(h:k<l.length):(oQ l k).set k l[k].flat=oQ l (k+1):=by
 unfold oQ eB;rw[List.set_append_right _ _ pO];rw[Qh h,Yz,Yc];congr 1;rw[show k-(List.map E.flat (l.take k)).length=0 by simp;omega,List.drop_eq_getElem_cons h];rfl
theorem QQ(M:List E)(k:Nat)(x:E)(h:M[k]? =some x):(bI M).set (k*3) oo=bI (M.set k x.flat):=by
 have hk:k<M.length:=(Qx.1 h).1;have hx:M[k]=x:=(Qx.1 h).2;have hl:(bI (M.take k)).length=k*3:=by rw[dH,Yp,Yv oM]
 have e1:M=M.take k++(x::M.drop (k+1)):=by
  rw[<-hx,<-List.drop_eq_getElem_cons hk,List.take_append_drop]
 have e2:M.set k x.flat=M.take k++(x.flat::M.drop (k+1)):=GG M k hk _;rw[e2]
 conv=>lhs;rw[e1]
 rw[eO,eO,List.set_append_right _ _ (by rw[hl];omega),hl,Nat.sub_self];rfl
theorem aG.seta{w:Wd}{B g c n:Nat}{M:List E}(hn:n=M.length)(h:aG w B (.slice (cw g 0) n c) M)(k:Nat)(x:E)(hx:M[k]? =some x):
  aG (w.setCell (cw g (k*3)) oo) B (.slice (cw g 0) n c) (M.set k x.flat)/\w.grownBy (w.setCell (cw g (k*3)) oo) (some g):=by
 subst hn;obtain⟨s1,g1⟩:=World.ownsRow.stored h (k*3) oo;rw[QQ M k x hx]at s1;refine⟨?_,g1⟩;unfold aG;rw[List.length_set];exact s1
theorem Np(N:Nat)(l:List E)(a al:OA)(n c cl:Nat)(w:Wd)(hN:N<=65536)(hr:Rd w al l)(hw:wfL l)(hp:aQ N l=false):
  ep 249 #[.agg #[N,.slice a n c],.slice al l cl] w (RB w (.tuple #[sn,false])):=by
 have hlen:=hr.1;have HP:=hD hp;clear hp;go_enter func249,ntmps249;go_wp2_with fail;go_loopw [13] (λi wr=>∃k:Nat,k<=l.length/\i= .int .i64 k/\aQ N (l.take k)=true/\wr (cw w 0)=N/\Below w w wr) (λi _=>l.length-(intOf i).toNat)
 case atStart=>exact⟨0,Yf _,rfl,rfl,sM,bR.aIw _⟩
 case round=>
  obtain⟨k,hk,rfl,hp,hcN,hB⟩:=hrel;by_cases hlt:k<l.length
  ·obtain ⟨b,o,rfl,hat⟩:=(hr.keep hB).at oM;obtain⟨h1,h2,h3⟩:=hat k _ (Qa hlt);have HX:=hD (hw _ (Qm hlt));have HV:=hD (yT N l k hlt);have HPk:=hD hp;generalize l[k]=x at *;clear hat hr hp;obtain⟨_,⟨b3,b4⟩,⟨b5,b6⟩⟩:=HX.o;by_cases hx:pE N x=true
   ·have HF:=hD hx;have hx':1<=x.n/\0<=x.s/\x.s+x.n<=N:=Qt hx;obtain⟨e1,e2,e3⟩:=hx';clear hx;have hcN2:(wr.alloc (cq #[x.a,x.n,x.s] 128)).cell? (cw w 0)=N:=((bQ wr).aIw _).keep hcN;go_wp2_with fail;go_roundw
    case rel=>exact⟨k+1,oM,by go_num,by rw[HV.o,HPk.o,HF.o];rfl,hcN2,hB.aIw _⟩
    case measure=>simp[intOf];omega
   ·have hx':¬ (1<=x.n/\0<=x.s/\x.s+x.n<=N):=λh=>hx (Qo h);clear hx;by_cases d1:x.n<1
    ·go_wp2_with fail;go_ret2;exact⟨rfl,hB.aIw _⟩
    ·by_cases d2:x.s<0
     ·go_wp2_with fail;go_ret2;exact⟨rfl,hB.aIw _⟩
     ·by_cases d3:(N:Int)<x.s
      ·go_wp2_with fail;go_ret2;exact⟨rfl,hB.aIw _⟩
      ·have d4:(N:Int)-x.s<x.n:=oM
       go_wp2_with fail;go_ret2;exact⟨rfl,hB.aIw _⟩
  ·rw[Qq oM]at hp;exact absurd hp (by rw[HP.o];simp)
theorem xV(N:Nat)(l:List E)(a al:OA)(n c cl:Nat)(w:Wd)(hN:N<=65536)(hr:Rd w al l)(hw:wfL l)(hp:aQ N l=true)(hl:l.length<=1000000):
  ep 249 #[.agg #[N,.slice a n c],.slice al l cl] w λe w'=>∃v,e= .returned (.tuple #[v,.bool (vZ l)])/\aG w' w v (bW (eB l))/\Below w w w':=by
 have hlen:=hr.1;have HPX:=hD ((aP _ _).1 hp);have HFW:=hD (aBo hN hp);have HM:Hid (∀x∈l,0<=x.n/\x.n<=65536):=hD λx hx=>by have:=HPX.o x hx;omega
 have HRM:Hid (∀x∈bW (eB l),0<=x.n/\x.n<=65536):=hD λx hx=>by
  have:=(aB x).1 ((dX (eB l)).1.1 x hx).2;omega
 have hrs:=bE (dX (eB l)).1;clear hp hw;go_enter func249,ntmps249;go_wp2_with fail;go_loopw [13] (λi wr=>∃k:Nat,k<=l.length/\i= .int .i64 k/\wr (cw w 0)=N/\Below w w wr) (λi _=>l.length-(intOf i).toNat)
 case atStart=>exact⟨0,Yf _,rfl,sM,bR.aIw _⟩
 case round=>
  obtain⟨k,hk,rfl,hcN,hB⟩:=hrel;by_cases hlt:k<l.length
  ·obtain⟨b,o,rfl,hat⟩:=(hr.keep hB).at oM;obtain⟨h1,h2,h3⟩:=hat k _ (Qa hlt);obtain⟨e1,e2,e3⟩:=HPX.o _ (Qm hlt);generalize l[k]=x at *;clear hat hr;have hcN2:(wr.alloc (cq #[.int .i64 x.a,.int .i64 x.n,.int .i64 x.s] 128)).cell? (cw w 0)=N:=((bQ wr).aIw _).keep hcN;go_wp2_with fail;go_roundw
   case rel=>exact⟨k+1,oM,by go_num,hcN2,hB.aIw _⟩
   case measure=>simp[intOf];omega
  ·have hr1:=hr.keep hB;go_wp2_with fail;refine(Ch l _ _ _ hr1 oM).m ?_;rintro e w2 ⟨v2,rfl,ho2,hb2⟩;have hB2:=hB.on hb2;have HO2:=hD (ho2.mono hB.size);have hgw:=hb2.size;clear hr1;obtain⟨a2,c2,rfl,_⟩:=ho2.rd oM;clear ho2 hb2;go_wp2_with fail;go_loopw [47] (λi wq=>∃k:Nat,k<=l.length/\i= .int .i64 k/\aG wq w (.slice a2 l.length c2) (oQ l k)/\w2.grownBy wq (Value.slice a2 l.length c2).ownBlock) (λi _=>l.length-(intOf i).toNat)
   case atStart=>exact⟨0,Yf _,rfl,by rw[Mr];exact HO2.o,World.grownBy.refl _ _⟩
   case round=>
    obtain⟨k,hk,rfl,ho,hg⟩:=hrel;have hfl:=Gh l k;have hrow:∀j,(Value.slice a2 l.length c2).ownBlock=some j->w.heap.size<=j:=λj hj=>(ho.lt j hj).1;have hBq:=hB2.aJa hg hrow;by_cases hlt:k<l.length
    ·rcases ho.form with ⟨h0,h1⟩|⟨g,cc,h0,hg1,hg2,hc1,hc2,hat,hfz⟩
     ·rw[h1]at hfl;simp at hfl;omega
     ·injection h0 with h0 h00 h000;subst h0;subst h000;have hgt:=PQ l k hlt;obtain⟨y1,y2,y3⟩:=hat k _ hgt;have hf0:=hfz (k*3);obtain⟨HO3,hg3⟩:=aG.seta hfl.symm ho k _ hgt;rw[PP l k hlt]at HO3;have HO4:=hD HO3;have HG4:=hD (World.grownBy.next hg hg3);simp only[Nat.zero_add]at y1;generalize l[k]=x at *;clear HO3 hg3 hat hfz hgt h00 ho hg hfl y2 y3;go_wp2_with fail;go_roundw
      case rel=>exact⟨k+1,oM,by go_num,HO4.o,HG4.o⟩
      case measure=>simp[intOf];omega
    ·obtain rfl:k=l.length:=oM
     rw[PR]at ho;have hFL:(eB l).length=l.length:=by simp[eB]
     have hrF:Rd _ a2 (eB l):=ho.rd' oM;have hru:=Ac (eB l) a2 c2 _ hrF HFW.o oM;rw[hFL]at hru;have HRU:=hD hru;have HRQ:=hD (hr.keep hBq);have hszq:=hBq.size;clear ho hg hru hr;go_wp2_with fail;refine HRU.o.m ?_;rintro e w4 ⟨v4,rfl,ho4,hb4⟩;have HO5:=hD (ho4.mono hszq);obtain⟨a4,c4,rfl,hr4⟩:=ho4.rd oM;have hB4:=hBq.on hb4;have hr4':=hD hr4;have HRQ:=hD (HRQ.o.keep hb4);clear ho4 hb4 hr4 HRU;go_wp2_with fail;refine(tJ _ a4 c4 _ hr4'.o HRM.o oM).m ?_;rintro e w5 ⟨rfl,hb5⟩;have HO5:=hD (HO5.o.keep hb5);have HRQ:=hD (HRQ.o.keep hb5);have hB5:=hB4.on hb5;clear hb5 hr4';go_wp2_with fail;refine(tJ l al cl _ HRQ.o HM.o oM).m ?_;rintro e w6 ⟨rfl,hb6⟩;have HO6:=hD (HO5.o.keep hb6);have hB6:=hB5.on hb6;clear hb6;go_wp2_with fail;go_ret2;exact⟨_,rfl,HO6.o,hB6⟩
structure wV(w0 w:Wd)(N:Int)(a:OA)(n c:Nat):Prop where
 b0:w (cw w0 0)=N
 b1:w (cw w0 1)=some (.slice a n c)
 r0:w (cw (cf w0) 0)=oo
 r1:w (cw (cf w0) 1)=sn
 f0:w.frozen? (cw (cf w0) 0)=false
 f1:w.frozen? (cw (cf w0) 1)=false
 B:Below w0 w0 w
theorem wV.aIx{w0 w w':Wd}{N:Int}{a:OA}{n c:Nat}(h:wV w0 w N a n c)(hb:Below w w w'):wV w0 w' N a n c:=
 ⟨hb.keep h.b0,hb.keep h.b1,hb.keep h.r0,hb.keep h.r1,hb.aJc h.r0 h.f0,hb.aJc h.r1 h.f1,h.B.on hb⟩
theorem wV.start(w:Wd)(N:Int)(a:OA)(n c:Nat)(t:TypeId):wV w ((w.alloc (cq #[N,.slice a n c] t)).alloc (cq #[oo,sn] t)) N a n c:=
 ⟨sM,sM,sM,sM,sM,sM,(bR.aIw _).aIw _⟩
theorem Ph(N:Nat)(R l:List E)(a al:OA)(c cl:Nat)(w:Wd)(hN:N<=65536)(hr:Rd w al l)(hw:wfL l)(hl:l.length<=1000000)(hp:(aQ N l&&vZ l)=false):
  ep 208 #[.agg #[N,.slice a R c],.slice al l cl] w (RB w (.tuple #[.agg #[oo,sn],ow])):=by
 have HS0:=hD (wV.start w N a R.length c 242);have HR0:=hD (hr.keep (((bQ w).aIw (cq #[N,.slice a R c] 242)).aIw (cq #[oo,sn] 242)));cases h:aQ N l
 ·have HP:=hD h;clear hp h hr;go_enter func208,ntmps208;go_wp2_with fail;refine(Np N l a al _ c cl _ hN HR0.o hw HP.o).m ?_;rintro e w1 ⟨rfl,hb1⟩;exact aFv
 ·rw[h]at hp;have HP:=hD h;have HO:Hid (vZ l=false):=hD (by simpa using hp);clear hp h hr;go_enter func208,ntmps208;go_wp2_with fail;refine(xV N l a al _ c cl _ hN HR0.o hw HP.o hl).m ?_;rintro e w1 ⟨v1,rfl,_,hb1⟩;rw[HO.o];exact aFv
theorem jF(l:List E)(z:Int)(a:OA)(c:Nat)(w:Wd)(hz:aR l=z)(hr:Rd w a l)(hn:∀x∈l,0<=x.n/\x.n<=65536)(hl:l.length<=1000000000):
  ep 251 #[.slice a l.length c] w (RB w z):=by
 subst hz;exact tJ l a c w hr hn hl
def aCw(p:Prop)(a:OA)(g:Nat):Prop:=p∨ ∀b o,a=cw b o->b≠g
def De(p0 p:Prop)(B:Nat)(a0 a:OA):Prop:=p∨(a=a0/\ ¬p0)∨ ∀b o,a=cw b o->B<=b
theorem De.away{p0 p:Prop}{B g:Nat}{a0 a:OA}(h:De p0 p B a0 a)(h0:aCw p0 a0 g)(hg:g<B):aCw p a g:=by
 rcases h with h|⟨rfl,h⟩|h
 ·exact .inl h
 ·exact .inr (h0.resolve_left h)
 ·exact .inr λb o e=>by have:=h b o e;omega
theorem De.mono{p0 p:Prop}{B B':Nat}{a0 a:OA}(h:De p0 p B a0 a)(hb:B'<=B):De p0 p B' a0 a:=by
 rcases h with h|h|h
 ·exact .inl h
 ·exact .inr (.inl h)
 ·exact .inr (.inr λb o e=>Nat.le_trans hb (h b o e))
def JW(w w':Wd)(a:OA)(l0 l:List E)(v:Value):Prop:= ∃a' c',v= .slice a' l c'/\Rd w' a' l/\De (l0=[]) (l=[]) w a a'
def ZX(N:Nat)(R L:List E)(a:OA)(w:Wd)(e:Ending)(w':Wd):Prop:=
 Below w w w'/\((aR (dI R L)+aR L=aR R/\ ∃v,e= .returned (.tuple #[.agg #[N,v],oo])/\JW w w' a R (dI R L) v)∨
  (aR (dI R L)+aR L≠aR R/\e= .returned (.tuple #[.agg #[oo,sn],.int .i64 8])))
theorem XL(N:Nat)(R l:List E)(a al:OA)(c cl:Nat)(w:Wd)(hN:N<=65536)(hrR:Rd w a R)(hc:Canon R)(hr:Rd w al l)(hw:wfL l)(hl:l.length<=1000000)(hp:aQ N l=true)(ho:vZ l=true):
  ep 208 #[.agg #[N,.slice a R c],.slice al l cl] w (ZX N R (bW (eB l)) a w):=by
 have HS0:=hD (wV.start w N a R.length c 242);have hk:=((bQ w).aIw (cq #[N,.slice a R c] 242)).aIw (cq #[oo,sn] 242);have HR0:=hD (hr.keep hk);have HRR:=hD (hrR.keep hk);have HNA:=hD hrR.lt;have HP:=hD hp;have HO:=hD ho;have hLc:=(dX (eB l)).1;have hLs:=bE hLc;have HLok:Hid (∀x∈bW (eB l),okB x=true):=hD λx hx=>(hLc.1 x hx).2;have hWc:=(rQ (bW (eB l)) HLok.o R hc).1;have hWs:=bE hWc;have hRs:=bE hc;have HM:∀L:List E,Canon L-> ∀x∈L,0<=x.n/\x.n<=65536:=λL hL x hx=>by
  have:=(aB x).1 (hL.1 x hx).2;omega
 have HM1:=hD (HM _ hLc);have HM2:=hD (HM _ hWc);have HM3:=hD (HM _ hc);obtain⟨q1,q2⟩:=qN _ 65536 HM1.o;obtain⟨q3,q4⟩:=qN _ 65536 HM2.o;obtain⟨q5,q6⟩:=qN _ 65536 HM3.o;have HCC:=hD hc;clear hp ho hr hrR hk hLc hWc HM hc;generalize hLL:bW (eB l)=L at *;have HLL:=hD hLL;clear hLL;go_enter func208,ntmps208;go_wp2_with fail;have hcon:=xV N l a al R.length c cl _ hN HR0.o hw HP.o hl;rw[HO.o,HLL.o]at hcon;refine hcon.m ?_;rintro e w1 ⟨v1,rfl,ho1,hb1⟩;obtain⟨a1,c1,rfl,hr1⟩:=ho1.rd oM;have HS:=hD (HS0.o.aIx hb1);have HRR1:=hD (HRR.o.keep hb1);have HR1:=hD hr1;have HSZ:=hD hb1.size;clear hb1 HS0 HRR ho1 hr1 hcon HR0;have b1:=HS.o.b1;go_wp2_with fail;refine(Kb R L a a1 c c1 _ HRR1.o HR1.o HCC.o HLok.o oM).m ?_;rintro e w2 ⟨a2,c2,rfl,hr2,hfr2,hb2⟩;have HS:=hD (HS.o.aIx hb2);have HRR2:=hD (HRR1.o.keep hb2);have HR2:=hD (HR1.o.keep hb2);have HW2:=hD hr2;have hsz1:w.heap.size+2<=w1.heap.size:=by have:=HSZ.o;simpa using this
 have HNE:Hid (dI R L=[]∨ ∀b o,a2=cw b o->b≠w.heap.size+1):=hD (by
  rcases hfr2 with h0|hfr2
  ·rcases HNA.o with h1|h1
   ·rw[h1];exact .inl (zQ L)
   ·refine .inr λb o e=> ?_;rw[h0]at e;have:=h1 b o e;omega
  ·refine .inr λb o e=> ?_;have:=hfr2 b o e
   omega)
 have HFr:Hid (De (R=[]) (dI R L=[]) w a a2):=hD (by
  rcases hfr2 with h0|h
  ·by_cases hR:R=[]
   ·exact .inl (by rw[hR];exact zQ L)
   ·exact .inr (.inl ⟨h0,hR⟩)
  ·exact .inr (.inr λb o e=>by have:=h b o e;omega))
 clear hb2 hr2 HRR1 HR1 b1 hfr2 HNA;generalize hWW:dI R L=W at *;have HWW:=hD hWW;clear hWW;have b1:=HS.o.b1;have b0:=HS.o.b0;generalize hl1:aR W=z1 at *;generalize hl2:aR L=z2 at *;generalize hl3:aR R=z3 at *;have H1:=hD hl1;have H2:=hD hl2;have H3:=hD hl3;have q7:IntKind.i64.wrap (z1+z2)=z1+z2:=IntWalk.i64_in _ oM;clear hl1 hl2 hl3;by_cases hz:z1+z2=z3
 ·have d1:((z1+z2) != z3)=false:=by simp[hz]
  have d2:((z1+z2)==z3)=true:=by simp[hz]
  have HZ:=hD hz;clear hz;go_wp2_with fail;refine wpr ?_
  repeat(go_big_quiet_step (first|(go_at_call_of 251 (Value.slice a2 W c2);exact Calls.aJb (jF W z1 a2 c2 _ H1.o (HW2.o.keep (World.aIy _ _)) HM2.o oM))|(go_at_call_of 251 (Value.slice a1 L.length c1);exact Calls.aJb (jF L z2 a1 c1 _ H2.o (HR2.o.keep (World.aIy _ _)) HM1.o oM))|(go_at_call_of 251 (Value.slice a R c);exact Calls.aJb (jF R z3 a c _ H3.o (HRR2.o.keep (World.aIy _ _)) HM3.o oM))))
  refine wqn λnq=> ?_;have HB:=hD (HS.o.aIx (World.aIy w2 nq));have HW3:=hD (HW2.o.keep (World.aIy w2 nq));clear HS b0 b1;generalize w2.next nq=w3 at *;have HS:=HB;have r0:=HS.o.r0;have r1:=HS.o.r1;have f0:=HS.o.f0;have f1:=HS.o.f1;have b0:=HS.o.b0;have b1:=HS.o.b1;go_wp2_with fail;refine Yg (v:= .tuple #[.agg #[N,.slice a2 W c2],oo]) ?_ rfl ⟨?_,.inl ⟨by rw[HWW.o,H1.o,H2.o,H3.o];exact HZ.o,_,rfl,a2,c2,by rw[HWW.o],?_,by rw[HWW.o];exact HFr.o⟩⟩
  ·simp[results,results208,go_sem,r0,r1,f0,f1]
  ·exact(HS.o.B.setCell sM _).setCell sM _
  ·rw[HWW.o];exact(HW3.o.cell_ne _ _ _ HNE.o).cell_ne _ _ _ HNE.o
 ·have d1:((z1+z2) != z3)=true:=by simp[hz]
  have d2:((z1+z2)==z3)=false:=by simp[hz]
  have HZ:=hD hz;clear hz;go_wp2_with fail;refine wpr ?_
  repeat(go_big_quiet_step (first|(go_at_call_of 251 (Value.slice a2 W c2);exact Calls.aJb (jF W z1 a2 c2 _ H1.o (HW2.o.keep (World.aIy _ _)) HM2.o oM))|(go_at_call_of 251 (Value.slice a1 L.length c1);exact Calls.aJb (jF L z2 a1 c1 _ H2.o (HR2.o.keep (World.aIy _ _)) HM1.o oM))|(go_at_call_of 251 (Value.slice a R c);exact Calls.aJb (jF R z3 a c _ H3.o (HRR2.o.keep (World.aIy _ _)) HM3.o oM))))
  refine wqn λnq=> ?_;have HB:=hD (HS.o.aIx (World.aIy w2 nq));have HW3:=hD (HW2.o.keep (World.aIy w2 nq));clear HS b0 b1;generalize w2.next nq=w3 at *;have HS:=HB;have r0:=HS.o.r0;have r1:=HS.o.r1;have f0:=HS.o.f0;have f1:=HS.o.f1;have b0:=HS.o.b0;have b1:=HS.o.b1;go_wp2_with fail;refine Yg (v:= .tuple #[.agg #[oo,sn],.int .i64 8]) ?_ rfl ⟨?_,.inr ⟨by rw[HWW.o,H1.o,H2.o,H3.o];exact HZ.o,rfl⟩⟩
  ·simp[results,results208,go_sem,r0,r1,f0,f1]
  ·exact(HS.o.B.setCell sM _).setCell sM _
def aDa(M:List Bool)(l:List E)(u:Bool)(a:OA)(w:Wd)(e:Ending)(w':Wd):Prop:=
 Below w w w'/\((mQ M.length l=false/\e= .returned (.tuple #[.agg #[oo,sn],ow]))∨
  (mQ M.length l=true/\stN M l u≠0/\e= .returned (.tuple #[.agg #[oo,sn],.int .i64 8]))∨
  (mQ M.length l=true/\stN M l u=0/\ ∃v,e= .returned (.tuple #[.agg #[M.length,v],oo])/\JW w w' a (aT M) (aT (yA M l u)) v))
theorem IM(M:List Bool)(l:List E)(a al:OA)(c cl:Nat)(w:Wd)(hN:M.length<=65536)(hrR:Rd w a (aT M))(hr:Rd w al l)(hw:wfL l)(hl:l.length<=1000000):
  ep 208 #[.agg #[M.length,.slice a (aT M).length c],.slice al l cl] w (aDa M l true a w):=by
 cases hb:mQ M.length l
 ·exact(Ph M.length (aT M) l a al c cl w hN hr hw hl hb).mono λe w' h=>⟨h.2,.inl ⟨hb,h.1⟩⟩
 ·obtain⟨hp,ho,_⟩:=vU hN hb;refine(XL M.length (aT M) l a al c cl w hN hrR (cZ M) hr hw hl hp ho).mono λe w' h=> ?_;obtain⟨h1,⟨h2,v,h3,h4⟩|⟨h2,h3⟩⟩:=h
  ·exact⟨h1,.inr (.inr ⟨hb,(Ht hN hp).1 h2,v,h3,by rw[aBc hN hp]at h4;exact h4⟩)⟩
  ·exact⟨h1,.inr (.inl ⟨hb,λhc=>h2 ((Ht hN hp).2 hc),h3⟩)⟩
def aHl(N:Nat)(n h:Int):Bool:=decide (0<=n/\0<=h/\h<=N)
theorem Nj(N:Nat)(n h:Int):aHl N n h=true↔0<=n/\0<=h/\h<=N:=by simp[aHl]
theorem Ea{M:List Bool}(hN:M.length<=65536){n h:Nat}(hf:n<=aK (dA M) M.length):wfL (iH M n h)/\(iH M n h).length<=131072:=by
 have hp:=(rZ hN (n:=n) (h:=h) hf).perm;have hl:=(rZ hN (n:=n) (h:=h) hf).len;have key:∀l:List E,aQ M.length l=true->(l.length:Int)<=aR l:=λl=>by
  induction l with
  |nil=>intro _;simp[aR]
  | cons x r ih=>
   intro h;have h1:=(aP _ _).1 h x sM;have h2:=ih ((aP _ _).2 λy hy=>(aP _ _).1 h y (by simp[hy]));rw[sN,List.length_cons];omega
 have :=key _ hp;have ha:=iX (dA M) M.length;refine⟨λx hx=> ?_,oM⟩;have hx':=(aP _ _).1 hp x hx;have h0:x.a=0:=by
  unfold iH at hx
  split at hx
  ·simp at hx
  ·split at hx
   ·simp at hx;rw[hx]
   ·split at hx
    ·simp at hx;rw[hx]
    ·unfold xC at hx;rcases Qn.1 hx with h1|h1
     ·exact((Ex _ n (xK M hN h).1).1.1 x h1).1
     ·rw[CJ M hN]at h1;exact((Ex _ _ (wR M hN h).1).1.1 x h1).1
 exact⟨oM,oM,oM⟩
theorem Vo(N:Int)(R:List E)(a:OA)(c:Nat)(w:Wd)(hr:Rd w a R)(hl:R.length<=1000000000):
  ep 209 #[.agg #[N,.slice a R c]] w λe w'=>∃v,e= .returned v/\aG w' w v R/\Below w w w':=by
 have hk:=(bQ w).aIw (cq #[N,.slice a R c] 242);have HR:=hD (hr.keep hk);go_enter func209,ntmps209;go_wp2_with fail;refine(Ch R a c _ HR.o hl).m ?_;rintro e w1 ⟨v,rfl,ho,hb1⟩;go_wp2_with fail;go_ret;exact⟨_,rfl,ho.mono hk.size,hk.on hb1⟩
theorem aG.zeros(w:Wd)(cs:Array Value)(cap B:Nat)(hB:B<=w.heap.size)(hc:cap<=maxLen)(hs:cs.size=cap*3):aG (w.alloc (.cells cs 128)) B (.slice (cw w 0) 0 cap) []:=by
 exact⟨rfl,.inr ⟨w.heap.size,cap,cs,rfl,hB,heap_alloc_new w _,Yf _,hc,hs,by simp[bI]⟩⟩
theorem YL(n:Nat)(w:Wd)(hn:n<=10000000):
  ep 285 #[sn,n] w λe w'=>∃v,e= .returned v/\aG w' w v []/\Below w w w':=by
 obtain⟨i0,hi,hz0,hz1,hz2⟩:=info_parts kK;by_cases h0:n=0
 ·subst h0;go_enter func285,ntmps285;go_wp2_with fail;go_ret;exact⟨_,rfl,aG.nil _ _,bR⟩
 ·have hn1:1<=n:=oM
  have hold:(Builtin.firstCells i0.size 0 sn).run prog w.drew= .ok (([]:List Value).toArray) w.drew:=run_firstCells_none w.drew i0.size 0 0 0;have hrz:∀ty,(Builtin.append_ #[52,3] ty #[.slice none 0 0,.int .i64 n]).run prog w=_:=λty=>
   Lib.run_append_grow_zeros w 52 3 ty 128 i0 (.agg #[oo,oo,oo]) .i64 .i64 underlying52 underlying3 hi hz0 none 0 0 [] hold n oM oM oM oM (by rw[hz2];omega)
    (by rw[Nat.zero_add];exact growslice_fits oM (by rw[hz2];omega))
  simp only[Nat.zero_add]at hrz;have hGn:n<=grownCap w n 0 128:=grownCap_ge w _ _ _;have hG63:=grownCap_le_maxLen w n 0 128 (by unfold maxLen;omega);have HSZ:Hid ((([]:List Value).toArray++Builtin.zeroCells (Value.agg #[oo,oo,oo]).cells n++Builtin.zeroCells (Value.agg #[oo,oo,oo]).cells (grownCap w n 0 128-n)).size=grownCap w n 0 128*3):=hD (by
   simp[Builtin.zeroCells,Value.cells]
   omega)
  generalize grownCap w n 0 128=G at *;generalize ([]:List Value).toArray++Builtin.zeroCells (Value.agg #[oo,oo,oo]).cells n++Builtin.zeroCells (Value.agg #[oo,oo,oo]).cells (G-n)=cs at *;have HRZ:=hD hrz;have HM:=hD hG63;clear hrz hold hG63 h0;go_enter func285,ntmps285
  go_wp2_with (at_builtin;refine Lib.wpList_append_run _ rfl _ _ _ _ rfl _ _ rfl rfl _ _ (HRZ.o _) ?_)
  go_ret;exact⟨_,rfl,aG.zeros w.drew cs G _ (Ye _) HM.o HSZ.o,bR.drew.aIw _⟩
theorem QE(A L:List E)(a al:OA)(c cl q:Nat)(w:Wd)(hc0:w (cw q 0)=some (.slice a A c))(hc1:w (cw q 1)=some (.slice al L cl))(hrA:Rd w a A)(hrL:Rd w al L)(hA:A.length<=1000000)(hL:L.length<=1000000):
  ep 254 #[.slice (cw q 0) 2 2] w λe w'=>∃v,e= .returned v/\aG w' w v (A++L)/\Below w w w':=by
 obtain⟨i0,hi,hz0,hz1,hz2⟩:=info_parts kK;have HRA:=hD hrA;have HRL:=hD hrL;clear hrA hrL;go_enter func254,ntmps254;go_wp2_with fail;go_loopw [3,5,11] (λv _ i wr=>((i= .int .i64 0/\v= .int .i64 0)∨(i= .int .i64 1/\v= .int .i64 A.length)∨(i= .int .i64 2/\v= .int .i64 (A.length+L.length:Nat)))/\w=wr) (λ_ _ i _=>2-(intOf i).toNat)
 case atStart=>exact⟨.inl ⟨rfl,rfl⟩,rfl⟩
 case round=>
  obtain⟨⟨rfl,rfl⟩|⟨rfl,rfl⟩|⟨rfl,rfl⟩,rfl⟩:=hrel
  ·go_wp2_with fail;go_roundw
   case rel=>exact⟨.inr (.inl ⟨by first|rfl|trivial,by go_num⟩),by first|rfl|trivial⟩
   case measure=>simp[intOf]
  ·go_wp2_with fail;go_roundw
   case rel=>exact⟨.inr (.inr ⟨by first|rfl|trivial,by go_num⟩),by first|rfl|trivial⟩
   case measure=>simp[intOf]
  ·go_wp2_with fail;refine(YL (A.length+L.length) w oM).m ?_;rintro e w1 ⟨v1,rfl,ho1,hb1⟩;have HO:=hD ho1;have HB:=hD hb1;clear ho1 hb1;go_wp2_with fail;go_loopw [6,8,27] (λv _ i wr=>((i= .int .i64 0/\aG wr w v [])∨(i= .int .i64 1/\aG wr w v A)∨(i= .int .i64 2/\aG wr w v (A++L)))/\Below w w wr) (λ_ _ i _=>2-(intOf i).toNat)
   case atStart=>exact⟨.inl ⟨rfl,HO.o⟩,HB.o⟩
   case round=>
    obtain⟨⟨rfl,ho⟩|⟨rfl,ho⟩|⟨rfl,ho⟩,hB⟩:=hrel
    ·have hq0:=hB.keep hc0;have HQ:=hD ho;have HS:=hD (HRA.o.keep hB).source;have hsz:=hB.size;have hA0:([]:List E).length+A.length=A.length:=by simp
     clear ho
     go_wp2_with (at_builtin;refine dB _ rfl _ _ 52 rfl w.heap.size 128 i0 (.agg #[oo,oo,oo]) 3 24 underlying52 hi hz0 hz1 hz2 rfl dE _ _ _ rfl HQ.o _ _ _ _ rfl HS.o sh98 sh99 aEy ?_;intro v1 w1 hown1 hgrow1 hwhere1)
     have HO6:=hD (aG.append hown1 rfl);have HB6:=hD (hB.aJa hgrow1 (λj hj=>(HQ.o.lt j hj).1));clear hown1 hgrow1 hwhere1 hA0;go_roundw
     case rel=>exact⟨.inr (.inl ⟨rfl,HO6.o⟩),HB6.o⟩
     case measure=>simp[intOf]
    ·have hq1:=hB.keep hc1;have HQ:=hD ho;have HS:=hD (HRL.o.keep hB).source;have hsz:=hB.size;clear ho
     go_wp2_with (at_builtin;refine dB _ rfl _ _ 52 rfl w.heap.size 128 i0 (.agg #[oo,oo,oo]) 3 24 underlying52 hi hz0 hz1 hz2 rfl dE _ _ _ rfl HQ.o _ _ _ _ rfl HS.o sh98 sh99 aEy ?_;intro v1 w1 hown1 hgrow1 hwhere1)
     have HO6:=hD (aG.append hown1 rfl);have HB6:=hD (hB.aJa hgrow1 (λj hj=>(HQ.o.lt j hj).1));clear hown1 hgrow1 hwhere1;go_roundw
     case rel=>exact⟨.inr (.inr ⟨rfl,HO6.o⟩),HB6.o⟩
     case measure=>simp[intOf]
    ·have HQ:=hD ho;clear ho;go_wp2_with fail;go_ret;exact⟨_,rfl,HQ.o,hB⟩
theorem PK(N:Nat)(R l:List E)(a al:OA)(c cl:Nat)(w:Wd)(hN:N<=65536)(hr:Rd w al l)(hw:wfL l)(hl:l.length<=1000000)(hp:(aQ N l&&vZ l)=false):
  ep 210 #[.agg #[N,.slice a R c],.slice al l cl] w (RB w (.tuple #[.agg #[oo,sn],ow])):=by
 have HS0:=hD (wV.start w N a R.length c 242);have HR0:=hD (hr.keep (((bQ w).aIw (cq #[N,.slice a R c] 242)).aIw (cq #[oo,sn] 242)));cases h:aQ N l
 ·have HP:=hD h;clear hp h hr;go_enter func210,ntmps210;go_wp2_with fail;refine(Np N l a al _ c cl _ hN HR0.o hw HP.o).m ?_;rintro e w1 ⟨rfl,hb1⟩;exact aFw
 ·rw[h]at hp;have HP:=hD h;have HO:Hid (vZ l=false):=hD (by simpa using hp);clear hp h hr;go_enter func210,ntmps210;go_wp2_with fail;refine(xV N l a al _ c cl _ hN HR0.o hw HP.o hl).m ?_;rintro e w1 ⟨v1,rfl,_,hb1⟩;rw[HO.o];exact aFw
def ZY(N:Nat)(R L:List E)(w:Wd)(e:Ending)(w':Wd):Prop:=
 Below w w w'/\((aR (bW (R++L))=aR R+aR L/\ ∃v,e= .returned (.tuple #[.agg #[N,v],oo])/\ ∃a' c',v= .slice a' (bW (R++L)).length c'/\aG w' w v (bW (R++L)))∨
  (aR (bW (R++L))≠aR R+aR L/\e= .returned (.tuple #[.agg #[oo,sn],.int .i64 8])))
theorem YN(N:Nat)(R l:List E)(a al:OA)(c cl:Nat)(w:Wd)(hN:N<=65536)(hrR:Rd w a R)(hc:Canon R)(hr:Rd w al l)(hw:wfL l)(hl:l.length<=1000000)(hp:aQ N l=true)(ho:vZ l=true):
  ep 210 #[.agg #[N,.slice a R c],.slice al l cl] w (ZY N R (bW (eB l)) w):=by
 have HS0:=hD (wV.start w N a R.length c 242);have hk:=((bQ w).aIw (cq #[N,.slice a R c] 242)).aIw (cq #[oo,sn] 242);have HR0:=hD (hr.keep hk);have HRR:=hD (hrR.keep hk);have HP:=hD hp;have HO:=hD ho;have hLc:=(dX (eB l)).1;have hLs:=bE hLc;have hWc:=(dX (R++bW (eB l))).1;have hWs:=bE hWc;have hRs:=bE hc;have HWF:Hid (wfL (R++bW (eB l))):=hD (iM λx hx=>by
  rcases Qn.1 hx with h|h
  ·exact(hc.1 x h).2
  ·exact(hLc.1 x h).2)
 have HM:∀L:List E,Canon L-> ∀x∈L,0<=x.n/\x.n<=65536:=λL hL x hx=>by
  have:=(aB x).1 (hL.1 x hx).2;omega
 have HM1:=hD (HM _ hLc);have HM2:=hD (HM _ hWc);have HM3:=hD (HM _ hc);obtain⟨q1,q2⟩:=qN _ 65536 HM1.o;obtain⟨q3,q4⟩:=qN _ 65536 HM2.o;obtain⟨q5,q6⟩:=qN _ 65536 HM3.o;clear hp ho hr hrR hk hLc hWc HM hc;generalize hLL:bW (eB l)=L at *;have HLL:=hD hLL;clear hLL;go_enter func210,ntmps210;go_wp2_with fail;have hcon:=xV N l a al R.length c cl _ hN HR0.o hw HP.o hl;rw[HO.o,HLL.o]at hcon;refine hcon.m ?_;rintro e w1 ⟨v1,rfl,ho1,hb1⟩;obtain⟨a1,c1,rfl,hr1⟩:=ho1.rd oM;have HS:=hD (HS0.o.aIx hb1);have HRR1:=hD (HRR.o.keep hb1);have HR1:=hD hr1;have HSZ:=hD hb1.size;clear hb1 HS0 HRR ho1 hr1 hcon HR0;have b1:=HS.o.b1;go_wp2_with fail;refine(QE R L a a1 c c1 w1 _ sM sM (HRR1.o.keep (bR.aIw _)) (HR1.o.keep (bR.aIw _)) oM oM).m ?_;rintro e w2 ⟨v2,rfl,ho2,hb2⟩;obtain⟨a2,c2,rfl,hr2⟩:=ho2.rd pO;have hbb:=((bQ w1).aIw (cq #[.slice a R c,.slice a1 L.length c1] 52)).on hb2;have HS:=hD (HS.o.aIx hbb);have HRR2:=hD (HRR1.o.keep hbb);have HR2:=hD (HR1.o.keep hbb);have HRC:=hD hr2;have HSZ2:=hD (Nat.le_trans HSZ.o hbb.size);clear hb2 hbb ho2 hr2 HRR1 HR1 b1 HSZ;go_wp2_with fail;have hcon:=Ac (R++L) a2 c2 _ HRC.o HWF.o pO;rw[Qg]at hcon;refine hcon.m ?_;clear hcon;rintro e w3 ⟨v3,rfl,ho3,hb3⟩;have HS:=hD (HS.o.aIx hb3);have HRR2:=hD (HRR2.o.keep hb3);have HR2:=hD (HR2.o.keep hb3);generalize hWW:bW (R++L)=W at *;have HWW:=hD hWW;obtain⟨a3,c3,rfl,hr3⟩:=ho3.rd oM;have HW3:=hD hr3;have HO3:=hD (ho3.mono (B':=w.heap.size+2) (by have:=HSZ2.o;simp at this;omega));clear hb3 ho3 hr3 hWW HRC HSZ2;have b1:=HS.o.b1;have b0:=HS.o.b0;generalize hl1:aR W=z1 at *;generalize hl2:aR L=z2 at *;generalize hl3:aR R=z3 at *;have H1:=hD hl1;have H2:=hD hl2;have H3:=hD hl3;have q7:IntKind.i64.wrap (z3+z2)=z3+z2:=IntWalk.i64_in _ oM;clear hl1 hl2 hl3;by_cases hz:z1=z3+z2
 ·have d1:(z1 != z3+z2)=false:=by simp[hz]
  have d2:(z1==z3+z2)=true:=by simp[hz]
  have HZ:=hD hz;clear hz;go_wp2_with fail;refine wpr ?_
  repeat(go_big_quiet_step (first|(go_at_call_of 251 (Value.slice a3 W c3);exact Calls.aJb (jF W z1 a3 c3 _ H1.o (HW3.o.keep (World.aIy _ _)) HM2.o oM))|(go_at_call_of 251 (Value.slice a1 L.length c1);exact Calls.aJb (jF L z2 a1 c1 _ H2.o (HR2.o.keep (World.aIy _ _)) HM1.o oM))|(go_at_call_of 251 (Value.slice a R c);exact Calls.aJb (jF R z3 a c _ H3.o (HRR2.o.keep (World.aIy _ _)) HM3.o oM))))
  refine wqn λnq=> ?_;have HB:=hD (HS.o.aIx (World.aIy w3 nq));have HO4:=hD (HO3.o.keep (World.aIy w3 nq));clear HS b0 b1;generalize w3.next nq=w4 at *;have HS:=HB;have r0:=HS.o.r0;have r1:=HS.o.r1;have f0:=HS.o.f0;have f1:=HS.o.f1;have b0:=HS.o.b0;have b1:=HS.o.b1;go_wp2_with fail;refine Yg (v:= .tuple #[.agg #[N,.slice a3 W c3],oo]) ?_ rfl ⟨?_,.inl ⟨by rw[HWW.o,H1.o,H2.o,H3.o];exact HZ.o,_,rfl,a3,c3,by rw[HWW.o],?_⟩⟩
  ·simp[results,results210,go_sem,r0,r1,f0,f1]
  ·exact(HS.o.B.setCell sM _).setCell sM _
  ·rw[HWW.o];have hne:(Value.slice a3 W c3).ownBlock≠some (w.heap.size+1):=λe=>by have:=(HO4.o.lt _ e).1;omega
   exact((HO4.o.away (cw (cf w) 0) _ hne).away (cw (cf w) 1) _ hne).mono oM
 ·have d1:(z1 != z3+z2)=true:=by simp[hz]
  have d2:(z1==z3+z2)=false:=by simp[hz]
  have HZ:=hD hz;clear hz;go_wp2_with fail;refine wpr ?_
  repeat(go_big_quiet_step (first|(go_at_call_of 251 (Value.slice a3 W c3);exact Calls.aJb (jF W z1 a3 c3 _ H1.o (HW3.o.keep (World.aIy _ _)) HM2.o oM))|(go_at_call_of 251 (Value.slice a1 L.length c1);exact Calls.aJb (jF L z2 a1 c1 _ H2.o (HR2.o.keep (World.aIy _ _)) HM1.o oM))|(go_at_call_of 251 (Value.slice a R c);exact Calls.aJb (jF R z3 a c _ H3.o (HRR2.o.keep (World.aIy _ _)) HM3.o oM))))
  refine wqn λnq=> ?_;have HB:=hD (HS.o.aIx (World.aIy w3 nq));clear HS b0 b1;generalize w3.next nq=w4 at *;have HS:=HB;have r0:=HS.o.r0;have r1:=HS.o.r1;have f0:=HS.o.f0;have f1:=HS.o.f1;have b0:=HS.o.b0;have b1:=HS.o.b1;go_wp2_with fail;refine Yg (v:= .tuple #[.agg #[oo,sn],.int .i64 8]) ?_ rfl ⟨?_,.inr ⟨by rw[HWW.o,H1.o,H2.o,H3.o];exact HZ.o,rfl⟩⟩
  ·simp[results,results210,go_sem,r0,r1,f0,f1]
  ·exact(HS.o.B.setCell sM _).setCell sM _
theorem Vq(M:List Bool)(l:List E)(a al:OA)(c cl:Nat)(w:Wd)(hN:M.length<=65536)(hrR:Rd w a (aT M))(hr:Rd w al l)(hw:wfL l)(hl:l.length<=1000000):
  ep 210 #[.agg #[M.length,.slice a (aT M).length c],.slice al l cl] w (aDa M l false a w):=by
 cases hb:mQ M.length l
 ·exact(PK M.length (aT M) l a al c cl w hN hr hw hl hb).mono λe w' h=>⟨h.2,.inl ⟨hb,h.1⟩⟩
 ·obtain⟨hp,ho,_⟩:=vU hN hb;refine(YN M.length (aT M) l a al c cl w hN hrR (cZ M) hr hw hl hp ho).mono λe w' h=> ?_;obtain⟨h1,⟨h2,v,h3,a',c',rfl,h4⟩|⟨h2,h3⟩⟩:=h
  ·rw[aBm hN hp]at h4 h3;have hs:=bE (cZ (yA M l false));exact⟨h1,.inr (.inr ⟨hb,(Ij hN hp).1 h2,_,h3,a',c',rfl,h4.rd' oM,.inr (.inr λb o e=>(h4.lt b (by rw[e];rfl)).1)⟩)⟩
  ·exact⟨h1,.inr (.inl ⟨hb,λhc=>h2 ((Ij hN hp).2 hc),h3⟩)⟩
theorem oN{R:List E}(h:Canon R):∀x∈R,okB x=true:=λx hx=>(h.1 x hx).2
theorem ZB{R:List E}(h:Canon R):∀x∈R,0<=x.n/\x.n<=65536:=λx hx=>by
 have:=(aB x).1 (h.1 x hx).2;omega
theorem Vk(N:Int)(R:List E)(n h:Int)(a:OA)(c:Nat)(w:Wd)(hr:Rd w a R)(hC:Canon R)(hh:0<=h/\h<=65536)(hf:oK (dN R h) n=none):
  ep 212 #[.agg #[N,.slice a R c],n,h] w (RB w (.tuple #[sn,false])):=by
 have HCF:=hD (iQ R h hC);have HCB:=hD (kP R h hC);have hs:=bE hC;have hsF:=bE HCF.o;have hsB:=bE HCB.o;have hk:=(bQ w).aIw (cq #[N,.slice a R c] 242);have HR:=hD (hr.keep hk);have HO:=hD (oN hC);clear hr hC;have HF:=hD hf;clear hf;go_enter func212,ntmps212;go_wp2_with fail;refine(wO R h a c _ HR.o HO.o oM hh).m ?_;rintro e w1 ⟨v,m,rfl,ho,_,_,hb1⟩;obtain⟨a1,c1,rfl,hr1⟩:=ho.rd oM;have hB1:=hk.on hb1;clear ho hb1;go_wp2_with fail;refine(YX _ n a1 c1 _ hr1 HF.o).m ?_;rintro e w2 ⟨rfl,hb2⟩;have hB2:=hB1.on hb2;clear hb2 hr1;go_wp2_with fail;go_ret2;exact⟨rfl,hB2⟩
theorem QY(N:Int)(R:List E)(n h s:Int)(a:OA)(c:Nat)(w:Wd)(hr:Rd w a R)(hC:Canon R)(hn:1<=n/\n<=65536)(hh:0<=h/\h<=65536)(hf:oK (dN R h) n=some s):
  ep 212 #[.agg #[N,.slice a R c],n,h] w λe w'=>∃v,e= .returned (.tuple #[v,true])/\aG w' w v [⟨0,n,s⟩]/\Below w w w':=by
 have HCF:=hD (iQ R h hC);have HCB:=hD (kP R h hC);have hs:=bE hC;have hsF:=bE HCF.o;have hsB:=bE HCB.o;have hk:=(bQ w).aIw (cq #[N,.slice a R c] 242);have HR:=hD (hr.keep hk);have HO:=hD (oN hC);clear hr hC;have HF:=hD hf;clear hf;go_enter func212,ntmps212;go_wp2_with fail;refine(wO R h a c _ HR.o HO.o oM hh).m ?_;rintro e w1 ⟨v,m,rfl,ho,_,_,hb1⟩;obtain⟨a1,c1,rfl,hr1⟩:=ho.rd oM;have hB1:=hk.on hb1;clear ho hb1;go_wp2_with fail;refine(RZ _ n s a1 c1 _ hr1 (oN HCF.o) hn HF.o).m ?_;rintro e w2 ⟨v2,rfl,ho2,hb2⟩;have HO2:=hD (ho2.mono hB1.size);have hB2:=hB1.on hb2;clear hb2 hr1 ho2;go_wp2_with fail;go_ret2;exact⟨_,rfl,HO2.o,hB2⟩
theorem Nq(N:Int)(R:List E)(n h:Int)(a:OA)(c:Nat)(w:Wd)(hr:Rd w a R)(hf:oK R n=none):
  ep 213 #[.agg #[N,.slice a R c],n,h] w (RB w (.tuple #[sn,false])):=by
 have hk:=(bQ w).aIw (cq #[N,.slice a R c] 242);have HR:=hD (hr.keep hk);have HF:=hD hf;clear hf hr;go_enter func213,ntmps213;go_wp2_with fail;refine(YX _ n a c _ HR.o HF.o).m ?_;rintro e w2 ⟨rfl,hb2⟩;have hB2:=hk.on hb2;clear hb2;go_wp2_with fail;go_ret2;exact⟨rfl,hB2⟩
theorem JS(N:Int)(R:List E)(n h s:Int)(a:OA)(c:Nat)(w:Wd)(hr:Rd w a R)(hC:Canon R)(hn:1<=n/\n<=65536)(hf:oK R n=some s):
  ep 213 #[.agg #[N,.slice a R c],n,h] w λe w'=>∃v,e= .returned (.tuple #[v,true])/\aG w' w v [⟨0,n,s⟩]/\Below w w w':=by
 have hk:=(bQ w).aIw (cq #[N,.slice a R c] 242);have HR:=hD (hr.keep hk);have HF:=hD hf;have HO:=hD (oN hC);clear hf hr hC;go_enter func213,ntmps213;go_wp2_with fail;refine(RZ _ n s a c _ HR.o HO.o hn HF.o).m ?_;rintro e w2 ⟨v2,rfl,ho2,hb2⟩;have HO2:=hD (ho2.mono hk.size);have hB2:=hk.on hb2;clear hb2 ho2;go_wp2_with fail;go_ret2;exact⟨_,rfl,HO2.o,hB2⟩
def Jf(R:List E)(n h:Int):List E:=(cO (dN R h) n).1++(cO (beforeL R h) (n-min n (aR (dN R h)))).1
theorem RP(l:List E)(n:Int)(hn:0<=n)(h:Canon l):(cO l n).1.length<=65536:=by
 have h1:=(Hy l n hn (λx hx=>((aB x).1 (h.1 x hx).2).1) l.length (Ye _)).2;rw[List.take_length]at h1;have:=bE h;omega
theorem OH(N:Int)(R:List E)(n h:Int)(a:OA)(c:Nat)(w:Wd)(hr:Rd w a R)(hC:Canon R)(hn:0<=n/\n<=65536)(hh:0<=h/\h<=65536):
  ep 214 #[.agg #[N,.slice a R c],n,h] w λe w'=>∃v,e= .returned (.tuple #[v,true])/\aG w' w v (Jf R n h)/\Below w w w':=by
 obtain ⟨i0,hi,hz0,hz1,hz2⟩:=info_parts kK;have HCF:=hD (iQ R h hC);have HCB:=hD (kP R h hC);have hs:=bE hC;have hsF:=bE HCF.o;have hsB:=bE HCB.o;have hk:=(bQ w).aIw (cq #[N,.slice a R c] 242);have HR:=hD (hr.keep hk);have HO:=hD (oN hC);clear hr hC;obtain⟨n0,n1⟩:=hn;obtain⟨z0,_⟩:=yY _ (oN HCF.o);have HZ0:Hid (0<=n-min n (aR (dN R h))/\n-min n (aR (dN R h))<=65536):=hD oM;have hl1:=RP _ n n0 HCF.o;have hl2:=RP _ (n-min n (aR (dN R h))) oM HCB.o;have HP:Hid (Jf R n h=(cO (dN R h) n).1++(cO (beforeL R h) (n-min n (aR (dN R h)))).1):=hD rfl;have hzb:=wD HCF.o;have hzm:aR (dN R h)<=65536:=by
  rw[fD _ HCF.o];have:=iX (hasB (dN R h)) 65536;omega
 generalize hF:dN R h=F at *;generalize hB:beforeL R h=B at *;have HF:=hD hF;have HB:=hD hB;clear hF hB;go_enter func214,ntmps214;go_wp2_with fail;have hcon:=wO R h a c _ HR.o HO.o oM hh;rw[HF.o,HB.o]at hcon;refine hcon.m ?_;rintro e w1 ⟨v,m,rfl,ho,hm,_,hb1⟩;obtain⟨a1,c1,rfl,hr1⟩:=ho.rd oM;obtain⟨a2,c2,rfl,hr2⟩:=hm.rd oM;have hB1:=hk.on hb1;have HR1:=hD hr1;have HR2:=hD hr2;clear ho hb1 hm hcon hr1 hr2;go_wp2_with fail;refine(Ew F n a1 c1 _ HR1.o (oN HCF.o) oM ⟨n0,n1⟩).m ?_;rintro e w2 ⟨v2,rfl,ho2,hb2⟩;have HR1:=hD (HR1.o.keep hb2);have HR2:=hD (HR2.o.keep hb2);have HO2:=hD (ho2.mono hB1.size);have hB2:=hB1.on hb2;clear ho2 hb2;go_wp2_with fail;refine(tJ F a1 c1 _ HR1.o (ZB HCF.o) oM).m ?_;rintro e w3 ⟨rfl,hb3⟩;have HR2:=hD (HR2.o.keep hb3);have HO3:=hD (HO2.o.keep hb3);have hB3:=hB2.on hb3;clear hb3;generalize hz:aR F=z at *;have HZ:=hD hz;clear hz;have q1:IntKind.i64.wrap (n-min n z)=n-min n z:=IntWalk.i64_in _ oM;go_wp2_with fail;refine(Ew B (n-min n z) a2 c2 _ HR2.o (oN HCB.o) oM HZ0.o).m ?_;rintro e w4 ⟨v4,rfl,ho4,hb4⟩;have hlb:=hl2;generalize hL2:(cO B (n-min n z)).1=L2 at *;have HL2:=hD hL2;obtain⟨a4,c4,rfl,hr4⟩:=ho4.rd oM;have HS:=hD hr4.source;have HO4:=hD (HO3.o.keep hb4);have hB4:=hB3.on hb4;have hsz4:=hB4.size;generalize hL1:(cO F n).1=L1 at *;have HL1:=hD hL1;clear hb4 ho4 hr4 hL2 hL1 q1
 go_wp2_with (at_builtin;refine dB _ rfl _ _ 52 rfl w.heap.size 128 i0 (.agg #[oo,oo,oo]) 3 24 underlying52 hi hz0 hz1 hz2 rfl dE _ _ _ rfl HO4.o _ _ _ _ rfl HS.o sh98 sh99 aEy ?_;intro v1 w1 hown1 hgrow1 hwhere1)
 have HB6:=hD (hB4.aJa hgrow1 (λj hj=>(HO4.o.lt j hj).1));have HO6:=hD (aG.append hown1 rfl);clear hown1 hgrow1 hwhere1;go_wp2_with fail;go_ret2;exact⟨_,rfl,by rw[HP.o];exact HO6.o,HB6.o⟩
theorem Nr(N:Int)(R:List E)(z:Int)(a:OA)(c:Nat)(w:Wd)(hz:aR R=z)(hr:Rd w a R)(hc:Canon R):
  ep 211 #[.agg #[N,.slice a R c]] w (RB w z):=by
 subst hz;exact Vr N R a c w hr hc
theorem Ra(N:Nat)(R:List E)(h:Int)(a:OA)(c:Nat)(w:Wd)(hN:N<=65536)(hr:Rd w a R)(hC:Canon R)(hok:aHl N 0 h=true):
  ep 157 #[.agg #[N,.slice a R c],oo,h] w (RB w (.tuple #[sn,.agg #[N,.slice a R c],oo])):=by
 obtain⟨h1,h2,h3⟩:=(Nj _ _ _).1 hok;have HS:=hD (wV.start w N a R.length c 242);have hk:=((bQ w).aIw (cq #[N,.slice a R c] 242)).aIw (cq #[oo,sn] 242);have HR:=hD (hr.keep hk);have HC:=hD hC;have hz0:=wD hC;clear hok hr hC hk;generalize hz:aR R=z at *;have HZ:=hD hz;clear hz;have b0:=HS.o.b0;have b1:=HS.o.b1;go_enter func157,ntmps157;go_wp2_with fail;refine(Nr N R z a c _ HZ.o HR.o HC.o).m ?_;rintro e w2 ⟨rfl,hb2⟩;have HS:=hD (HS.o.aIx hb2);clear hb2 b0 b1;have r0:=HS.o.r0;have r1:=HS.o.r1;have f0:=HS.o.f0;have f1:=HS.o.f1;have b0:=HS.o.b0;have b1:=HS.o.b1;go_wp2_with fail
 go_region
 all_goals
  go_wp2_with fail;refine Yg (v:= .tuple #[sn,.agg #[N,.slice a R c],oo]) ?_ rfl ⟨rfl,?_⟩
  ·simp[results,results157,go_sem,r0,r1,f0,f1]
  ·exact(HS.o.B.drew.setCell sM _).setCell sM _
theorem Ld(M:List Bool)(n h:Nat):Jf (aT M) n h=xC M n h:=rfl
def aFo(M:List Bool)(n h:Nat)(a:OA)(w:Wd)(e:Ending)(w':Wd):Prop:=
 ∃v1 v2,e= .returned (.tuple #[v1,.agg #[M.length,v2],oo])/\aG w' w v1 (iH M n h)/\JW w w' a (aT M) (aT (yA M (iH M n h) true)) v2/\Below w w w'
def aIu(M:List Bool)(n h:Nat)(w2:Wd)(v:Value)(wr:Wd):Prop:=
 (v= .int .i64 0∨(v=ol/\oK (dN (aT M) h) n=none)∨(v=ow/\oK (dN (aT M) h) n=none/\oK (aT M) n=none))/\Below w2 w2 wr
theorem VD{M:List Bool}{n h:Nat}{a a3 a4:OA}{c3 c4:Nat}{w w4:Wd}{R4:List E}{t:TypeId}(hR:aT (yA M (iH M n h) true)=R4)(hB:Below w w w4)(ho:aG w4 (w.heap.size+2) (.slice a3 (iH M n h).length c3) (iH M n h))
  (hr:Rd w4 a4 R4) (hA:aCw (R4=[]) a4 (cf w)) (hF:De (aT M=[]) (R4=[]) w a a4):
  aFo M n h a w (Ending.returned (Value.tuple #[.slice a3 (iH M n h).length c3,.agg #[M.length,.slice a4 R4 c4],oo]))
   (((w4.alloc (cq #[M.length,.slice a4 R4 c4] t)).setCell (cw (cf w) 0) M.length).setCell (cw (cf w) 1) (.slice a4 R4 c4)).drew:=by
 subst hR;have hk:=(bQ w4).aIw (cq #[M.length,.slice a4 (aT (yA M (iH M n h) true)).length c4] t);have hne:(Value.slice a3 (iH M n h).length c3).ownBlock≠some (w.heap.size+1):=λe=>by have:=(ho.lt _ e).1;omega
 refine⟨_,_,rfl,?_,⟨a4,c4,rfl,?_,hF⟩,?_⟩
 ·exact((((ho.keep hk).away (cw (cf w) 0) _ hne).away (cw (cf w) 1) _ hne).keep bR.drew).mono oM
 ·exact(((hr.keep hk).cell_ne (cf w) 0 _ hA).cell_ne (cf w) 1 _ hA).keep bR.drew
 ·exact(((hB.aIw _).setCell sM _).setCell sM _).drew
theorem Vm(M:List Bool)(n h:Nat)(a:OA)(c:Nat)(w:Wd)(hr:Rd w a (aT M))(hN:M.length<=65536)(hh:h<=M.length)(hn:1<=n)(hf:n<=aK (dA M) M.length):
  ep 157 #[.agg #[M.length,.slice a (aT M).length c],n,h] w (aFo M n h a w):=by
 have hn':n<=65536:=by have:=iX (dA M) M.length;omega
 have HS:=hD (wV.start w M.length a (aT M).length c 242);have hk:=((bQ w).aIw (cq #[M.length,.slice a (aT M).length c] 242)).aIw (cq #[oo,sn] 242);have HR:=hD (hr.keep hk);have HC:=hD (cZ M);have HNA:=hD hr.lt;have HT:=hD (rZ hN (n:=n) (h:=h) hf);have HTB:=hD (λs=>zV M n h s hn);have HTA:=hD (λs=>Gw M n h s hn);have HTP:=hD (zU M n h hn);have HZ:=hD (BR M hN);obtain⟨hw,hlen⟩:=Ea hN (n:=n) (h:=h) hf;have HW:=hD hw;have d0:((n:Int)==0)=false:=by simp;omega
 have i0:∀w,(Instr.index 293 (.agg #[.func (.func 212) #[] #[],.func (.func 213) #[] #[],.func (.func 214) #[] #[]]) oo).run prog w= .ok (.func (.func 212) #[] #[]) w:=λ_=>by kernel_rfl
 have i1:∀w,(Instr.index 293 (.agg #[.func (.func 212) #[] #[],.func (.func 213) #[] #[],.func (.func 214) #[] #[]]) ol).run prog w= .ok (.func (.func 213) #[] #[]) w:=λ_=>by kernel_rfl
 have i2:∀w,(Instr.index 293 (.agg #[.func (.func 212) #[] #[],.func (.func 213) #[] #[],.func (.func 214) #[] #[]]) ow).run prog w= .ok (.func (.func 214) #[] #[]) w:=λ_=>by kernel_rfl
 clear hr hk hw;generalize hz:aK (dA M) M.length=z at *;have HZZ:=hD hz;clear hz;have b0:=HS.o.b0;have b1:=HS.o.b1;have e1:decide (z<n)=false:=Qp oM;have e2:decide ((n:Int)<0)=false:=Qp oM;have e3:decide ((h:Int)<0)=false:=Qp oM;go_enter func157,ntmps157;go_wp2_with fail;refine(Nr M.length (aT M) z a c _ HZ.o HR.o HC.o).m ?_;rintro e w2 ⟨rfl,hb2⟩;have HS:=hD (HS.o.aIx hb2);have HR:=hD (HR.o.keep hb2);clear hb2 b0 b1;have r0:=HS.o.r0;have r1:=HS.o.r1;have f0:=HS.o.f0;have f1:=HS.o.f1;have b0:=HS.o.b0;have b1:=HS.o.b1;go_wp2_with fail;have HAW:Hid (aCw (aT M=[]) a (w.heap.size+1)):=hD (by
  rcases HNA.o with h1|h1
  ·exact .inl h1
  ·exact .inr λb o e=>by have:=h1 b o e;omega)
 have HR2:=HR;have HS2:=HS;clear HR HS r0 r1 f0 f1 b0 b1;go_loopw [40] (λi wr=>aIu M n h w2 i wr) (λi _=>2-(intOf i).toNat)
 case atStart=>exact⟨.inl rfl,bR⟩
 case round=>
  obtain⟨rfl|⟨rfl,hf⟩|⟨rfl,hf,hg⟩,hB⟩:=hrel
  ·have HS:=hD (HS2.o.aIx hB);have HR:=hD (HR2.o.keep hB);have r0:=HS.o.r0;have r1:=HS.o.r1;have f0:=HS.o.f0;have f1:=HS.o.f1;have b0:=HS.o.b0;have b1:=HS.o.b1
   cases hf:oK (dN (aT M) h) n with
   | none=>
    have HF:=hD hf;clear hf;go_wp2_with fail;refine(Vk M.length (aT M) n h a c _ HR.o HC.o oM HF.o).m ?_;rintro e w3 ⟨rfl,hb3⟩;have hB3:=hB.on hb3;clear hb3;go_wp2_with fail;go_roundw
    case rel=>exact⟨.inr (.inl ⟨rfl,HF.o⟩),hB3⟩
    case measure=>simp[intOf]
   | some s=>
    have HF:=hD hf;have HTT:=hD (HTB.o s hf);clear hf;go_wp2_with fail;refine(QY M.length (aT M) n h s a c _ HR.o HC.o oM oM HF.o).m ?_;rintro e w3 ⟨v3,rfl,ho3,hb3⟩;rw[<-HTT.o]at ho3;obtain⟨a3,c3,rfl,_⟩:=ho3.rd oM;have HO3:=hD (ho3.mono (B':=w.heap.size+2) aEx);have HS3:=hD (HS.o.aIx hb3);have HR3:=hD (HR.o.keep hb3);clear hb3 ho3 r0 r1 f0 f1 b0 b1 HS HR HF HTT hB;exact sh93
  ·have HS:=hD (HS2.o.aIx hB);have HR:=hD (HR2.o.keep hB);have HF:=hD hf;clear hf;have r0:=HS.o.r0;have r1:=HS.o.r1;have f0:=HS.o.f0;have f1:=HS.o.f1;have b0:=HS.o.b0;have b1:=HS.o.b1
   cases hg:oK (aT M) n with
   | none=>
    have HG:=hD hg;clear hg;go_wp2_with fail;refine(Nq M.length (aT M) n h a c _ HR.o HG.o).m ?_;rintro e w3 ⟨rfl,hb3⟩;have hB3:=hB.on hb3;clear hb3;go_wp2_with fail;go_roundw
    case rel=>exact⟨.inr (.inr ⟨rfl,HF.o,HG.o⟩),hB3⟩
    case measure=>simp[intOf]
   | some s=>
    have HG:=hD hg;have HTT:=hD (HTA.o s HF.o hg);clear hg;go_wp2_with fail;refine(JS M.length (aT M) n h s a c _ HR.o HC.o oM HG.o).m ?_;rintro e w3 ⟨v3,rfl,ho3,hb3⟩;rw[<-HTT.o]at ho3;obtain⟨a3,c3,rfl,_⟩:=ho3.rd oM;have HO3:=hD (ho3.mono (B':=w.heap.size+2) aEx);have HS3:=hD (HS.o.aIx hb3);have HR3:=hD (HR.o.keep hb3);clear hb3 ho3 r0 r1 f0 f1 b0 b1 HS HR HF HG HTT hB;exact sh93
  ·have HS:=hD (HS2.o.aIx hB);have HR:=hD (HR2.o.keep hB);have HTT:=hD (HTP.o hf hg);clear hf hg;have r0:=HS.o.r0;have r1:=HS.o.r1;have f0:=HS.o.f0;have f1:=HS.o.f1;have b0:=HS.o.b0;have b1:=HS.o.b1;go_wp2_with fail;refine(OH M.length (aT M) n h a c _ HR.o HC.o oM oM).m ?_;rintro e w3 ⟨v3,rfl,ho3,hb3⟩;rw[Ld,<-HTT.o]at ho3;obtain⟨a3,c3,rfl,_⟩:=ho3.rd oM;have HO3:=hD (ho3.mono (B':=w.heap.size+2) aEx);have HS3:=hD (HS.o.aIx hb3);have HR3:=hD (HR.o.keep hb3);clear hb3 ho3 r0 r1 f0 f1 b0 b1 HS HR HTT hB;exact sh93
end Go.Proofs.YtphfgbbbejloaaaGreatDoor
