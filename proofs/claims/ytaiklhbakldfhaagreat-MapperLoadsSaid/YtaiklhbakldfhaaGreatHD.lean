/-
  package alloc: New, Slots, Free, Mark.
  package alloc: permitted.
  package alloc: Mark.
  Conditions: as each theorem says.
-/
import Derived.Test.YtaiklhbakldfhaaGreatHC
import Derived.Test.YtaiklhbakldfhaaGreatHX
import Derived.Test.YtaiklhbakldfhaaGreatGF
namespace Go.Proofs.YtaiklhbakldfhaaGreat
open Go.Lib (hid)
set_option linter.unusedSimpArgs false
set_option linter.unusedVariables false
set_option maxRecDepth 100000
set_option maxHeartbeats 16000000
open Go.RowKit
theorem bCu (N:Int) (R:List E) (a:Option Addr) (c:Nat) (w:World) (hr:Rd w a R) (hc:Canon R):
  Calls Tryz.prog 94 #[.agg #[.int .i64 N,.slice a R.length c]] w fun e w'=>e= .returned (.int .i64 (aT R))/\Below w.heap.size w w':=by
 have hs:=bE hc;have HM:Hid (∀x∈R,0<=x.n/\x.n<=65536):=hid fun x hx=>by
  have:=(aD x).1 (hc.1 x hx).2;omega
 go_enter Tryz.func94,Tryz.ntmps94;go_wp2_with fail;refine(tC R a c _ (hr.keep ((Below.refl _ _).bMq _)) HM.o (by omega)).mono ?_;rintro e w1 ⟨rfl,hb1⟩;go_wp2_with fail;go_ret;exact⟨rfl,((Below.refl _ _).bMq _).on hb1⟩
theorem bHm (n:Nat) (w:World) (h0:0<n) (hn:n<=65536):
  Calls Tryz.prog 90 #[.int .i64 n] w fun e w'=>∃ v,e= .returned (.tuple #[.agg #[.int .i64 n,v],.int .i64 0])/\aG w' w.heap.size v [⟨0,n,0⟩]/\Below w.heap.size w w':=by
 have d0:((n:Int)==0)=false:=by simp;omega
 go_enter Tryz.func90,Tryz.ntmps90;go_wp2;refine bodyPost_ret (v:= .tuple #[.agg #[.int .i64 n,.slice (some ⟨w.heap.size+1,0,none⟩) 1 1],.int .i64 0]) ?_ rfl ⟨_,rfl,?_,?_⟩
 ·simp[results,Tryz.results90,go_sem]
 ·have h:=aG.lit (w.alloc (.cells #[.int .i64 n,.slice (some ⟨w.heap.size+1,0,none⟩) 1 1] 111)) #[.int .i64 0,.int .i64 n,.int .i64 0] [⟨0,n,0⟩] rfl (by simp[maxLen]) w.heap.size (by simp)
  simpa using h
 ·(repeat(first|exact Below.refl _ _|assumption|refine Below.bMt ?_ _|refine Below.bMq ?_ _|refine Below.setCell ?_ (by simp) _|refine Below.drew ?_))
open Go.RowKit
def pI (l:List E) (k:Nat):List E:=dY (l.take k)++l.drop k
theorem aRm (l:List E):pI l 0=l:=by simp[pI,dY]
theorem aVy (l:List E):pI l l.length=dY l:=by simp[pI]
theorem aJc (l:List E) (k:Nat):(pI l k).length=l.length:=by simp[pI,dY];omega
theorem aVx (l:List E) (k:Nat) (h:k<l.length):(pI l k)[k]? =some l[k]:=by
 unfold pI dY;rw[List.getElem?_append_right (by simp;omega)];simp;rw[show k-min k l.length=0 by omega];simp
theorem aVw (l:List E) (k:Nat) (h:k<l.length):(pI l k).set k l[k].flat=pI l (k+1):=by
 unfold pI dY;rw[List.set_append_right _ _ (by simp;omega)];rw[List.take_succ_eq_append_getElem h,List.map_append,List.append_assoc];congr 1;rw[show k-(List.map E.flat (l.take k)).length=0 by simp;omega,List.drop_eq_getElem_cons h];rfl
theorem aWs (M:List E) (k:Nat) (x:E) (h:M[k]? =some x):(bH M).set (k*3) (.int .i64 0)=bH (M.set k x.flat):=by
 have hk:k<M.length:=(List.getElem?_eq_some_iff.1 h).1;have hx:M[k]=x:=(List.getElem?_eq_some_iff.1 h).2;have hl:(bH (M.take k)).length=k*3:=by rw[dD,List.length_take,Nat.min_eq_left (by omega)]
 have e1:M=M.take k++(x::M.drop (k+1)):=by
  rw[<-hx,<-List.drop_eq_getElem_cons hk,List.take_append_drop]
 have e2:M.set k x.flat=M.take k++(x.flat::M.drop (k+1)):=aJp M k hk _;rw[e2]
 conv=>lhs;rw[e1]
 rw[eH,eH,List.set_append_right _ _ (by rw[hl];omega),hl,Nat.sub_self];rfl
theorem aG.seta {w:World} {B g c n:Nat} {M:List E} (hn:n=M.length) (h:aG w B (.slice (some ⟨g,0,none⟩) n c) M) (k:Nat) (x:E) (hx:M[k]? =some x):
  aG (w.setCell ⟨g,k*3,none⟩ (.int .i64 0)) B (.slice (some ⟨g,0,none⟩) n c) (M.set k x.flat)/\w.grownBy (w.setCell ⟨g,k*3,none⟩ (.int .i64 0)) (some g):=by
 subst hn;obtain⟨s1,g1⟩:=World.ownsRow.stored h (k*3) (.int .i64 0);rw[aWs M k x hx]at s1;refine⟨?_,g1⟩;unfold aG;rw[List.length_set];exact s1
theorem aSt (N:Nat) (l:List E) (a al:Option Addr) (n c cl:Nat) (w:World) (hN:N<=65536) (hr:Rd w al l) (hw:wfL l) (hp:aS N l=false):
  Calls Tryz.prog 131 #[.agg #[.int .i64 N,.slice a n c],.slice al l.length cl] w fun e w'=>e= .returned (.tuple #[.slice none 0 0,.bool false])/\Below w.heap.size w w':=by
 have hlen:=hr.1;have HP:=hid hp;clear hp;go_enter Tryz.func131,Tryz.ntmps131;go_wp2_with fail;go_loopw [13] (fun i wr=>∃ k:Nat,k<=l.length/\i= .int .i64 k/\aS N (l.take k)=true/\wr.cell? ⟨w.heap.size,0,none⟩=some (.int .i64 N)/\Below w.heap.size w wr) (fun i _=>l.length-(intOf i).toNat)
 case atStart=>exact⟨0,Nat.zero_le _,rfl,rfl,by simp,(Below.refl _ _).bMq _⟩
 case round=>
  obtain⟨k,hk,rfl,hp,hcN,hB⟩:=hrel;by_cases hlt:k<l.length
  ·obtain ⟨b,o,rfl,hat⟩:=(hr.keep hB).at (by omega);obtain⟨h1,h2,h3⟩:=hat k _ (List.getElem?_eq_getElem hlt);have HX:=hid (hw _ (List.getElem_mem hlt));have HV:=hid (yT N l k hlt);have HPk:=hid hp;generalize l[k]=x at *;clear hat hr hp;obtain⟨_,⟨b3,b4⟩,⟨b5,b6⟩⟩:=HX.o;by_cases hx:pK N x=true
   ·have HF:=hid hx;have hx':1<=x.n/\0<=x.s/\x.s+x.n<=N:=of_decide_eq_true hx;obtain⟨e1,e2,e3⟩:=hx';clear hx;have hcN2:(wr.alloc (.cells #[.int .i64 x.a,.int .i64 x.n,.int .i64 x.s] 81)).cell? ⟨w.heap.size,0,none⟩=some (.int .i64 N):=((Below.refl wr.heap.size wr).bMq _).keep hcN;go_wp2_with fail;go_roundw
    case rel=>exact⟨k+1,by omega,by go_num,by rw[HV.o,HPk.o,HF.o];rfl,hcN2,hB.bMq _⟩
    case measure=>simp[intOf];omega
   ·have hx':¬ (1<=x.n/\0<=x.s/\x.s+x.n<=N):=fun h=>hx (decide_eq_true h);clear hx;by_cases d1:x.n<1
    ·go_wp2_with fail;go_ret2;exact⟨rfl,hB.bMq _⟩
    ·by_cases d2:x.s<0
     ·go_wp2_with fail;go_ret2;exact⟨rfl,hB.bMq _⟩
     ·by_cases d3:(N:Int)<x.s
      ·go_wp2_with fail;go_ret2;exact⟨rfl,hB.bMq _⟩
      ·have d4:(N:Int)-x.s<x.n:=by omega
       go_wp2_with fail;go_ret2;exact⟨rfl,hB.bMq _⟩
  ·rw[List.take_of_length_le (by omega)]at hp;exact absurd hp (by rw[HP.o];simp)
theorem yA (N:Nat) (l:List E) (a al:Option Addr) (n c cl:Nat) (w:World) (hN:N<=65536) (hr:Rd w al l) (hw:wfL l) (hp:aS N l=true) (hl:l.length<=1000000):
  Calls Tryz.prog 131 #[.agg #[.int .i64 N,.slice a n c],.slice al l.length cl] w fun e w'=>∃ v,e= .returned (.tuple #[v,.bool (vT l)])/\aG w' w.heap.size v (bT (dY l))/\Below w.heap.size w w':=by
 have hlen:=hr.1;have HPX:=hid ((aO _ _).1 hp);have HFW:=hid (bIy hN hp);have HM:Hid (∀x∈l,0<=x.n/\x.n<=65536):=hid fun x hx=>by have:=HPX.o x hx;omega
 have HRM:Hid (∀x∈bT (dY l),0<=x.n/\x.n<=65536):=hid fun x hx=>by
  have:=(aD x).1 ((dV (dY l)).1.1 x hx).2;omega
 have hrs:=bE (dV (dY l)).1;clear hp hw;go_enter Tryz.func131,Tryz.ntmps131;go_wp2_with fail;go_loopw [13] (fun i wr=>∃ k:Nat,k<=l.length/\i= .int .i64 k/\wr.cell? ⟨w.heap.size,0,none⟩=some (.int .i64 N)/\Below w.heap.size w wr) (fun i _=>l.length-(intOf i).toNat)
 case atStart=>exact⟨0,Nat.zero_le _,rfl,by simp,(Below.refl _ _).bMq _⟩
 case round=>
  obtain⟨k,hk,rfl,hcN,hB⟩:=hrel;by_cases hlt:k<l.length
  ·obtain⟨b,o,rfl,hat⟩:=(hr.keep hB).at (by omega);obtain⟨h1,h2,h3⟩:=hat k _ (List.getElem?_eq_getElem hlt);obtain⟨e1,e2,e3⟩:=HPX.o _ (List.getElem_mem hlt);generalize l[k]=x at *;clear hat hr;have hcN2:(wr.alloc (.cells #[.int .i64 x.a,.int .i64 x.n,.int .i64 x.s] 81)).cell? ⟨w.heap.size,0,none⟩=some (.int .i64 N):=((Below.refl wr.heap.size wr).bMq _).keep hcN;go_wp2_with fail;go_roundw
   case rel=>exact⟨k+1,by omega,by go_num,hcN2,hB.bMq _⟩
   case measure=>simp[intOf];omega
  ·have hr1:=hr.keep hB;go_wp2_with fail;refine(aCr l _ _ _ hr1 (by omega)).mono ?_;rintro e w2 ⟨v2,rfl,ho2,hb2⟩;have hB2:=hB.on hb2;have HO2:=hid (ho2.mono hB.size);have hgw:=hb2.size;clear hr1;obtain⟨a2,c2,rfl,_⟩:=ho2.rd (by omega);clear ho2 hb2;go_wp2_with fail;go_loopw [47] (fun i wq=>∃ k:Nat,k<=l.length/\i= .int .i64 k/\aG wq w.heap.size (.slice a2 l.length c2) (pI l k)/\w2.grownBy wq (Value.slice a2 l.length c2).ownBlock) (fun i _=>l.length-(intOf i).toNat)
   case atStart=>exact⟨0,Nat.zero_le _,rfl,by rw[aRm];exact HO2.o,World.grownBy.refl _ _⟩
   case round=>
    obtain⟨k,hk,rfl,ho,hg⟩:=hrel;have hfl:=aJc l k;have hrow:∀ j,(Value.slice a2 l.length c2).ownBlock=some j->w.heap.size<=j:=fun j hj=>(ho.lt j hj).1;have hBq:=hB2.bMu hg hrow;by_cases hlt:k<l.length
    ·rcases ho.form with ⟨h0,h1⟩|⟨g,cc,h0,hg1,hg2,hc1,hc2,hat,hfz⟩
     ·rw[h1]at hfl;simp at hfl;omega
     ·injection h0 with h0 h00 h000;subst h0;subst h000;have hgt:=aVx l k hlt;obtain⟨y1,y2,y3⟩:=hat k _ hgt;have hf0:=hfz (k*3);obtain⟨HO3,hg3⟩:=aG.seta hfl.symm ho k _ hgt;rw[aVw l k hlt]at HO3;have HO4:=hid HO3;have HG4:=hid (World.grownBy.next hg hg3);simp only[Nat.zero_add]at y1;generalize l[k]=x at *;clear HO3 hg3 hat hfz hgt h00 ho hg hfl y2 y3;go_wp2_with fail;go_roundw
      case rel=>exact⟨k+1,by omega,by go_num,HO4.o,HG4.o⟩
      case measure=>simp[intOf];omega
    ·obtain rfl:k=l.length:=by omega
     rw[aVy]at ho;have hFL:(dY l).length=l.length:=by simp[dY]
     have hrF:Rd _ a2 (dY l):=ho.rd' (by omega);have hru:=zX (dY l) a2 c2 _ hrF HFW.o (by omega);rw[hFL]at hru;have HRU:=hid hru;have HRQ:=hid (hr.keep hBq);have hszq:=hBq.size;clear ho hg hru hr;go_wp2_with fail;refine HRU.o.mono ?_;rintro e w4 ⟨v4,rfl,ho4,hb4⟩;have HO5:=hid (ho4.mono hszq);obtain⟨a4,c4,rfl,hr4⟩:=ho4.rd (by omega);have hB4:=hBq.on hb4;have hr4':=hid hr4;have HRQ:=hid (HRQ.o.keep hb4);clear ho4 hb4 hr4 HRU;go_wp2_with fail;refine(tC _ a4 c4 _ hr4'.o HRM.o (by omega)).mono ?_;rintro e w5 ⟨rfl,hb5⟩;have HO5:=hid (HO5.o.keep hb5);have HRQ:=hid (HRQ.o.keep hb5);have hB5:=hB4.on hb5;clear hb5 hr4';go_wp2_with fail;refine(tC l al cl _ HRQ.o HM.o (by omega)).mono ?_;rintro e w6 ⟨rfl,hb6⟩;have HO6:=hid (HO5.o.keep hb6);have hB6:=hB5.on hb6;clear hb6;go_wp2_with fail;go_ret2;exact⟨_,rfl,HO6.o,hB6⟩
open Go.RowKit
structure uV (w0 w:World) (N:Int) (a:Option Addr) (n c:Nat):Prop where
 b0:w.cell? ⟨w0.heap.size,0,none⟩=some (.int .i64 N)
 b1:w.cell? ⟨w0.heap.size,1,none⟩=some (.slice a n c)
 r0:w.cell? ⟨w0.heap.size+1,0,none⟩=some (.int .i64 0)
 r1:w.cell? ⟨w0.heap.size+1,1,none⟩=some (.slice none 0 0)
 f0:w.frozen? ⟨w0.heap.size+1,0,none⟩=false
 f1:w.frozen? ⟨w0.heap.size+1,1,none⟩=false
 B:Below w0.heap.size w0 w
theorem uV.later {w0 w w':World} {N:Int} {a:Option Addr} {n c:Nat} (h:uV w0 w N a n c) (hb:Below w.heap.size w w'):uV w0 w' N a n c:=
 ⟨hb.keep h.b0,hb.keep h.b1,hb.keep h.r0,hb.keep h.r1,hb.bMw h.r0 h.f0,hb.bMw h.r1 h.f1,h.B.on hb⟩
theorem uV.start (w:World) (N:Int) (a:Option Addr) (n c:Nat) (t:TypeId):uV w ((w.alloc (.cells #[.int .i64 N,.slice a n c] t)).alloc (.cells #[.int .i64 0,.slice none 0 0] t)) N a n c:=
 ⟨by simp,by simp,by simp,by simp,by simp,by simp,((Below.refl _ _).bMq _).bMq _⟩
theorem aVc (N:Nat) (R l:List E) (a al:Option Addr) (c cl:Nat) (w:World) (hN:N<=65536) (hr:Rd w al l) (hw:wfL l) (hl:l.length<=1000000) (hp:(aS N l&&vT l)=false):
  Calls Tryz.prog 91 #[.agg #[.int .i64 N,.slice a R.length c],.slice al l.length cl] w fun e w'=>e= .returned (.tuple #[.agg #[.int .i64 0,.slice none 0 0],.int .i64 2])/\Below w.heap.size w w':=by
 have HS0:=hid (uV.start w N a R.length c 111);have HR0:=hid (hr.keep (((Below.refl w.heap.size w).bMq (.cells #[.int .i64 N,.slice a R.length c] 111)).bMq (.cells #[.int .i64 0,.slice none 0 0] 111)));cases h:aS N l
 ·have HP:=hid h;clear hp h hr;go_enter Tryz.func91,Tryz.ntmps91;go_wp2_with fail;refine(aSt N l a al _ c cl _ hN HR0.o hw HP.o).mono ?_;rintro e w1 ⟨rfl,hb1⟩;have HS:=hid (HS0.o.later hb1);clear hb1 HS0;have r0:=HS.o.r0;have r1:=HS.o.r1;have f0:=HS.o.f0;have f1:=HS.o.f1;have b0:=HS.o.b0;have b1:=HS.o.b1;go_wp2_with fail;refine bodyPost_ret (v:= .tuple #[.agg #[.int .i64 0,.slice none 0 0],.int .i64 2]) ?_ rfl ⟨rfl,?_⟩
  ·simp[results,Tryz.results91,go_sem,r0,r1,f0,f1]
  ·exact(HS.o.B.setCell (by simp) _).setCell (by simp) _
 ·rw[h]at hp;have HP:=hid h;have HO:Hid (vT l=false):=hid (by simpa using hp);clear hp h hr;go_enter Tryz.func91,Tryz.ntmps91;go_wp2_with fail;refine(yA N l a al _ c cl _ hN HR0.o hw HP.o hl).mono ?_;rintro e w1 ⟨v1,rfl,_,hb1⟩;rw[HO.o];have HS:=hid (HS0.o.later hb1);clear hb1 HS0;have r0:=HS.o.r0;have r1:=HS.o.r1;have f0:=HS.o.f0;have f1:=HS.o.f1;have b0:=HS.o.b0;have b1:=HS.o.b1;go_wp2_with fail;refine bodyPost_ret (v:= .tuple #[.agg #[.int .i64 0,.slice none 0 0],.int .i64 2]) ?_ rfl ⟨rfl,?_⟩
  ·simp[results,Tryz.results91,go_sem,r0,r1,f0,f1]
  ·exact(HS.o.B.setCell (by simp) _).setCell (by simp) _
theorem jT (l:List E) (z:Int) (a:Option Addr) (c:Nat) (w:World) (hz:aT l=z) (hr:Rd w a l) (hn:∀ x∈l,0<=x.n/\x.n<=65536) (hl:l.length<=1000000000):
  Calls Tryz.prog 133 #[.slice a l.length c] w fun e w'=>e= .returned (.int .i64 z)/\Below w.heap.size w w':=by
 subst hz;exact tC l a c w hr hn hl
def bKf (p:Prop) (a:Option Addr) (g:Nat):Prop:=p∨ ∀b o,a=some ⟨b,o,none⟩->b≠g
def aDz (p0 p:Prop) (B:Nat) (a0 a:Option Addr):Prop:=p∨(a=a0/\ ¬p0)∨ ∀b o,a=some ⟨b,o,none⟩->B<=b
theorem aDz.away {p0 p:Prop} {B g:Nat} {a0 a:Option Addr} (h:aDz p0 p B a0 a) (h0:bKf p0 a0 g) (hg:g<B):bKf p a g:=by
 rcases h with h|⟨rfl,h⟩|h
 ·exact .inl h
 ·exact .inr (h0.resolve_left h)
 ·exact .inr fun b o e=>by have:=h b o e;omega
theorem aDz.mono {p0 p:Prop} {B B':Nat} {a0 a:Option Addr} (h:aDz p0 p B a0 a) (hb:B'<=B):aDz p0 p B' a0 a:=by
 rcases h with h|h|h
 ·exact .inl h
 ·exact .inr (.inl h)
 ·exact .inr (.inr fun b o e=>Nat.le_trans hb (h b o e))
def aNx (w w':World) (a:Option Addr) (l0 l:List E) (v:Value):Prop:= ∃a' c',v= .slice a' l.length c'/\Rd w' a' l/\aDz (l0=[]) (l=[]) w.heap.size a a'
def bHr (N:Nat) (R L:List E) (a:Option Addr) (w:World) (e:Ending) (w':World):Prop:=
 Below w.heap.size w w'/\((aT (dF R L)+aT L=aT R/\ ∃v,e= .returned (.tuple #[.agg #[.int .i64 N,v],.int .i64 0])/\aNx w w' a R (dF R L) v)∨
  (aT (dF R L)+aT L≠aT R/\e= .returned (.tuple #[.agg #[.int .i64 0,.slice none 0 0],.int .i64 8])))
theorem bFd (N:Nat) (R l:List E) (a al:Option Addr) (c cl:Nat) (w:World) (hN:N<=65536) (hrR:Rd w a R) (hc:Canon R) (hr:Rd w al l) (hw:wfL l) (hl:l.length<=1000000) (hp:aS N l=true) (ho:vT l=true):
  Calls Tryz.prog 91 #[.agg #[.int .i64 N,.slice a R.length c],.slice al l.length cl] w (bHr N R (bT (dY l)) a w):=by
 have HS0:=hid (uV.start w N a R.length c 111);have hk:=((Below.refl w.heap.size w).bMq (.cells #[.int .i64 N,.slice a R.length c] 111)).bMq (.cells #[.int .i64 0,.slice none 0 0] 111);have HR0:=hid (hr.keep hk);have HRR:=hid (hrR.keep hk);have HNA:=hid hrR.lt;have HP:=hid hp;have HO:=hid ho;have hLc:=(dV (dY l)).1;have hLs:=bE hLc;have HLok:Hid (∀x∈bT (dY l),okB x=true):=hid fun x hx=>(hLc.1 x hx).2;have hWc:=(rW (bT (dY l)) HLok.o R hc).1;have hWs:=bE hWc;have hRs:=bE hc;have HM:∀ L:List E,Canon L-> ∀x∈L,0<=x.n/\x.n<=65536:=fun L hL x hx=>by
  have:=(aD x).1 (hL.1 x hx).2;omega
 have HM1:=hid (HM _ hLc);have HM2:=hid (HM _ hWc);have HM3:=hid (HM _ hc);obtain⟨q1,q2⟩:=qR _ 65536 HM1.o;obtain⟨q3,q4⟩:=qR _ 65536 HM2.o;obtain⟨q5,q6⟩:=qR _ 65536 HM3.o;have HCC:=hid hc;clear hp ho hr hrR hk hLc hWc HM hc;generalize hLL:bT (dY l)=L at *;have HLL:=hid hLL;clear hLL;go_enter Tryz.func91,Tryz.ntmps91;go_wp2_with fail;have hcon:=yA N l a al R.length c cl _ hN HR0.o hw HP.o hl;rw[HO.o,HLL.o]at hcon;refine hcon.mono ?_;rintro e w1 ⟨v1,rfl,ho1,hb1⟩;obtain⟨a1,c1,rfl,hr1⟩:=ho1.rd (by omega);have HS:=hid (HS0.o.later hb1);have HRR1:=hid (HRR.o.keep hb1);have HR1:=hid hr1;have HSZ:=hid hb1.size;clear hb1 HS0 HRR ho1 hr1 hcon HR0;have b1:=HS.o.b1;go_wp2_with fail;refine(aOc R L a a1 c c1 _ HRR1.o HR1.o HCC.o HLok.o (by omega)).mono ?_;rintro e w2 ⟨a2,c2,rfl,hr2,hfr2,hb2⟩;have HS:=hid (HS.o.later hb2);have HRR2:=hid (HRR1.o.keep hb2);have HR2:=hid (HR1.o.keep hb2);have HW2:=hid hr2;have hsz1:w.heap.size+2<=w1.heap.size:=by have:=HSZ.o;simpa using this
 have HNE:Hid (dF R L=[]∨ ∀b o,a2=some ⟨b,o,none⟩->b≠w.heap.size+1):=hid (by
  rcases hfr2 with h0|hfr2
  ·rcases HNA.o with h1|h1
   ·rw[h1];exact .inl (zP L)
   ·refine .inr fun b o e=> ?_;rw[h0]at e;have:=h1 b o e;omega
  ·refine .inr fun b o e=> ?_;have:=hfr2 b o e
   omega)
 have HFr:Hid (aDz (R=[]) (dF R L=[]) w.heap.size a a2):=hid (by
  rcases hfr2 with h0|h
  ·by_cases hR:R=[]
   ·exact .inl (by rw[hR];exact zP L)
   ·exact .inr (.inl ⟨h0,hR⟩)
  ·exact .inr (.inr fun b o e=>by have:=h b o e;omega))
 clear hb2 hr2 HRR1 HR1 b1 hfr2 HNA;generalize hWW:dF R L=W at *;have HWW:=hid hWW;clear hWW;have b1:=HS.o.b1;have b0:=HS.o.b0;generalize hl1:aT W=z1 at *;generalize hl2:aT L=z2 at *;generalize hl3:aT R=z3 at *;have H1:=hid hl1;have H2:=hid hl2;have H3:=hid hl3;have q7:IntKind.i64.wrap (z1+z2)=z1+z2:=IntWalk.i64_in _ (by omega);clear hl1 hl2 hl3;by_cases hz:z1+z2=z3
 ·have d1:((z1+z2) != z3)=false:=by simp[hz]
  have d2:((z1+z2)==z3)=true:=by simp[hz]
  have HZ:=hid hz;clear hz;go_wp2_with fail;refine aC (by kernel_rfl) (by kernel_rfl) ?_
  repeat(go_big_quiet_step (first|(go_at_call_of 133 (Value.slice a2 W.length c2);exact Calls.bMv (jT W z1 a2 c2 _ H1.o (HW2.o.keep (World.bMr _ _)) HM2.o (by omega)))|(go_at_call_of 133 (Value.slice a1 L.length c1);exact Calls.bMv (jT L z2 a1 c1 _ H2.o (HR2.o.keep (World.bMr _ _)) HM1.o (by omega)))|(go_at_call_of 133 (Value.slice a R.length c);exact Calls.bMv (jT R z3 a c _ H3.o (HRR2.o.keep (World.bMr _ _)) HM3.o (by omega)))))
  refine wpQuiet_nil ?_;intro _ hw';obtain⟨nq,hw''⟩:=hw';subst hw'';have HB:=hid (HS.o.later (World.bMr w2 nq));have HW3:=hid (HW2.o.keep (World.bMr w2 nq));clear HS b0 b1;generalize w2.next nq=w3 at *;have HS:=HB;have r0:=HS.o.r0;have r1:=HS.o.r1;have f0:=HS.o.f0;have f1:=HS.o.f1;have b0:=HS.o.b0;have b1:=HS.o.b1;go_wp2_with fail;refine bodyPost_ret (v:= .tuple #[.agg #[.int .i64 N,.slice a2 W.length c2],.int .i64 0]) ?_ rfl ⟨?_,.inl ⟨by rw[HWW.o,H1.o,H2.o,H3.o];exact HZ.o,_,rfl,a2,c2,by rw[HWW.o],?_,by rw[HWW.o];exact HFr.o⟩⟩
  ·simp[results,Tryz.results91,go_sem,r0,r1,f0,f1]
  ·exact(HS.o.B.setCell (by simp) _).setCell (by simp) _
  ·rw[HWW.o];exact(HW3.o.cell_ne _ _ _ HNE.o).cell_ne _ _ _ HNE.o
 ·have d1:((z1+z2) != z3)=true:=by simp[hz]
  have d2:((z1+z2)==z3)=false:=by simp[hz]
  have HZ:=hid hz;clear hz;go_wp2_with fail;refine aC (by kernel_rfl) (by kernel_rfl) ?_
  repeat(go_big_quiet_step (first|(go_at_call_of 133 (Value.slice a2 W.length c2);exact Calls.bMv (jT W z1 a2 c2 _ H1.o (HW2.o.keep (World.bMr _ _)) HM2.o (by omega)))|(go_at_call_of 133 (Value.slice a1 L.length c1);exact Calls.bMv (jT L z2 a1 c1 _ H2.o (HR2.o.keep (World.bMr _ _)) HM1.o (by omega)))|(go_at_call_of 133 (Value.slice a R.length c);exact Calls.bMv (jT R z3 a c _ H3.o (HRR2.o.keep (World.bMr _ _)) HM3.o (by omega)))))
  refine wpQuiet_nil ?_;intro _ hw';obtain⟨nq,hw''⟩:=hw';subst hw'';have HB:=hid (HS.o.later (World.bMr w2 nq));have HW3:=hid (HW2.o.keep (World.bMr w2 nq));clear HS b0 b1;generalize w2.next nq=w3 at *;have HS:=HB;have r0:=HS.o.r0;have r1:=HS.o.r1;have f0:=HS.o.f0;have f1:=HS.o.f1;have b0:=HS.o.b0;have b1:=HS.o.b1;go_wp2_with fail;refine bodyPost_ret (v:= .tuple #[.agg #[.int .i64 0,.slice none 0 0],.int .i64 8]) ?_ rfl ⟨?_,.inr ⟨by rw[HWW.o,H1.o,H2.o,H3.o];exact HZ.o,rfl⟩⟩
  ·simp[results,Tryz.results91,go_sem,r0,r1,f0,f1]
  ·exact(HS.o.B.setCell (by simp) _).setCell (by simp) _
def bKh (M:List Bool) (l:List E) (u:Bool) (a:Option Addr) (w:World) (e:Ending) (w':World):Prop:=
 Below w.heap.size w w'/\((nD M.length l=false/\e= .returned (.tuple #[.agg #[.int .i64 0,.slice none 0 0],.int .i64 2]))∨
  (nD M.length l=true/\stN M l u≠0/\e= .returned (.tuple #[.agg #[.int .i64 0,.slice none 0 0],.int .i64 8]))∨
  (nD M.length l=true/\stN M l u=0/\ ∃v,e= .returned (.tuple #[.agg #[.int .i64 M.length,v],.int .i64 0])/\aNx w w' a (aV M) (aV (uX M l u)) v))
theorem yB (M:List Bool) (l:List E) (a al:Option Addr) (c cl:Nat) (w:World) (hN:M.length<=65536) (hrR:Rd w a (aV M)) (hr:Rd w al l) (hw:wfL l) (hl:l.length<=1000000):
  Calls Tryz.prog 91 #[.agg #[.int .i64 M.length,.slice a (aV M).length c],.slice al l.length cl] w (bKh M l true a w):=by
 cases hb:nD M.length l
 ·exact(aVc M.length (aV M) l a al c cl w hN hr hw hl hb).mono fun e w' h=>⟨h.2,.inl ⟨hb,h.1⟩⟩
 ·obtain⟨hp,ho,_⟩:=vJ hN hb;refine(bFd M.length (aV M) l a al c cl w hN hrR (dA M) hr hw hl hp ho).mono fun e w' h=> ?_;obtain⟨h1,⟨h2,v,h3,h4⟩|⟨h2,h3⟩⟩:=h
  ·exact⟨h1,.inr (.inr ⟨hb,(aKn hN hp).1 h2,v,h3,by rw[bIo hN hp]at h4;exact h4⟩)⟩
  ·exact⟨h1,.inr (.inl ⟨hb,fun hc=>h2 ((aKn hN hp).2 hc),h3⟩)⟩
end Go.Proofs.YtaiklhbakldfhaaGreat
