/-
  package mapper: hint, slots, free.
  The map of the slots in use: plain laws.
  package mapper: free.
  Conditions: as each theorem says.
-/
import Derived.Test.YtaiklhbakldfhaaGreatMpV
import Derived.Test.YtaiklhbakldfhaaGreatHE
import Derived.Test.YtaiklhbakldfhaaGreatGJ
namespace Go.Proofs.YtaiklhbakldfhaaGreat
open Go.Lib (hid)
set_option linter.unusedSimpArgs false
set_option linter.unusedVariables false
set_option maxRecDepth 100000
set_option maxHeartbeats 16000000
open Go.RowKit Go.Maps
def yI (F:Fam) (nm:List UInt8) (p:Int):Int:=if (fQ F nm (p-1)).2.1=true/\(fQ F nm (p-1)).2.2=0 then (fQ F nm (p-1)).1+1 else 0
theorem wI {l:List E} {N:Nat} (p:Int) (h:aS N l=true) (hb:fH l p=true):0<=fK l p/\fK l p<N:=by
 unfold fH at hb;unfold fK
 cases hf:l.find? (hits p)with
 |none=>rw[hf]at hb;simp at hb
 | some x=>
  have h1:=List.find?_some hf;have h2:=(aO _ _).1 h x (List.mem_of_find?_eq_some hf);simp only[hits,Bool.and_eq_true,decide_eq_true_eq]at h1;simp only[Option.map_some,Option.getD_some];omega
theorem aGq {F:Fam} (hF:F.ok) (nm:List UInt8) (p:Int) (hb:(fQ F nm p).2.1=true):0<=(fQ F nm p).1/\(fQ F nm p).1<F.N:=by
 rcases tZ F nm p with ⟨_,h⟩|⟨v,hg,⟨_,h⟩|⟨_,_,h⟩⟩
 ·rw[h]at hb;simp at hb
 ·rw[h]at hb;simp at hb
 ·rw[h]at hb ⊢;exact wI p (hF.vol v (aH hg).1).perm hb
theorem bFr {F:Fam} (hF:F.ok) (nm:List UInt8) (p:Int):0<=yI F nm p/\yI F nm p<=F.N:=by
 unfold yI
 split
 ·rename_i h
  have:=aGq hF nm _ h.1;omega
 ·omega
theorem bFa (M:Nat) (F:Fam) (z:Int) (nm:List UInt8) (p:Int) (w:World) (hF:F.ok) (h:dU w M F) (hn:nm.length<=maxLen) (hp: -9000000000000000000<=p/\p<=9000000000000000000) (hz:yI F nm p=z):
  Calls Tryz.prog 43 #[.pointer (some ⟨M,0,none⟩),nmV nm,.int .i64 p] w fun e w'=>e= .returned (.int .i64 z)/\Below w.heap.size w w':=by
 obtain⟨a,c,m,hb,hf⟩:=h.form;have HFI:=hid (aHk F _ nm (p-1) _ hF hf hn (by omega));have HLF:=hid (aGq hF nm (p-1));have h65:=hF.hN;have m0:=hb.c0;have m1:=hb.c1;unfold yI at hz;obtain⟨s,b,e0,hs⟩:∃ s b e0,fQ F nm (p-1)=(s,b,e0):=⟨_,_,_,rfl⟩;rw[hs]at HFI HLF hz;simp only at HFI HLF hz;have HZ:=hid hz;clear hb hf h hF hs hz;go_enter Tryz.func43,Tryz.ntmps43;go_wp2_with fail;refine HFI.o.mono ?_;rintro e w1 ⟨rfl,hb⟩;have HB:=hid hb;clear hb HFI m0 m1;cases b
 ·go_wp2_with fail;go_ret;exact⟨by rw[<-HZ.o];simp,HB.o⟩
 ·have hl:=HLF.o rfl;cases he:(e0==0)
  ·have HE:=hid he;go_wp2_with fail;go_ret;have:¬ e0=0:=by have:=HE.o;simpa using this
   exact⟨by rw[<-HZ.o];simp[this],HB.o⟩
  ·have HE:=hid he;go_wp2_with fail;go_ret;have:e0=0:=by have:=HE.o;simpa using this
   exact⟨by rw[<-HZ.o];simp[this],HB.o⟩
def jZ (s:Int) (n:Nat):List Int:=(List.range n).map fun k:Nat=>s+(k:Int)
theorem yQ (s:Int) (n:Nat):(jZ s n).length=n:=by simp[jZ]
theorem aOo (s:Int) (n:Nat):jZ s (n+1)=jZ s n++[s+n]:=by simp[jZ,List.range_succ]
def fT (l:List E):List Int:=l.flatMap fun x=>jZ x.s x.n.toNat
theorem aDc (l:List E) (k:Nat) (h:k<l.length):fT (l.take (k+1))=fT (l.take k)++jZ l[k].s l[k].n.toNat:=by
 unfold fT;rw[List.take_succ_eq_append_getElem h,List.flatMap_append];simp
theorem aTt (l:List E) (k:Nat) (h:k<l.length):(fT (l.take k)).length+l[k].n.toNat<=(fT l).length:=by
 have h1:fT l=fT (l.take (k+1))++fT (l.drop (k+1)):=by
  unfold fT;rw[<-List.flatMap_append,List.take_append_drop]
 rw[h1,aDc l k h,List.length_append,List.length_append,yQ];omega
theorem bAt (l:List E) (a:Option Addr) (c:Nat) (w:World) (hr:Rd w a l) (hx:∀ x∈l,0<=x.s/\0<=x.n/\x.s+x.n<=65536) (hl:(fT l).length<=65536):
  Calls Tryz.prog 44 #[.slice a l.length c] w fun e w'=>∃ v,e= .returned v/\dE w' w.heap.size v (fT l)/\Below w.heap.size w w':=by
 obtain⟨i0,hi,hz0,hz1,hz2⟩:=info_parts bFo;have HX:=hid hx;have hll:=hr.1;clear hx;go_enter Tryz.func44,Tryz.ntmps44;go_wp2_with fail;go_loopw [3,9] (fun v i wr=>∃ (k:Nat) (u:Value) (n:Nat) (S:List Int),k<=l.length/\i= .int .i64 k/\v=u/\Hid (S=fT (l.take k))/\dE wr w.heap.size u S/\Below w.heap.size w wr) (fun _ i _=>l.length-(intOf i).toNat)
 case atStart=>exact⟨0,_,0,[],Nat.zero_le _,rfl,rfl,hid (by simp[fT]),dE.nil _ _,Below.refl _ _⟩
 case round=>
  obtain⟨k,u,n0,S,hk,rfl,rfl,hS,ho,hB⟩:=hrel;by_cases hlt:k<l.length
  ·obtain ⟨b,o,rfl,hat⟩:=(hr.keep hB).at (by omega);obtain⟨h1,h2,h3⟩:=hat k _ (List.getElem?_eq_getElem hlt);obtain⟨p1,p2,p3⟩:=HX.o _ (List.getElem_mem hlt);have HT:=hid (aDc l k hlt);have hln:=aTt l k hlt;rw[<-hS.o]at hln HT;generalize l[k]=x at *;obtain⟨xa,xn,xs⟩:=x;simp only at h1 h2 h3 p1 p2 p3 HT hln;obtain⟨n,rfl⟩:=Int.eq_ofNat_of_zero_le p2;simp only[Int.toNat_natCast]at HT hln;have HOF:=hid ho;clear hat ho;go_wp2_with fail;have hx1:(wr.alloc (.cells #[.int .i64 xa,.int .i64 n,.int .i64 xs] 81)).cell? ⟨wr.heap.size,1,none⟩=some (.int .i64 n):=by simp
   have hx2:(wr.alloc (.cells #[.int .i64 xa,.int .i64 n,.int .i64 xs] 81)).cell? ⟨wr.heap.size,2,none⟩=some (.int .i64 xs):=by simp
   have HOW:=hid (HOF.o.keep ((Below.refl _ _).bMq (.cells #[.int .i64 xa,.int .i64 n,.int .i64 xs] 81)));have HBW:=hid (hB.bMq (.cells #[.int .i64 xa,.int .i64 n,.int .i64 xs] 81));have hne:=fun e=>Nat.lt_irrefl _ (HOF.o.lt wr.heap.size e).2;have hXge:=hB.size;generalize wr.alloc (.cells #[.int .i64 xa,.int .i64 n,.int .i64 xs] 81)=W0 at *;generalize wr.heap.size=X at *;have HNE:=hid hne;clear HOF hB hne;go_loopw [3,15] (fun v t wi=>∃ (j:Nat) (P:List Int),j<=n/\t= .int .i64 j/\Hid (P=S++jZ xs j)/\dE wi w.heap.size v P/\wi.cell? ⟨X,1,none⟩=some (.int .i64 n)/\wi.cell? ⟨X,2,none⟩=some (.int .i64 xs)/\v.ownBlock≠some X/\Below w.heap.size w wi) (fun _ t _=>n-(intOf t).toNat)
   case atStart=>exact⟨0,S,Nat.zero_le _,rfl,hid (by simp[jZ]),HOW.o,hx1,hx2,HNE.o,HBW.o⟩
   case round=>
    clear hx1 hx2;obtain⟨j,P,hj,rfl,hP,hoi,hx1,hx2,hne,hBi⟩:=hrel;have HPL:Hid (P.length=S.length+j):=hid (by rw[hP.o,List.length_append,yQ]);by_cases hlj:j<n
    ·have HOI:=hid hoi;have HNX:=hid hne;have hszi:=hBi.size;have hXl:=World.block_lt_of_cell? _ _ hx1;simp only at hXl;clear hoi hne
     go_wp2_with (at_builtin;refine aM _ rfl _ _ 41 rfl w.heap.size 3 i0 (.int .i64 0) 1 8 Tryz.underlying41 hi hz0 hz1 hz2 rfl (by decide) _ _ _ rfl (World.ownsRow.alloc HOI.o _) ⟨wr.heap.size,0,none⟩ 1 1 [_] rfl rfl (newI _ _ rfl _ _) (by intro u hu;simp at hu;subst hu;rfl) (by have:=HPL.o;simp;omega) (by have:=HPL.o;simp[maxLen];omega) (by simp only[World.size_alloc];omega) ?_;intro v1 w2 hown1 hgrow1 hwhere1)
     have ho:=dE.append (D:=[xs+(j:Int)]) hown1 rfl;have HBE:=hid ((hBi.bMq (.cells #[.int .i64 (xs+j)] 3)).bMu hgrow1 fun j hj=>(HOI.o.lt j hj).1);have HO4:=hid ho;have hx3:=hgrow1.cell (((Below.refl _ _).bMq (.cells #[.int .i64 (xs+j)] 3)).keep hx1) (fun e=>HNX.o e.symm);have hx4:=hgrow1.cell (((Below.refl _ _).bMq (.cells #[.int .i64 (xs+j)] 3)).keep hx2) (fun e=>HNX.o e.symm);have HN4:Hid (v1.ownBlock≠some X):=hid (by
      rcases hwhere1 with e|e
      ·rw[e];exact HNX.o
      ·rw[e];simp only[World.size_alloc,ne_eq,Option.some.injEq]
       omega)
     have HP2:Hid (P++[xs+(j:Int)]=S++jZ xs (j+1)):=hid (by rw[hP.o,aOo,List.append_assoc]);clear hown1 hgrow1 hwhere1 hx1 hx2 ho;go_wp2_with fail;go_roundw
     case rel=>exact⟨j+1,P++[xs+(j:Int)],by omega,by go_num,HP2,HO4.o,hx3,hx4,HN4.o,HBE.o⟩
     case measure=>simp[intOf];omega
    ·obtain rfl:j=n:=by omega
     have HOI:=hid hoi;clear hoi;go_wp2_with fail;go_roundw
     case rel=>exact⟨k+1,_,0,P,by omega,by go_num,rfl,hid (by rw[hP.o,HT.o]),HOI.o,hBi⟩
     case measure=>simp[intOf];omega
  ·obtain rfl:k=l.length:=by omega
   rw[List.take_length]at hS;have HO:=hid ho;clear ho;go_wp2_with fail;go_ret;exact⟨_,rfl,by rw[<-hS.o];exact HO.o,hB⟩
def eO (C:List Int):List Bool:=mk (fun i=> !bS C i) C.length
theorem kJ (C:List Int):(eO C).length=C.length:=xM _ _
theorem uE (C:List Int) (i:Nat) (hi:i<C.length):dC (eO C) i=bS C i:=by
 rw[oN _ _ (by rw[kJ];exact hi)];unfold eO;rw[aMx _ _ _ hi];simp
theorem rR (C:List Int):aV (eO C)=jQ C:=by
 unfold aV jQ;rw[kJ,vO _ _ _ fun i hi=>uE C i hi]
theorem aOf (n:Nat):eO (List.replicate n 0)=List.replicate n false:=by
 unfold eO;rw[List.length_replicate,<-aQh];exact gL _ _ _ fun i hi=>by simp[bS,List.getD_eq_getElem?_getD,List.getElem?_replicate,hi]
theorem aIo (n:Nat) (h0:0<n) (hn:n<=65536):jQ (List.replicate n 0)=[⟨0,n,0⟩]:=by
 refine(zW _ _ ⟨?_,by simp⟩ fun s=> ?_).symm
 ·intro x hx;simp at hx;subst hx;exact⟨rfl,(aD _).2 ⟨by simp;omega,by simp,by simp,by simp;omega,by simp;omega⟩⟩
 ·rw[aKv _ _ (by simp;omega),wG _ _ ((aD _).2 ⟨by simp;omega,by simp,by simp,by simp;omega,by simp;omega⟩)];simp only[List.length_replicate,bS,decide_eq_true_eq,Int.zero_add]
  constructor
  ·rintro⟨a,b⟩;refine⟨a,b,?_⟩;rw[List.getD_eq_getElem?_getD,List.getElem?_replicate,if_pos (by omega)];rfl
  ·rintro⟨a,b,_⟩;exact⟨a,b⟩
theorem nO (n:Nat) (h0:0<n) (hn:n<=65536):aV (List.replicate n false)=[⟨0,n,0⟩]:=by
 rw[<-aOf,rR,aIo n h0 hn]
theorem aDw {M:List Bool} (hN:M.length<=65536) {R:List E} (h:Canon R) (hf:∀ i,hasB R i=true->dC M i=true):nD M.length R=true:=by
 have hp:=aIb h hf;refine xB hN hp ?_;unfold aCi;rw[fE _ h,aN _ _ _ fun i _=>oI h i,kG _ _ _ hN fun i hi _=> ?_]
 ·omega
 ·rw[Bool.eq_false_iff];intro hc;have:=wH (hf i hc);omega
theorem aLq {R:List E} (h:Canon R):wfL R:=by
 intro x hx;obtain⟨c1,c2,c3,c4,c5⟩:=(aD _).1 (h.1 x hx).2;exact⟨by omega,by omega,by omega⟩
theorem bFe (n:Nat) (hn:n<=65536):nD n (aV (List.replicate n false))=true/\stN (List.replicate n false) (aV (List.replicate n false)) true=0/\
  uX (List.replicate n false) (aV (List.replicate n false)) true=List.replicate n true:=by
 have hl:(List.replicate n false).length=n:=by simp
 refine⟨?_,?_,?_⟩
 ·have:=aDw (M:=List.replicate n false) (by omega) (dA _) fun i hi=>by rw[<-jW _ (by omega)];exact hi
  rw[hl]at this;exact this
 ·unfold stN;rw[kX];intro i hi;rw[hl]at hi;simp[List.getD_eq_getElem?_getD,List.getElem?_replicate,hi]
 ·unfold uX;rw[hl,show List.replicate n true=mk (fun _=>true) n by
   unfold mk
   apply List.ext_getElem
   ·simp
   ·intro i h1 h2;simp]
  refine gL _ _ _ fun i hi=> ?_;rw[oI (dA _),jW _ (by omega),oN _ _ (by omega)];simp[List.getD_eq_getElem?_getD,List.getElem?_replicate,hi]
theorem bBh (C:List Int) (hn:C.length<=65536):nD C.length (jQ C)=true/\stN (List.replicate C.length true) (jQ C) false=0/\
  uX (List.replicate C.length true) (jQ C) false=eO C:=by
 have hl:(List.replicate C.length true).length=C.length:=by simp
 have hc:Canon (jQ C):=by rw[<-rR];exact dA _
 have hh:∀ i,hasB (jQ C) i=dC (eO C) i:=fun i=>by rw[<-rR,jW _ (by rw[kJ];exact hn)]
 refine⟨?_,?_,?_⟩
 ·have:=aDw (M:=eO C) (by rw[kJ];exact hn) hc fun i hi=>by rw[<-hh];exact hi
  rw[kJ]at this;exact this
 ·unfold stN;rw[kX];intro i hi;rw[hl]at hi;simp[List.getD_eq_getElem?_getD,List.getElem?_replicate,hi]
 ·unfold uX eO;rw[hl];refine gL _ _ _ fun i hi=> ?_;rw[oI hc,hh,uE C i hi];cases hz:bS C i
  ·simp[List.getD_eq_getElem?_getD,List.getElem?_replicate,hi]
  ·simp
open Go.RowKit Go.Maps
def aSy (W:World) (v:Value) (M:List Bool):Prop:= ∃a c,v= .agg #[.int .i64 M.length,.slice a (aV M).length c]/\Rd W a (aV M)
theorem aSy.keep {W W':World} {v:Value} {M:List Bool} (h:aSy W v M) (hb:Below W.heap.size W W'):aSy W' v M:=by
 obtain⟨a,c,h1,h2⟩:=h;exact⟨a,c,h1,h2.keep hb⟩
structure FrS (w W:World) (M X:Nat) (F:Fam) (u v x y:Value):Prop where
 r:Bx W w.heap.size 111 u v
 x:Bx W X 111 x y
 hX:w.heap.size<X
 m:dU W M F
 hM:M<w.heap.size
 g:Below w.heap.size w W
section
variable {w W W':World} {M X:Nat} {F:Fam} {u v x y p q:Value}
theorem FrS.later (h:FrS w W M X F u v x y) (hb:Below W.heap.size W W'):FrS w W' M X F u v x y:=
 ⟨h.r.later hb,h.x.later hb,h.hX,h.m.later hb,h.hM,h.g.on hb⟩
theorem bJz:3≠111:=by decide
theorem dU.far (h:dU W M F) (hb:Bx W X 111 x y) (hne:M≠X):dU (dN W X p q) M F:=by
 obtain⟨u,v,h1,h2⟩:=h;exact⟨u,v,h1.far hne _ _,hb.famV bJz h2⟩
theorem FrS.putX (h:FrS w W M X F u v x y) (p q:Value):FrS w (dN W X p q) M X F u v p q:=
 ⟨h.r.far (by have:=h.hX;omega) _ _,h.x.put _ _,h.hX,h.m.far h.x (by have:=h.hX;have:=h.hM;omega),h.hM,(h.g.setCell (by have:=h.hX;simp;omega) _).setCell (by have:=h.hX;simp;omega) _⟩
end
theorem zC (n:Nat):aV (List.replicate n true)=[]:=by
 have:picks (dC (List.replicate n true)) (List.replicate n true).length=[]:=by
  rw [vO _ (fun _=>false) _ fun i hi=>by
   rw[oN _ _ hi];simp at hi
   simp[List.getD_eq_getElem?_getD,List.getElem?_replicate,hi]]
  exact aUs _ _ fun _ _=>rfl
 unfold aV;rw[this];exact(zW _ _ ⟨by simp,by simp⟩ fun s=>by simp[has]).symm
theorem bLg (n:Nat) (h0:0<n) (hn:n<=65536) (a al:Option Addr) (c cl:Nat) (w:World) (hr:Rd w a [⟨0,n,0⟩]) (hl:Rd w al [⟨0,n,0⟩]):
  Calls Tryz.prog 91 #[.agg #[.int .i64 n,.slice a 1 c],.slice al 1 cl] w fun e w'=>∃ a' c',e= .returned (.tuple #[.agg #[.int .i64 n,.slice a' 0 c'],.int .i64 0])/\Rd w' a' []/\Below w.heap.size w w':=by
 have h:=yB (List.replicate n false) (aV (List.replicate n false)) a al c cl w (by simp;exact hn) (by rw[nO n h0 hn];exact hr) (by rw[nO n h0 hn];exact hl) (aLq (dA _)) (by rw[nO n h0 hn];simp);obtain⟨m1,m2,m3⟩:=bFe n hn;have e1:(List.replicate n false).length=n:=by simp
 unfold bKh at h;rw[m3,e1,zC,nO n h0 hn]at h;rw[nO n h0 hn]at m1 m2;refine h.mono ?_;rintro e w' ⟨hb,⟨h1,_⟩|⟨_,h1,_⟩|⟨_,_,v,h1,a',c',rfl,hr',_⟩⟩
 ·rw[m1]at h1;cases h1
 ·exact absurd m2 h1
 ·exact⟨a',c',h1,hr',hb⟩
theorem bLj (C:List Int) (hn:C.length<=65536) (a al:Option Addr) (c cl:Nat) (w:World) (hr:Rd w a []) (hl:Rd w al (jQ C)):
  Calls Tryz.prog 93 #[.agg #[.int .i64 C.length,.slice a 0 c],.slice al (jQ C).length cl] w fun e w'=>∃ v,e= .returned (.tuple #[v,.int .i64 0])/\aSy w' v (eO C)/\Below w.heap.size w w':=by
 have hc:Canon (jQ C):=by rw[<-rR];exact dA _
 have h:=bCt (List.replicate C.length true) (jQ C) a al c cl w (by simp;exact hn) (by rw[zC];exact hr) hl (aLq hc) (by have:=oM C;omega);obtain⟨m1,m2,m3⟩:=bBh C hn;have e1:(List.replicate C.length true).length=C.length:=by simp
 unfold bKh at h;rw[m3,e1,zC]at h;refine h.mono ?_;rintro e w' ⟨hb,⟨h1,_⟩|⟨_,h1,_⟩|⟨_,_,v,h1,a',c',rfl,hr',_⟩⟩
 ·rw[m1]at h1;cases h1
 ·exact absurd m2 h1
 ·exact⟨_,h1,⟨a',c',by rw[kJ],hr'⟩,hb⟩
theorem bFb (M:Nat) (F:Fam) (w:World) (hF:F.ok) (h0:0<F.N) (h:dU w M F):
  Calls Tryz.prog 41 #[.pointer (some ⟨M,0,none⟩)] w fun e w'=>∃ v,e= .returned (.tuple #[v,.int .i64 0])/\aSy w' v (eO F.C)/\Below w.heap.size w w':=by
 have hN:=hF.hN;have HF:=hid hF;obtain⟨a,c,m,hb,hf⟩:=h.form;have hk:=(Below.refl w.heap.size w).bMq (.cells #[.int .i64 0,.slice none 0 0] 111);have HM:=hid (h.later hk);have HR:=hid (Bx.new w _ rfl (.int .i64 0) (.slice none 0 0) 111);have HFA:=hid (hf.keep hk);have HK:=hid hk;have hML:=hb.lt;have m0:=(hb.later hk).c0;have m1:=(hb.later hk).c1;clear hb hf h hF hk;go_enter Tryz.func41,Tryz.ntmps41;go_wp2_with fail;refine(aKy F _ _ HF.o HFA.o).mono ?_;rintro e w1 ⟨rfl,hb⟩;have HM1:=hid (HM.o.later hb);have HR1:=hid (HR.o.later hb);have HK1:=hid (HK.o.on hb);clear hb HM HR HK HFA m0 m1;go_wp2_with fail;refine(bHm F.N _ h0 hN).mono ?_;rintro e w2 ⟨v2,rfl,ho,hb⟩;obtain⟨oa,oc,rfl,hro⟩:=ho.rd (by simp);have hk2:=hb.bMq (.cells #[.int .i64 F.N,.slice oa 1 oc] 111);have HX:Hid (FrS w (w2.alloc (.cells #[.int .i64 F.N,.slice oa 1 oc] 111)) M w2.heap.size F (.int .i64 0) (.slice none 0 0) (.int .i64 F.N) (.slice oa 1 oc)):=
  hid ⟨HR1.o.later hk2,Bx.new w2 _ rfl _ _ _,by have:=HR1.o.lt;have:=hb.size;omega,HM1.o.later hk2,hML,HK1.o.on hk2⟩
 have HRO:=hid (hro.keep ((Below.refl w2.heap.size w2).bMq (.cells #[.int .i64 F.N,.slice oa 1 oc] 111)));clear ho hb hro hk2 HR1 HM1 HK1;go_wp2_with fail;generalize w2.alloc (.cells #[.int .i64 F.N,.slice oa 1 oc] 111)=W0 at *;generalize w2.heap.size=X at *;have x0:=HX.o.x.c0;have x1:=HX.o.x.c1;have HRL:Hid ((aV (List.replicate F.N false)).length=1):=hid (by rw[nO _ h0 hN];rfl)
 go_cut [5] from 19 to 25 (fun v wx=>v= .int .i64 0/\ ∃a4 c4,FrS w wx M X F (.int .i64 0) (.slice none 0 0) (.int .i64 F.N) (.slice a4 0 c4)/\Rd wx a4 [])
 case first=>
  have HXD:=hid (HX.o.later (Below.refl _ _).drew);have HRD:=hid (HRO.o.keep (Below.refl _ _).drew)
  go_region_law (first
   |(go_simp;go_at_call 92;refine(bCn F.N [⟨0,F.N,0⟩] oa oc _ HRD.o (by simp)).mono ?_;rintro e w5 ⟨v5,rfl,ho5,hb5⟩;obtain⟨ra,rc,rfl,hrr⟩:=ho5.rd (by simp);have HX5:=hid (HXD.o.later hb5);have x0:=HX5.o.x.c0;have x1:=HX5.o.x.c1;have HRO5:=hid (HRD.o.keep hb5))
   |(go_simp;go_at_call 91;refine(bLg F.N h0 hN oa ra oc rc _ HRO5.o hrr).mono ?_;rintro e w6 ⟨a6,c6,rfl,hr6,hb6⟩;have HX6:=hid (HX5.o.later hb6);have x2:=HX6.o.x.c0;have x3:=HX6.o.x.c1;have x4:=HX6.o.x.f0;have x5:=HX6.o.x.f1))
  all_goals
   have HQ:=hid (HX6.o.putX (.int .i64 F.N) (.slice a6 0 c6));have HQR:=hid (HX6.o.x.rd (x:= .int .i64 F.N) (y:= .slice a6 0 c6) hr6);clear ho5 hb5 hrr hr6 hb6 HRO5 HX5 HX6 x0 x1 x2 x3 x4 x5;go_wp2_with fail;go_meet;exact⟨rfl,a6,c6,HQ.o,HQR.o⟩
 case rest=>
  obtain⟨rfl,a4,c4,hx,hr4⟩:=hcut;clear HX HRO;go_upto_region 7 with fail;have HX:=hid (hx.later (Below.refl _ _).drew);have HR4:=hid (hr4.keep (Below.refl _ _).drew);clear hx hr4;obtain⟨fa,fc,fm,hmb,hfa⟩:=HX.o.m.form;have HFA:=hid hfa;have x0:=HX.o.x.c0;have x1:=HX.o.x.c1;have m0:=hmb.c0;have m1:=hmb.c1;have HCL:=F.bMs;have HMB:=hid hmb;clear hmb hfa
  go_region_law (first
   |(go_simp;go_at_call 27;refine(aRp F _ _ HFA.o).mono ?_;rintro e w5 ⟨sv,rfl,ho5,hb5⟩;obtain⟨ra,rc,rfl,hrr⟩:=ho5.rd (by have:=oM F.C;omega);have HX5:=hid (HX.o.later hb5);have x0:=HX5.o.x.c0;have x1:=HX5.o.x.c1;have HR5:=hid (HR4.o.keep hb5);have m0:=(HMB.o.later hb5).c0;have m1:=(HMB.o.later hb5).c1)
   |(go_simp;go_at_call 93;have hg:=bLj F.C (by rw[HCL];exact hN) a4 ra c4 rc _ HR5.o hrr;rw[HCL]at hg;refine hg.mono ?_;rintro e w6 ⟨v6,rfl,⟨a6,c6,rfl,hr6⟩,hb6⟩;have HX6:=hid (HX5.o.later hb6);have x2:=HX6.o.r.c0;have x3:=HX6.o.r.c1;have x4:=HX6.o.r.f0;have x5:=HX6.o.r.f1))
  all_goals
   have HQR:=hid (HX6.o.r.rd (x:= .int .i64 (eO F.C).length) (y:= .slice a6 (aV (eO F.C)).length c6) hr6);have hq:=HX6.o.r.put (.int .i64 (eO F.C).length) (.slice a6 (aV (eO F.C)).length c6);have j0:=hq.c0;have j1:=hq.c1;have HB:=hid ((HX6.o.g.setCell (p:=⟨w.heap.size,0,none⟩) (by simp) (.int .i64 (eO F.C).length)).setCell (p:=⟨w.heap.size,1,none⟩) (by simp) (.slice a6 (aV (eO F.C)).length c6));clear ho5 hb5 hrr hr6 hb6 HX5 HX6 x0 x1 m0 m1 HR5 hq;go_wp2_with fail;refine bodyPost_ret (v:= .tuple #[.agg #[.int .i64 (eO F.C).length,.slice a6 (aV (eO F.C)).length c6],.int .i64 0]) ?_ rfl ⟨_,rfl,⟨a6,c6,rfl,HQR.o⟩,HB.o⟩;simp[results,Tryz.results41,go_sem,j0,j1]
end Go.Proofs.YtaiklhbakldfhaaGreat
