/-
  Own rows of blocks; tegularef38: Data, CanWrite, Change.
  tegularef38: Write.
  tegularef38: Writes.
  Conditions: as each theorem says.
-/
import Derived.Test.YtaiklhbakldfhaaGreatHN
import Derived.Test.YtaiklhbakldfhaaGreatHY
import Derived.Test.YtaiklhbakldfhaaGreatGJ
import Derived.ChangeKeysEq
namespace Go.Proofs.YtaiklhbakldfhaaGreat
open Go.Lib (hid)
set_option linter.unusedSimpArgs false
set_option linter.unusedVariables false
set_option maxRecDepth 100000
set_option maxHeartbeats 16000000
open Go.RowKit Go.Maps
def lK (w:World) (B:Nat) (v:Value) (l:List Bk):Prop:=w.ownsRow B 58 8 v l.length (l.flatMap Bk.cells)
theorem lK.keep {w w':World} {B:Nat} {v:Value} {l:List Bk} (h:lK w B v l) (hb:Below w.heap.size w w'):lK w' B v l:=
 World.ownsRow.kept h (row:=none) ⟨hb.os,hb.tape,hb.output,hb.size,fun k hk _=>hb.block k hk⟩ (by cases hv:v.ownBlock <;> simp)
theorem lK.rd {w:World} {B:Nat} {v:Value} {l:List Bk} (h:lK w B v l) (hl:l.length<=1000000):∃ a c,v= .slice a l.length c/\RdB w a l:=by
 rcases h.2 with ⟨rfl,hn⟩|⟨g,cap,cur,rfl,hb,hg,hn,hc,hs,ht⟩
 ·obtain rfl:=List.eq_nil_of_length_eq_zero hn;exact⟨_,_,rfl,by simp,.inl rfl⟩
 ·refine⟨_,_,rfl,hl,.inr ⟨g,0,rfl,fun k x hk=> ?_⟩⟩;have hk':k<l.length:=(List.getElem?_eq_some_iff.1 hk).1;have c:=fun j hj=>World.ownsRow.cellAt (cap:=cap) h j hj;have f:=fun j hj=>flat_get Bk.cells 8 (fun _=>rfl) l k x hk j hj;refine⟨?_,?_,?_,?_,?_,?_,?_,?_⟩
  ·rw[Nat.zero_add,c _ (by omega)];exact f 0 (by omega)
  ·rw[Nat.zero_add,c _ (by omega)];exact f 1 (by omega)
  ·rw[Nat.zero_add,c _ (by omega)];exact f 2 (by omega)
  ·rw[Nat.zero_add,c _ (by omega)];exact f 3 (by omega)
  ·rw[Nat.zero_add,c _ (by omega)];exact f 4 (by omega)
  ·rw[Nat.zero_add,c _ (by omega)];exact f 5 (by omega)
  ·rw[Nat.zero_add,c _ (by omega)];exact f 6 (by omega)
  ·rw[Nat.zero_add,c _ (by omega)];exact f 7 (by omega)
theorem aSz (n:Nat):(List.replicate n Bk.zero).flatMap Bk.cells=List.replicate (n*8) (.int .u8 0):=by
 induction n with
 |zero=>simp
 | succ n ih=>
  rw[List.replicate_succ,List.flatMap_cons,ih,show(n+1)*8=8+n*8 by omega,<-List.replicate_append_replicate];rfl
theorem aDo (n:Nat):(madeCells Bk.zero.v.cells (n*8)).toList=(List.replicate n Bk.zero).flatMap Bk.cells:=by
 rw[aSz]
 apply List.ext_getElem
 ·simp[madeCells]
 ·intro i h1 h2;simp only[List.length_replicate]at h2;rw[List.getElem_replicate];simp only[madeCells,Value.cells,Array.toList_map,List.getElem_map,Array.toList_range,List.getElem_range];have hi:i%8<8:=Nat.mod_lt _ (by omega);show(#[Value.int .u8 Bk.zero.x0,.int .u8 Bk.zero.x1,.int .u8 Bk.zero.x2,.int .u8 Bk.zero.x3,.int .u8 Bk.zero.x4,.int .u8 Bk.zero.x5,.int .u8 Bk.zero.x6,.int .u8 Bk.zero.x7]:Array Value)[i%8]! =_;generalize i%8=k at hi
  match k,hi with
  |0,_=>rfl
  |1,_=>rfl
  |2,_=>rfl
  |3,_=>rfl
  |4,_=>rfl
  |5,_=>rfl
  |6,_=>rfl
  |7,_=>rfl
theorem nW (w:World) {ops:Array Oper} {rest:List Oper} {o:Oper} {a:Act} {Q:Exit->Act->World->Prop}
  (hg:o.guard=none) (l c:Operand) (t:TypeId) (hop:o.op=Op.makeSlice t l c) (h1:Tryz.prog.underlying t=some (.slice 58)) (kl kc:IntKind) (n:Nat) (hl:a.eval l= .int kl n) (hc:a.eval c= .int kc n) (hn:n<=65536) (B G:Nat) (hG:w.heap.size=G) (hB:B<=G)
  (hK:∀ w',lK w' B (.slice (some ⟨G,0,none⟩) n n) (List.replicate n Bk.zero)->Below w.heap.size w w'->G<w'.heap.size->wpList Tryz.prog ops Q rest (a.put o.dst (.slice (some ⟨G,0,none⟩) n n)) w'):
  wpList Tryz.prog ops Q (o::rest) a w:=by
 subst hG;obtain⟨i0,hi,hz0,hz1,hz2⟩:=info_parts bKk;refine wpList_make_full w hg l c t hop B 58 i0 Bk.zero.v 8 h1 hi hz0 hz1 kl kc n n n hl hc rfl rfl (by rw[hz2];omega) (by unfold maxLen;omega) hB fun w' ho hgr=> ?_;refine hK w' ?_ (lT hgr) ?_
 ·unfold lK;rw[List.length_replicate,<-aDo];exact ho
 rcases ho.2 with ⟨h,_⟩|⟨g,cap,cur,h,_,hgg,_⟩
 ·cases h
 ·injection h with h;injection h with h;injection h with h;subst h;exact(Array.getElem?_eq_some_iff.1 hgg).1
theorem aZk (D:List Bk) (k:Nat) (h:k<D.length) (x:Bk):
  ((((((((D.flatMap Bk.cells).set (k*8) (.int .u8 x.x0)).set (k*8+1) (.int .u8 x.x1)).set (k*8+2) (.int .u8 x.x2)).set (k*8+3) (.int .u8 x.x3)).set (k*8+4) (.int .u8 x.x4)).set (k*8+5) (.int .u8 x.x5)).set (k*8+6) (.int .u8 x.x6)).set (k*8+7) (.int .u8 x.x7)=(D.set k x).flatMap Bk.cells:=by
 have e1:D=D.take k++D[k]::D.drop (k+1):=by rw[<-List.drop_eq_getElem_cons h,List.take_append_drop]
 have e2:D.set k x=D.take k++x::D.drop (k+1):=by rw[List.set_eq_take_append_cons_drop,if_pos h]
 obtain⟨A,hA⟩:∃ A,(D.take k).flatMap Bk.cells=A:=⟨_,rfl⟩;have hl:A.length=k*8:=by rw[<-hA,aRl Bk.cells 8 (fun _=>rfl),List.length_take,Nat.min_eq_left (by omega)]
 have e3:D.flatMap Bk.cells=A++(D[k].cells++(D.drop (k+1)).flatMap Bk.cells):=by
  conv=>lhs;rw[e1]
  rw[List.flatMap_append,hA,List.flatMap_cons]
 have hs:∀ (c:List Value) (j:Nat) (v:Value),(A++c).set (k*8+j) v=A++c.set j v:=fun c j v=>by
  rw[List.set_append_right _ _ (by omega),hl,Nat.add_sub_cancel_left]
 have h0:∀ (c:List Value) (v:Value),(A++c).set (k*8) v=A++c.set 0 v:=fun c v=>hs c 0 v;rw[e2,e3,List.flatMap_append,hA,List.flatMap_cons,h0,hs,hs,hs,hs,hs,hs,hs];rfl
theorem lK.put {w:World} {B g c n:Nat} {M:List Bk} (hn:n=M.length) (h:lK w B (.slice (some ⟨g,0,none⟩) n c) M) (k:Nat) (hk:k<M.length) (x:Bk) (w':World)
  (hw:w'=(((((((w.setCell ⟨g,k*8,none⟩ (.int .u8 x.x0)).setCell ⟨g,k*8+1,none⟩ (.int .u8 x.x1)).setCell ⟨g,k*8+2,none⟩ (.int .u8 x.x2)).setCell ⟨g,k*8+3,none⟩ (.int .u8 x.x3)).setCell ⟨g,k*8+4,none⟩ (.int .u8 x.x4)).setCell ⟨g,k*8+5,none⟩ (.int .u8 x.x5)).setCell ⟨g,k*8+6,none⟩ (.int .u8 x.x6)).setCell ⟨g,k*8+7,none⟩ (.int .u8 x.x7)):
  lK w' B (.slice (some ⟨g,0,none⟩) n c) (M.set k x)/\w.grownBy w' (some g):=by
 subst hn;obtain⟨s1,g1⟩:=World.ownsRow.stored h (k*8) (.int .u8 x.x0);obtain⟨s2,g2⟩:=s1.stored (k*8+1) (.int .u8 x.x1);obtain⟨s3,g3⟩:=s2.stored (k*8+2) (.int .u8 x.x2);obtain⟨s4,g4⟩:=s3.stored (k*8+3) (.int .u8 x.x3);obtain⟨s5,g5⟩:=s4.stored (k*8+4) (.int .u8 x.x4);obtain⟨s6,g6⟩:=s5.stored (k*8+5) (.int .u8 x.x5);obtain⟨s7,g7⟩:=s6.stored (k*8+6) (.int .u8 x.x6);obtain⟨s8,g8⟩:=s7.stored (k*8+7) (.int .u8 x.x7);rw[aZk M k hk x]at s8;subst hw;refine⟨?_,((((((g1.next g2).next g3).next g4).next g5).next g6).next g7).next g8⟩;unfold lK;rw[List.length_set];exact s8
theorem lK.cells {w:World} {B g c n:Nat} {M:List Bk} (hn:n=M.length) (h:lK w B (.slice (some ⟨g,0,none⟩) n c) M) (k:Nat) (hk:k<M.length) (j:Nat) (hj:j<8):∃ u,w.cell? ⟨g,k*8+j,none⟩=some u/\w.frozen? ⟨g,k*8+j,none⟩=false:=by
 subst hn;have hl:(M.flatMap Bk.cells).length=M.length*8:=aRl Bk.cells 8 (fun _=>rfl) M;refine⟨(M.flatMap Bk.cells)[k*8+j]'(by omega),?_,World.ownsRow.frozenAt h _⟩;rw[World.ownsRow.cellAt h _ (by omega),List.getElem?_eq_getElem (by omega)]
def yK (s:aW):List Bk:=(List.range (s.n%20).toNat).map fun i:Nat=>⟨s.s,i,s.a,0,0,0,0,0⟩
theorem aCn (s:aW):(yK s).length=(s.n%20).toNat:=by simp[yK]
def aLh (s:aW) (i:Nat):Bk:=⟨s.s,i,s.a,0,0,0,0,0⟩
theorem bGr (s:aW):yK s=(List.range (s.n%20).toNat).map (aLh s):=rfl
theorem bEm (f:Nat->Bk) (m j:Nat) (h:j<m):((List.range j).map f++List.replicate (m-j) Bk.zero).set j (f j)=(List.range (j+1)).map f++List.replicate (m-(j+1)) Bk.zero:=by
 obtain⟨r,hr⟩:∃ r,m-j=r+1:=⟨m-j-1,by omega⟩;rw[hr,show m-(j+1)=r by omega,List.set_append_right _ _ (by simp),List.range_succ,List.map_append,List.replicate_succ];simp
theorem SX.grown {W W':World} {X:Nat} {s:aW} {row:Option Nat} (h:SX W X s) (hg:W.grownBy W' row) (hne:row≠some X):SX W' X s:=
 ⟨hg.cell h.s0 fun e=>hne e.symm,hg.cell h.s1 fun e=>hne e.symm,hg.cell h.s2 fun e=>hne e.symm,hg.cell h.s3 fun e=>hne e.symm,hg.cell h.s4 fun e=>hne e.symm,hg.cell h.s5 fun e=>hne e.symm⟩
theorem aCo (s:aW) (w:World) (hs:s.ok):Calls Tryz.prog 49 #[s.val] w fun e w'=>∃ a c,e= .returned (.slice a (yK s).length c)/\RdB w' a (yK s)/\Below w.heap.size w w':=by
 have bn:=hs.n;have bs:=hs.s;have ba:=hs.a;obtain⟨m,hm⟩:∃ m:Nat,s.n%20=m:=⟨(s.n%20).toNat,by omega⟩;have hm2:m<20:=by omega
 have HM:=hid hm;have HDL:Hid (yK s=(List.range m).map (aLh s)):=hid (by rw[bGr,hm,Int.toNat_natCast]);have HX:=hid (SX.new w _ rfl s 66);have HB:=hid ((Below.refl w.heap.size w).bMq (.cells #[.int .u8 s.k,.int .u8 s.v,.int .u8 s.o,.int .u8 s.a,.int .u8 s.n,.int .u8 s.s] 66));clear hs hm;go_enter Tryz.func49,Tryz.ntmps49;have s4:=HX.o.s4
 go_upto_region 2 with (at_make;(refine nW _ rfl _ _ 56 rfl Tryz.underlying56 _ _ m (congrArg (Value.int .u8) HM.o) (congrArg (Value.int .u8) HM.o) (by omega) w.heap.size (w.heap.size+1) (by simp) (by omega) ?_);intro w1 ho1 hb1 hz1)
 have HX1:=hid (HX.o.later hb1);have HB1:=hid (HB.o.on hb1);have HO:=hid ho1;clear s4 HX HB ho1 hb1;go_wp2_with fail;go_loopw [4] (fun i wr=>∃ j:Nat,j<=m/\i= .int .i64 j/\lK wr w.heap.size (.slice (some ⟨w.heap.size+1,0,none⟩) m m) ((List.range j).map (aLh s)++List.replicate (m-j) Bk.zero)/\SX wr w.heap.size s/\Below w.heap.size w wr) (fun i _=>m-(intOf i).toNat)
 case atStart=>exact⟨0,Nat.zero_le _,rfl,HO.o,HX1.o,HB1.o⟩
 case round=>
  clear HO HX1 HB1;obtain⟨j,hj,rfl,ho,hx,hb⟩:=hrel;have hlen:((List.range j).map (aLh s)++List.replicate (m-j) Bk.zero).length=m:=by simp;omega
  have HO:=hid ho;have HX:=hid hx;have HB:=hid hb;clear ho hx hb;by_cases hlt:j<m
  ·have hj0:(0:Int)<=j:=by omega
   have hj1:(j:Int)<m:=by omega
   have hjw:(j:Int)%256=j:=by omega
   have s3:=HX.o.s3;have s5:=HX.o.s5;obtain⟨u0,c0,f0⟩:=lK.cells hlen.symm HO.o j (by omega) 0 (by omega);obtain⟨u1,c1,f1⟩:=lK.cells hlen.symm HO.o j (by omega) 1 (by omega);obtain⟨u2,c2,f2⟩:=lK.cells hlen.symm HO.o j (by omega) 2 (by omega);obtain⟨u3,c3,f3⟩:=lK.cells hlen.symm HO.o j (by omega) 3 (by omega);obtain⟨u4,c4,f4⟩:=lK.cells hlen.symm HO.o j (by omega) 4 (by omega);obtain⟨u5,c5,f5⟩:=lK.cells hlen.symm HO.o j (by omega) 5 (by omega);obtain⟨u6,c6,f6⟩:=lK.cells hlen.symm HO.o j (by omega) 6 (by omega);obtain⟨u7,c7,f7⟩:=lK.cells hlen.symm HO.o j (by omega) 7 (by omega);simp only[Nat.add_zero]at c0 f0;have HPT:=hid (fun W hW=>lK.put hlen.symm HO.o j (by omega) (aLh s j) W hW);rw[bEm (aLh s) m j hlt]at HPT;clear hlen;go_wp2_with fail;go_roundw
   case rel=>
    obtain⟨q1,q2⟩:=HPT.o _ rfl;exact⟨j+1,by omega,by go_num,q1,HX.o.grown q2 (by simp),HB.o.bMu q2 fun k hk=>by injection hk with hk;omega⟩
   case measure=>simp[intOf];omega
  ·obtain rfl:m=j:=by omega
   obtain⟨ra,rc,he,hr⟩:=HO.o.rd (by omega);rw[Nat.sub_self,List.replicate_zero,List.append_nil]at hr hlen;have HR:=hid hr;have HE:Hid (some (⟨w.heap.size+1,0,none⟩:Addr)=ra):=hid (by injection he);have HL:Hid ((yK s).length=m):=hid (by rw[HDL.o];simp);clear he hr hlen;go_wp2_with fail;go_ret;exact⟨ra,m,by rw[HL.o,HE.o];rfl,by rw[HDL.o];exact HR.o,HB.o⟩
theorem bAj {F:Fam} {nm:List UInt8} (p n:Int) (h:aP F.vs nm=none):jR F nm p n=9:=by
 unfold jR eP;rw[h];simp
theorem bEg {F:Fam} {nm:List UInt8} {v:Vol} (p n:Int) (h:aP F.vs nm=some v) (hn:¬ (1<=n/\n<=16)):jR F nm p n=1:=by
 unfold jR eP;rw[h];simp[hn]
theorem aGa {F:Fam} {nm:List UInt8} {v:Vol} (p n:Int) (h:aP F.vs nm=some v) (hn:1<=n/\n<=16):jR F nm p n=fM F nm p n:=by
 unfold jR eP;rw[h];simp[hn]
theorem aRz (F:Fam) (q:Int) (gv:Value) (nm:List UInt8) (p n:Int) (w:World) (hF:F.ok) (hs:∀ v∈F.vs,v.l.length<=9000) (h:bI w gv F) (hnm:nm.length<=maxLen) (hq:jR F nm p n=q):
  Calls Tryz.prog 50 #[gv,nmV nm,.int .i64 p,.int .i64 n] w fun e w'=>e= .returned (.int .i64 q)/\Below w.heap.size w w':=by
 have HFM:=h;obtain⟨a,c,ts,rfl,hr,hl,hts,_⟩:=h;have HH:=hid (QM.init w _ _ F HFM);have HR:=hid hr;have HF:=hid hF;have HS:=hid hs
 cases hg:aP F.vs nm with
 | none=>
  rw[bAj p n hg]at hq;subst hq;have HAT:=hid (mO hts hg);clear hg hr hl hts hF hs HFM;go_enter Tryz.func50,Tryz.ntmps50;have b0:=HH.o.b0;have b1:=HH.o.b1;go_wp2_with fail;refine(gU F.N ts nm a c _ (HR.o.keep HH.o.B) _ HAT.o).mono ?_;rintro e w1 ⟨rfl,hb⟩;have hB:=HH.o.B.on hb;clear hb b0 b1;go_wp2_with fail;go_ret;exact⟨rfl,hB⟩
 | some v=>
  obtain ⟨k,HAT⟩:∃ k:Nat,Hid (atC ts nm=k):=by
   obtain⟨k,_,hat,_,_⟩:=gQ hts hg;exact⟨k,hid hat⟩
  by_cases hn:1<=n/\n<=16
  ·rw[aGa p n hg hn]at hq;have HQ:=hid hq;obtain⟨n1,n2⟩:=hn;clear hg hr hl hts hF hs HFM hq;go_enter Tryz.func50,Tryz.ntmps50;have b0:=HH.o.b0;have b1:=HH.o.b1;go_wp2_with fail;refine(gU F.N ts nm a c _ (HR.o.keep HH.o.B) _ HAT.o).mono ?_;rintro e w1 ⟨rfl,hb⟩;have HH:=hid (HH.o.later hb);clear hb b0 b1;have b0:=HH.o.b0;have b1:=HH.o.b1;go_wp2_with fail;refine(bAd F q _ nm p n _ HF.o HS.o HH.o.fam hnm HQ.o).mono ?_;rintro e w2 ⟨rfl,hb⟩;have hB:=HH.o.B.on hb;clear hb b0 b1;go_wp2_with fail;go_ret;exact⟨rfl,hB⟩
  ·rw [bEg p n hg hn]at hq;subst hq;clear hg hr hl hts hF hs HFM;have hc:n<1∨(1<=n/\16<n):=by omega
   clear hn;rcases hc with hn|⟨hn,hn2⟩
   all_goals
    go_enter Tryz.func50,Tryz.ntmps50;have b0:=HH.o.b0;have b1:=HH.o.b1;go_wp2_with fail;refine(gU F.N ts nm a c _ (HR.o.keep HH.o.B) _ HAT.o).mono ?_;rintro e w1 ⟨rfl,hb⟩;have hB:=HH.o.B.on hb;clear hb b0 b1;go_wp2_with fail;go_ret;exact⟨rfl,hB⟩
def yE (F:Fam) (s:aW):Int:=if s.k%8=0 then eQ F s.n s.a else if s.k%8=1 then fB F (aY s.v)else 0
def aEi (F:Fam) (s:aW):Fam × Int:=if (iB F s).2.2≠0 then (F,(iB F s).2.2)else if yE F s≠0 then (F,yE F s)else ((iB F s).1,0)
theorem aSl (F:Fam) (gv:Value) (s:aW) (w:World) (hF:F.ok) (h:bI w gv F) (hs:s.ok):
  Calls Tryz.prog 53 #[gv,s.val] w (bKb w (aEi F s).1 (aEi F s).2):=by
 obtain⟨a,n,c,rfl⟩:=h.form;have HH:=hid (PH.init w _ 31 66 (.int .i64 F.N) (.slice a n c) (.int .i64 0) (.slice none 0 0) s rfl);have HFAM:=hid h;have HF:=hid hF;obtain⟨nm,hnm,hnl⟩:∃ nm,aY s.v=nm/\nm.length<=maxLen:=⟨_,rfl,xL _⟩;have HNM:=hid hnm;have HS:=hid hs;have bk:=hs.k;have ba:=hs.a;have bn:=hs.n;have HRA:=hid (fun W h=>bAb F (.agg #[.int .i64 F.N,.slice a n c]) s W HF.o h HS.o);obtain⟨G,L,x,hst⟩:∃ G L x,iB F s=(G,L,x):=⟨_,_,_,rfl⟩;have hch:aEi F s=if x≠0 then (F,x)else if yE F s≠0 then (F,yE F s)else (G,0):=by unfold aEi;rw[hst]
 rw[hst]at HRA;rw[hch];clear h hF hs hst hch;by_cases hx:x=0
 ·subst hx;rw[if_neg (by simp)];by_cases h0:s.k%8=0
  ·obtain ⟨q,hq⟩:∃ q,eQ F s.n s.a=q:=⟨_,rfl⟩;have hce:yE F s=q:=by unfold yE;rw[if_pos h0,hq]
   rw[hce];have HQ:=hid (fun W h=>aUk F q (.agg #[.int .i64 F.N,.slice a n c]) s.n s.a W HF.o h hq);have e0:(s.k%8==0)=true:=by simpa using h0
   clear hq hce h0;by_cases hz:q=0
   ·subst hz;rw[if_neg (by simp)];go_enter Tryz.func53,Tryz.ntmps53;have b0:=HH.o.fb.c0;have b1:=HH.o.fb.c1;have s0:=HH.o.sx.s0;have s1:=HH.o.sx.s1;have s2:=HH.o.sx.s2;have s3:=HH.o.sx.s3;have s4:=HH.o.sx.s4;have s5:=HH.o.sx.s5;have r0:=HH.o.rb.c0;have r1:=HH.o.rb.c1;have f0:=HH.o.rb.f0;have f1:=HH.o.rb.f1;go_wp2_with fail;refine(HRA.o _ (HFAM.o.keep HH.o.B)).mono ?_;rintro e w1 ⟨gv,sv,rfl,hg,_,hb⟩;obtain⟨ga,gn,gc,rfl⟩:=hg.form;have hk:=hb.bMq (.cells #[.int .i64 G.N,.slice ga gn gc] 31);have HG:=hid (hg.keep ((Below.refl w1.heap.size w1).bMq (.cells #[.int .i64 G.N,.slice ga gn gc] 31)));have HX:=hid (Bx.new w1 _ rfl (.int .i64 G.N) (.slice ga gn gc) 31);have HH:=hid (HH.o.later hk);clear hb hg hk b0 b1 s0 s1 s2 s3 s4 s5 r0 r1 f0 f1;have b0:=HH.o.fb.c0;have b1:=HH.o.fb.c1;have s0:=HH.o.sx.s0;have s1:=HH.o.sx.s1;have s2:=HH.o.sx.s2;have s3:=HH.o.sx.s3;have s4:=HH.o.sx.s4;have s5:=HH.o.sx.s5;have r0:=HH.o.rb.c0;have r1:=HH.o.rb.c1;have f0:=HH.o.rb.f0;have f1:=HH.o.rb.f1;have t0:=HX.o.c0;have t1:=HX.o.c1;go_wp2_with fail;refine(dZ s.v nm _ HS.o.v HNM.o).mono ?_;rintro e w2 ⟨rfl,hb⟩;have HG:=hid (HG.o.keep hb);have HX:=hid (HX.o.later hb);have HH:=hid (HH.o.later hb);clear hb b0 b1 s0 s1 s2 s3 s4 s5 r0 r1 f0 f1 t0 t1;have b0:=HH.o.fb.c0;have b1:=HH.o.fb.c1;have s0:=HH.o.sx.s0;have s1:=HH.o.sx.s1;have s2:=HH.o.sx.s2;have s3:=HH.o.sx.s3;have s4:=HH.o.sx.s4;have s5:=HH.o.sx.s5;have r0:=HH.o.rb.c0;have r1:=HH.o.rb.c1;have f0:=HH.o.rb.f0;have f1:=HH.o.rb.f1;have t0:=HX.o.c0;have t1:=HX.o.c1;go_wp2_with fail;refine(HQ.o _ (HFAM.o.keep HH.o.B)).mono ?_;rintro e w3 ⟨rfl,hb⟩;have HG:=hid (HG.o.keep hb);have HX:=hid (HX.o.later hb);have HH:=hid (HH.o.later hb);clear hb b0 b1 s0 s1 s2 s3 s4 s5 r0 r1 f0 f1 t0 t1;have b0:=HH.o.fb.c0;have b1:=HH.o.fb.c1;have s0:=HH.o.sx.s0;have s1:=HH.o.sx.s1;have s2:=HH.o.sx.s2;have s3:=HH.o.sx.s3;have s4:=HH.o.sx.s4;have s5:=HH.o.sx.s5;have r0:=HH.o.rb.c0;have r1:=HH.o.rb.c1;have f0:=HH.o.rb.f0;have f1:=HH.o.rb.f1;have t0:=HX.o.c0;have t1:=HX.o.c1;go_wp2_with fail;have j0:=(HH.o.rb.put (.int .i64 G.N) (.slice ga gn gc)).c0;have j1:=(HH.o.rb.put (.int .i64 G.N) (.slice ga gn gc)).c1
    (try simp only[Exit.inBlock,Exit.then])
    refine bodyPost_ret (v:= .tuple #[.agg #[.int .i64 G.N,.slice ga gn gc],.int .i64 0]) (by first|(rw[results_cell_tmp rfl];go_simp;done)|(rw[aB rfl];go_simp;done)|(rw[aA rfl];go_simp;done)) rfl ?_;exact⟨_,rfl,HH.o.rb.famR HG.o,HH.o.below _ _⟩
   ·have hzb:(q != 0)=true:=by simpa using hz
    rw[if_pos hz];clear hz;go_enter Tryz.func53,Tryz.ntmps53;have b0:=HH.o.fb.c0;have b1:=HH.o.fb.c1;have s0:=HH.o.sx.s0;have s1:=HH.o.sx.s1;have s2:=HH.o.sx.s2;have s3:=HH.o.sx.s3;have s4:=HH.o.sx.s4;have s5:=HH.o.sx.s5;have r0:=HH.o.rb.c0;have r1:=HH.o.rb.c1;have f0:=HH.o.rb.f0;have f1:=HH.o.rb.f1;go_wp2_with fail;refine(HRA.o _ (HFAM.o.keep HH.o.B)).mono ?_;rintro e w1 ⟨gv,sv,rfl,hg,_,hb⟩;obtain⟨ga,gn,gc,rfl⟩:=hg.form;have hk:=hb.bMq (.cells #[.int .i64 G.N,.slice ga gn gc] 31);have HG:=hid (hg.keep ((Below.refl w1.heap.size w1).bMq (.cells #[.int .i64 G.N,.slice ga gn gc] 31)));have HX:=hid (Bx.new w1 _ rfl (.int .i64 G.N) (.slice ga gn gc) 31);have HH:=hid (HH.o.later hk);clear hb hg hk b0 b1 s0 s1 s2 s3 s4 s5 r0 r1 f0 f1;have b0:=HH.o.fb.c0;have b1:=HH.o.fb.c1;have s0:=HH.o.sx.s0;have s1:=HH.o.sx.s1;have s2:=HH.o.sx.s2;have s3:=HH.o.sx.s3;have s4:=HH.o.sx.s4;have s5:=HH.o.sx.s5;have r0:=HH.o.rb.c0;have r1:=HH.o.rb.c1;have f0:=HH.o.rb.f0;have f1:=HH.o.rb.f1;have t0:=HX.o.c0;have t1:=HX.o.c1;go_wp2_with fail;refine(dZ s.v nm _ HS.o.v HNM.o).mono ?_;rintro e w2 ⟨rfl,hb⟩;have HG:=hid (HG.o.keep hb);have HX:=hid (HX.o.later hb);have HH:=hid (HH.o.later hb);clear hb b0 b1 s0 s1 s2 s3 s4 s5 r0 r1 f0 f1 t0 t1;have b0:=HH.o.fb.c0;have b1:=HH.o.fb.c1;have s0:=HH.o.sx.s0;have s1:=HH.o.sx.s1;have s2:=HH.o.sx.s2;have s3:=HH.o.sx.s3;have s4:=HH.o.sx.s4;have s5:=HH.o.sx.s5;have r0:=HH.o.rb.c0;have r1:=HH.o.rb.c1;have f0:=HH.o.rb.f0;have f1:=HH.o.rb.f1;have t0:=HX.o.c0;have t1:=HX.o.c1;go_wp2_with fail;refine(HQ.o _ (HFAM.o.keep HH.o.B)).mono ?_;rintro e w3 ⟨rfl,hb⟩;have HG:=hid (HG.o.keep hb);have HX:=hid (HX.o.later hb);have HH:=hid (HH.o.later hb);clear hb b0 b1 s0 s1 s2 s3 s4 s5 r0 r1 f0 f1 t0 t1;have b0:=HH.o.fb.c0;have b1:=HH.o.fb.c1;have s0:=HH.o.sx.s0;have s1:=HH.o.sx.s1;have s2:=HH.o.sx.s2;have s3:=HH.o.sx.s3;have s4:=HH.o.sx.s4;have s5:=HH.o.sx.s5;have r0:=HH.o.rb.c0;have r1:=HH.o.rb.c1;have f0:=HH.o.rb.f0;have f1:=HH.o.rb.f1;have t0:=HX.o.c0;have t1:=HX.o.c1;go_wp2_with fail;have j0:=(HH.o.rb.put (.int .i64 F.N) (.slice a n c)).c0;have j1:=(HH.o.rb.put (.int .i64 F.N) (.slice a n c)).c1
    (try simp only[Exit.inBlock,Exit.then])
    refine bodyPost_ret (v:= .tuple #[.agg #[.int .i64 F.N,.slice a n c],.int .i64 q]) (by first|(rw[results_cell_tmp rfl];go_simp;done)|(rw[aB rfl];go_simp;done)|(rw[aA rfl];go_simp;done)) rfl ?_;exact⟨_,rfl,HH.o.rb.famR (HFAM.o.keep HH.o.B),HH.o.below _ _⟩
  ·have e0:(s.k%8==0)=false:=by simpa using h0
   by_cases h1:s.k%8=1
   ·obtain ⟨q,hq⟩:∃ q,fB F nm=q:=⟨_,rfl⟩;have hce:yE F s=q:=by unfold yE;rw[if_neg h0,if_pos h1,hnm,hq]
    rw[hce];have HQ:=hid (fun W h=>bAe F q (.agg #[.int .i64 F.N,.slice a n c]) nm W HF.o h hnl hq);have e1:(s.k%8==1)=true:=by simpa using h1
    clear hq hce h0 h1 hnm;by_cases hz:q=0
    ·subst hz;rw[if_neg (by simp)];go_enter Tryz.func53,Tryz.ntmps53;have b0:=HH.o.fb.c0;have b1:=HH.o.fb.c1;have s0:=HH.o.sx.s0;have s1:=HH.o.sx.s1;have s2:=HH.o.sx.s2;have s3:=HH.o.sx.s3;have s4:=HH.o.sx.s4;have s5:=HH.o.sx.s5;have r0:=HH.o.rb.c0;have r1:=HH.o.rb.c1;have f0:=HH.o.rb.f0;have f1:=HH.o.rb.f1;go_wp2_with fail;refine(HRA.o _ (HFAM.o.keep HH.o.B)).mono ?_;rintro e w1 ⟨gv,sv,rfl,hg,_,hb⟩;obtain⟨ga,gn,gc,rfl⟩:=hg.form;have hk:=hb.bMq (.cells #[.int .i64 G.N,.slice ga gn gc] 31);have HG:=hid (hg.keep ((Below.refl w1.heap.size w1).bMq (.cells #[.int .i64 G.N,.slice ga gn gc] 31)));have HX:=hid (Bx.new w1 _ rfl (.int .i64 G.N) (.slice ga gn gc) 31);have HH:=hid (HH.o.later hk);clear hb hg hk b0 b1 s0 s1 s2 s3 s4 s5 r0 r1 f0 f1;have b0:=HH.o.fb.c0;have b1:=HH.o.fb.c1;have s0:=HH.o.sx.s0;have s1:=HH.o.sx.s1;have s2:=HH.o.sx.s2;have s3:=HH.o.sx.s3;have s4:=HH.o.sx.s4;have s5:=HH.o.sx.s5;have r0:=HH.o.rb.c0;have r1:=HH.o.rb.c1;have f0:=HH.o.rb.f0;have f1:=HH.o.rb.f1;have t0:=HX.o.c0;have t1:=HX.o.c1;go_wp2_with fail;refine(dZ s.v nm _ HS.o.v HNM.o).mono ?_;rintro e w2 ⟨rfl,hb⟩;have HG:=hid (HG.o.keep hb);have HX:=hid (HX.o.later hb);have HH:=hid (HH.o.later hb);clear hb b0 b1 s0 s1 s2 s3 s4 s5 r0 r1 f0 f1 t0 t1;have b0:=HH.o.fb.c0;have b1:=HH.o.fb.c1;have s0:=HH.o.sx.s0;have s1:=HH.o.sx.s1;have s2:=HH.o.sx.s2;have s3:=HH.o.sx.s3;have s4:=HH.o.sx.s4;have s5:=HH.o.sx.s5;have r0:=HH.o.rb.c0;have r1:=HH.o.rb.c1;have f0:=HH.o.rb.f0;have f1:=HH.o.rb.f1;have t0:=HX.o.c0;have t1:=HX.o.c1;go_wp2_with fail;refine(HQ.o _ (HFAM.o.keep HH.o.B)).mono ?_;rintro e w3 ⟨rfl,hb⟩;have HG:=hid (HG.o.keep hb);have HX:=hid (HX.o.later hb);have HH:=hid (HH.o.later hb);clear hb b0 b1 s0 s1 s2 s3 s4 s5 r0 r1 f0 f1 t0 t1;have b0:=HH.o.fb.c0;have b1:=HH.o.fb.c1;have s0:=HH.o.sx.s0;have s1:=HH.o.sx.s1;have s2:=HH.o.sx.s2;have s3:=HH.o.sx.s3;have s4:=HH.o.sx.s4;have s5:=HH.o.sx.s5;have r0:=HH.o.rb.c0;have r1:=HH.o.rb.c1;have f0:=HH.o.rb.f0;have f1:=HH.o.rb.f1;have t0:=HX.o.c0;have t1:=HX.o.c1;go_wp2_with fail;have j0:=(HH.o.rb.put (.int .i64 G.N) (.slice ga gn gc)).c0;have j1:=(HH.o.rb.put (.int .i64 G.N) (.slice ga gn gc)).c1
     (try simp only[Exit.inBlock,Exit.then])
     refine bodyPost_ret (v:= .tuple #[.agg #[.int .i64 G.N,.slice ga gn gc],.int .i64 0]) (by first|(rw[results_cell_tmp rfl];go_simp;done)|(rw[aB rfl];go_simp;done)|(rw[aA rfl];go_simp;done)) rfl ?_;exact⟨_,rfl,HH.o.rb.famR HG.o,HH.o.below _ _⟩
    ·have hzb:(q != 0)=true:=by simpa using hz
     rw[if_pos hz];clear hz;go_enter Tryz.func53,Tryz.ntmps53;have b0:=HH.o.fb.c0;have b1:=HH.o.fb.c1;have s0:=HH.o.sx.s0;have s1:=HH.o.sx.s1;have s2:=HH.o.sx.s2;have s3:=HH.o.sx.s3;have s4:=HH.o.sx.s4;have s5:=HH.o.sx.s5;have r0:=HH.o.rb.c0;have r1:=HH.o.rb.c1;have f0:=HH.o.rb.f0;have f1:=HH.o.rb.f1;go_wp2_with fail;refine(HRA.o _ (HFAM.o.keep HH.o.B)).mono ?_;rintro e w1 ⟨gv,sv,rfl,hg,_,hb⟩;obtain⟨ga,gn,gc,rfl⟩:=hg.form;have hk:=hb.bMq (.cells #[.int .i64 G.N,.slice ga gn gc] 31);have HG:=hid (hg.keep ((Below.refl w1.heap.size w1).bMq (.cells #[.int .i64 G.N,.slice ga gn gc] 31)));have HX:=hid (Bx.new w1 _ rfl (.int .i64 G.N) (.slice ga gn gc) 31);have HH:=hid (HH.o.later hk);clear hb hg hk b0 b1 s0 s1 s2 s3 s4 s5 r0 r1 f0 f1;have b0:=HH.o.fb.c0;have b1:=HH.o.fb.c1;have s0:=HH.o.sx.s0;have s1:=HH.o.sx.s1;have s2:=HH.o.sx.s2;have s3:=HH.o.sx.s3;have s4:=HH.o.sx.s4;have s5:=HH.o.sx.s5;have r0:=HH.o.rb.c0;have r1:=HH.o.rb.c1;have f0:=HH.o.rb.f0;have f1:=HH.o.rb.f1;have t0:=HX.o.c0;have t1:=HX.o.c1;go_wp2_with fail;refine(dZ s.v nm _ HS.o.v HNM.o).mono ?_;rintro e w2 ⟨rfl,hb⟩;have HG:=hid (HG.o.keep hb);have HX:=hid (HX.o.later hb);have HH:=hid (HH.o.later hb);clear hb b0 b1 s0 s1 s2 s3 s4 s5 r0 r1 f0 f1 t0 t1;have b0:=HH.o.fb.c0;have b1:=HH.o.fb.c1;have s0:=HH.o.sx.s0;have s1:=HH.o.sx.s1;have s2:=HH.o.sx.s2;have s3:=HH.o.sx.s3;have s4:=HH.o.sx.s4;have s5:=HH.o.sx.s5;have r0:=HH.o.rb.c0;have r1:=HH.o.rb.c1;have f0:=HH.o.rb.f0;have f1:=HH.o.rb.f1;have t0:=HX.o.c0;have t1:=HX.o.c1;go_wp2_with fail;refine(HQ.o _ (HFAM.o.keep HH.o.B)).mono ?_;rintro e w3 ⟨rfl,hb⟩;have HG:=hid (HG.o.keep hb);have HX:=hid (HX.o.later hb);have HH:=hid (HH.o.later hb);clear hb b0 b1 s0 s1 s2 s3 s4 s5 r0 r1 f0 f1 t0 t1;have b0:=HH.o.fb.c0;have b1:=HH.o.fb.c1;have s0:=HH.o.sx.s0;have s1:=HH.o.sx.s1;have s2:=HH.o.sx.s2;have s3:=HH.o.sx.s3;have s4:=HH.o.sx.s4;have s5:=HH.o.sx.s5;have r0:=HH.o.rb.c0;have r1:=HH.o.rb.c1;have f0:=HH.o.rb.f0;have f1:=HH.o.rb.f1;have t0:=HX.o.c0;have t1:=HX.o.c1;go_wp2_with fail;have j0:=(HH.o.rb.put (.int .i64 F.N) (.slice a n c)).c0;have j1:=(HH.o.rb.put (.int .i64 F.N) (.slice a n c)).c1
     (try simp only[Exit.inBlock,Exit.then])
     refine bodyPost_ret (v:= .tuple #[.agg #[.int .i64 F.N,.slice a n c],.int .i64 q]) (by first|(rw[results_cell_tmp rfl];go_simp;done)|(rw[aB rfl];go_simp;done)|(rw[aA rfl];go_simp;done)) rfl ?_;exact⟨_,rfl,HH.o.rb.famR (HFAM.o.keep HH.o.B),HH.o.below _ _⟩
   ·have e1:(s.k%8==1)=false:=by simpa using h1
    have hce:yE F s=0:=by unfold yE;rw[if_neg h0,if_neg h1]
    rw[hce,if_neg (by simp)];clear hce h0 h1 hnm;go_enter Tryz.func53,Tryz.ntmps53;have b0:=HH.o.fb.c0;have b1:=HH.o.fb.c1;have s0:=HH.o.sx.s0;have s1:=HH.o.sx.s1;have s2:=HH.o.sx.s2;have s3:=HH.o.sx.s3;have s4:=HH.o.sx.s4;have s5:=HH.o.sx.s5;have r0:=HH.o.rb.c0;have r1:=HH.o.rb.c1;have f0:=HH.o.rb.f0;have f1:=HH.o.rb.f1;go_wp2_with fail;refine(HRA.o _ (HFAM.o.keep HH.o.B)).mono ?_;rintro e w1 ⟨gv,sv,rfl,hg,_,hb⟩;obtain⟨ga,gn,gc,rfl⟩:=hg.form;have hk:=hb.bMq (.cells #[.int .i64 G.N,.slice ga gn gc] 31);have HG:=hid (hg.keep ((Below.refl w1.heap.size w1).bMq (.cells #[.int .i64 G.N,.slice ga gn gc] 31)));have HX:=hid (Bx.new w1 _ rfl (.int .i64 G.N) (.slice ga gn gc) 31);have HH:=hid (HH.o.later hk);clear hb hg hk b0 b1 s0 s1 s2 s3 s4 s5 r0 r1 f0 f1;have b0:=HH.o.fb.c0;have b1:=HH.o.fb.c1;have s0:=HH.o.sx.s0;have s1:=HH.o.sx.s1;have s2:=HH.o.sx.s2;have s3:=HH.o.sx.s3;have s4:=HH.o.sx.s4;have s5:=HH.o.sx.s5;have r0:=HH.o.rb.c0;have r1:=HH.o.rb.c1;have f0:=HH.o.rb.f0;have f1:=HH.o.rb.f1;have t0:=HX.o.c0;have t1:=HX.o.c1;go_wp2_with fail;refine(dZ s.v nm _ HS.o.v HNM.o).mono ?_;rintro e w2 ⟨rfl,hb⟩;have HG:=hid (HG.o.keep hb);have HX:=hid (HX.o.later hb);have HH:=hid (HH.o.later hb);clear hb b0 b1 s0 s1 s2 s3 s4 s5 r0 r1 f0 f1 t0 t1;have b0:=HH.o.fb.c0;have b1:=HH.o.fb.c1;have s0:=HH.o.sx.s0;have s1:=HH.o.sx.s1;have s2:=HH.o.sx.s2;have s3:=HH.o.sx.s3;have s4:=HH.o.sx.s4;have s5:=HH.o.sx.s5;have r0:=HH.o.rb.c0;have r1:=HH.o.rb.c1;have f0:=HH.o.rb.f0;have f1:=HH.o.rb.f1;have t0:=HX.o.c0;have t1:=HX.o.c1;go_wp2_with fail;have j0:=(HH.o.rb.put (.int .i64 G.N) (.slice ga gn gc)).c0;have j1:=(HH.o.rb.put (.int .i64 G.N) (.slice ga gn gc)).c1
    (try simp only[Exit.inBlock,Exit.then])
    refine bodyPost_ret (v:= .tuple #[.agg #[.int .i64 G.N,.slice ga gn gc],.int .i64 0]) (by first|(rw[results_cell_tmp rfl];go_simp;done)|(rw[aB rfl];go_simp;done)|(rw[aA rfl];go_simp;done)) rfl ?_;exact⟨_,rfl,HH.o.rb.famR HG.o,HH.o.below _ _⟩
 ·have hxb:(x != 0)=true:=by simpa using hx
  rw[if_pos hx];clear hx hnm;go_enter Tryz.func53,Tryz.ntmps53;have b0:=HH.o.fb.c0;have b1:=HH.o.fb.c1;have s0:=HH.o.sx.s0;have s1:=HH.o.sx.s1;have s2:=HH.o.sx.s2;have s3:=HH.o.sx.s3;have s4:=HH.o.sx.s4;have s5:=HH.o.sx.s5;have r0:=HH.o.rb.c0;have r1:=HH.o.rb.c1;have f0:=HH.o.rb.f0;have f1:=HH.o.rb.f1;go_wp2_with fail;refine(HRA.o _ (HFAM.o.keep HH.o.B)).mono ?_;rintro e w1 ⟨gv,sv,rfl,hg,_,hb⟩;obtain⟨ga,gn,gc,rfl⟩:=hg.form;have hk:=hb.bMq (.cells #[.int .i64 G.N,.slice ga gn gc] 31);have HG:=hid (hg.keep ((Below.refl w1.heap.size w1).bMq (.cells #[.int .i64 G.N,.slice ga gn gc] 31)));have HX:=hid (Bx.new w1 _ rfl (.int .i64 G.N) (.slice ga gn gc) 31);have HH:=hid (HH.o.later hk);clear hb hg hk b0 b1 s0 s1 s2 s3 s4 s5 r0 r1 f0 f1;have b0:=HH.o.fb.c0;have b1:=HH.o.fb.c1;have s0:=HH.o.sx.s0;have s1:=HH.o.sx.s1;have s2:=HH.o.sx.s2;have s3:=HH.o.sx.s3;have s4:=HH.o.sx.s4;have s5:=HH.o.sx.s5;have r0:=HH.o.rb.c0;have r1:=HH.o.rb.c1;have f0:=HH.o.rb.f0;have f1:=HH.o.rb.f1;have t0:=HX.o.c0;have t1:=HX.o.c1;go_wp2_with fail;have j0:=(HH.o.rb.put (.int .i64 F.N) (.slice a n c)).c0;have j1:=(HH.o.rb.put (.int .i64 F.N) (.slice a n c)).c1
  (try simp only[Exit.inBlock,Exit.then])
  refine bodyPost_ret (v:= .tuple #[.agg #[.int .i64 F.N,.slice a n c],.int .i64 x]) (by first|(rw[results_cell_tmp rfl];go_simp;done)|(rw[aB rfl];go_simp;done)|(rw[aA rfl];go_simp;done)) rfl ?_;exact⟨_,rfl,HH.o.rb.famR (HFAM.o.keep HH.o.B),HH.o.below _ _⟩
open Go.RowKit Go.Maps
theorem pQ {C:List Int} {l:List E} {p:Nat} {S:List Int} {D:List Bk} {n j:Nat} (h:j<n):(wrL C l p S D n)[j]? =some ⟨dI C l p S j,D.getD j Bk.zero⟩:=by
 unfold wrL;rw[List.getElem?_map,List.getElem?_range h];rfl
theorem bAa (F G:Fam) (L:List E) (e0:Int) (gv:Value) (nm:List UInt8) (x:E) (w:World) (hF:F.ok) (h:bI w gv F) (hnm:nm.length<=maxLen) (hx:x.wf) (he:aQ F nm x=(G,L,e0)):
  Calls Tryz.prog 106 #[gv,nmV nm,.agg #[.int .i64 x.a,.int .i64 x.n,.int .i64 x.s]] w (aIl w G L e0):=by
 have:=aFw F gv nm x w hF h hnm hx
 rwa [he]at this
theorem WrJ.uniq {F:Fam} {v:Vol} {p n:Nat} {S:List Int} (h:PW F v p n S) {G H:Fam} {L K:List E} (h1:WrJ F v p n S n G L) (h2:WrJ F v p n S n H K):G=H:=by
 rw[<-(h.asg h1).2,(h.asg h2).2]
structure WB (w0 W:World) (u v:Value) (F:Fam):Prop where
 gb:Bx W w0.heap.size 31 u v
 famr:bI W (.agg #[u,v]) F
 r:Bx W (w0.heap.size+1) 31 (.int .i64 0) (.slice none 0 0)
 B:Below w0.heap.size w0 W
theorem WB.later {w0 W W':World} {u v:Value} {F:Fam} (h:WB w0 W u v F) (hb:Below W.heap.size W W'):WB w0 W' u v F:=⟨h.gb.later hb,h.famr.keep hb,h.r.later hb,h.B.on hb⟩
theorem WB.put {w0 W:World} {u v x y:Value} {F G:Fam} (h:WB w0 W u v F) (hg:bI W (.agg #[x,y]) G):WB w0 (dN W w0.heap.size x y) x y G:=
 ⟨h.gb.put x y,h.gb.famR hg,h.r.far (by omega) x y,(h.B.setCell (by simp only;omega) _).setCell (by simp only;omega) _⟩
theorem WB.init (w:World) (u v:Value) (F:Fam) (h:bI w (.agg #[u,v]) F) (W:World) (hW:W=(w.alloc (.cells #[u,v] 31)).alloc (.cells #[.int .i64 0,.slice none 0 0] 31)):WB w W u v F:=by
 subst hW;have hk:=((Below.refl w.heap.size w).bMq (.cells #[u,v] 31)).bMq (.cells #[.int .i64 0,.slice none 0 0] 31);exact⟨(Bx.new w _ rfl u v _).later ((Below.refl _ _).bMq _),h.keep hk,Bx.new _ _ (by simp) _ _ _,hk⟩
theorem aDe (F:Fam) (v:Vol) (p n:Nat) (S:List Int) (D:List Bk) (h:PW F v p n S) (gv:Value) (a:Option Addr) (c:Nat) (w:World) (hg:bI w gv F) (hr:aEl w a (wrL F.C v.l p S D n)):
  Calls Tryz.prog 52 #[gv,nmV v.nm,.int .i64 p,.slice a n c] w fun e w'=>∃ gv' G L,e= .returned gv'/\WrJ F v p n S n G L/\bI w' gv' G/\Below w.heap.size w w':=by
 have hok:=h.vok;have hn2:=hok.n2;have hle:=h.le;have hN:=h.sound.ok.hN;have hnm:v.nm.length<=maxLen:=nI hok.name;obtain⟨nm,hnme⟩:∃ nm,v.nm=nm:=⟨_,rfl⟩;rw[hnme]at hnm ⊢;have HNM:=hid hnme;have HPW:=hid h;have HRS:=hid hr;obtain⟨ra,rn,rc,rfl⟩:=hg.form;have HP:=hid (WB.init w _ _ F hg _ rfl);have hpn:p+n<=65536:=by omega
 clear hok hg hr h hnme hle hn2;go_enter Tryz.func52,Tryz.ntmps52;go_wp2_with fail;go_loopw [9] (fun i wr=>∃ (j:Nat) (G:Fam) (L:List E) (x y:Value),j<=n/\i= .int .i64 j/\WrJ F v p n S j G L/\WB w wr x y G) (fun i _=>n-(intOf i).toNat)
 case atStart=>exact⟨0,F,v.l,_,_,Nat.zero_le _,rfl,WrJ.start HPW.o,HP.o⟩
 case round=>
  clear HP;obtain⟨j,G,L,x,y,hj,rfl,hwj,hp⟩:=hrel;obtain⟨ra,rn,rc,he⟩:=hp.famr.form;obtain⟨rfl,rfl⟩:x= .int .i64 G.N/\y= .slice ra rn rc:=by
   injection he with he;have h1:=congrArg Array.toList he;simp at h1;exact h1
  have HP:=hid hp;have HW:=hid hwj;clear hp hwj he;by_cases hlt:j<n
  ·obtain ⟨sb,so,rfl,hat⟩:=(HRS.o.keep HP.o.B).at (by rw[jY];omega);have hs0:=(hat j _ (pQ hlt)).s;simp only at hs0;have hpf:=HPW.o.pick_fit hlt;obtain⟨G2,K2,g1,g2,g3⟩:=HW.o.step HPW.o hlt;generalize dI F.C v.l p S j=s at *;obtain⟨L9,hL9⟩:∃ L9,(aQ G v.nm ⟨((p+j:Nat):Int),1,s⟩).2.1=L9:=⟨_,rfl⟩;have HAS:Hid (aQ G nm ⟨(p:Int)+j,1,s⟩=(G2,L9,0)):=hid (by
    have e:(((p+j:Nat):Int))=(p:Int)+j:=by omega
    rw[e]at g1 g2 hL9
    rw[<-HNM.o,<-g1,<-g2,<-hL9])
   have HW2:=hid g3;have HGO:=hid HW.o.wi.ok;have hj0:(0:Int)<=j:=by omega
   have hj1:(j:Int)<n:=by omega
   obtain⟨hp0,hp1⟩:=hpf;have HXW:Hid (E.wf ⟨(p:Int)+j,1,s⟩):=hid (by unfold E.wf;simp only;omega);clear hat g1 g2 g3 hL9 HW;go_upto_region 4 with fail;have hVd:=(Below.refl wr.heap.size wr).drew;have HV:=hid (HP.o.later hVd);have p0:=HP.o.gb.c0;have p1:=HP.o.gb.c1;have hw:IntKind.i64.wrap ((p:Int)+j)=(p:Int)+j:=IntWalk.i64_in _ (by omega);clear hVd HP hj hp0 hp1 hN
   go_region_law ((go_simp;go_at_call 106;refine(bAa G G2 L9 0 _ nm ⟨(p:Int)+j,1,s⟩ _ HGO.o HV.o.famr hnm HXW.o HAS.o).mono ?_;rintro e w5 ⟨gv,sv,rfl,hg,_,hb5⟩;obtain⟨ga,gn,gc,rfl⟩:=hg.form;have HP5:=hid (HV.o.later hb5);have q0:=HP5.o.gb.c0;have q1:=HP5.o.gb.c1;have q2:=HP5.o.gb.f0;have q3:=HP5.o.gb.f1))
   all_goals
    have HQ:=hid (HP5.o.put hg);clear p0 p1 q0 q1 q2 q3 hg hb5 HV HP5 hs0 hw;go_wp2_with fail;go_roundw
    case rel=>exact⟨j+1,G2,K2,_,_,by omega,by go_num,HW2.o,HQ.o⟩
    case measure=>simp[intOf];omega
  ·have hjn:j=n:=by omega
   subst hjn;have p0:=HP.o.gb.c0;have p1:=HP.o.gb.c1;have r0:=HP.o.r.c0;have r1:=HP.o.r.c1;have f0:=HP.o.r.f0;have f1:=HP.o.r.f1;go_wp2_with fail;have j0:=(HP.o.r.put (.int .i64 G.N) (.slice ra rn rc)).c0;have j1:=(HP.o.r.put (.int .i64 G.N) (.slice ra rn rc)).c1
   (try simp only[Exit.inBlock,Exit.then])
   refine bodyPost_ret (v:= .agg #[.int .i64 G.N,.slice ra rn rc]) (by first|(rw[results_cell_tmp rfl];go_simp;done)|(rw[aB rfl];go_simp;done)|(rw[aA rfl];go_simp;done)) rfl ?_;exact⟨_,G,L,rfl,HW.o,HP.o.r.famR HP.o.famr,(HP.o.B.setCell (by simp only;omega) _).setCell (by simp only;omega) _⟩
open Go.RowKit Go.Maps
theorem PW.block {F:Fam} {v:Vol} {p n:Nat} {S:List Int} (h:PW F v p n S) {j:Nat} (hj:j<n):
  ∃(f:Bool) (t s:Nat),fH v.l ((p:Int)+j)=f/\fK v.l ((p:Int)+j)=t/\dI F.C v.l p S j=s/\s<F.N/\((f=false/\F.C.getD s 0=0)∨(f=true/\t<F.N/\F.C.getD t 0=1/\s=t)∨(f=true/\t<F.N/\F.C.getD t 0≠1/\F.C.getD s 0=0)):=by
 obtain ⟨q0,q1⟩:=h.pick_fit hj;obtain⟨s,hs⟩:=Int.eq_ofNat_of_zero_le q0;have hz:exJ F.C v.l p j=false->F.C.getD s 0=0:=fun hx=>by
  have:=(h.fresh _ (h.pick_new hj hx).2.1).2.2;rw[hs]at this;exact this
 have he:exJ F.C v.l p j=exB F.C v.l ((p:Int)+j):=by unfold exJ;congr 1
 cases hf:fH v.l ((p:Int)+j)
 ·refine ⟨false,0,s,rfl,?_,hs,by omega,.inl ⟨rfl,hz ?_⟩⟩
  ·unfold fH at hf;unfold fK
   cases hq:v.l.find? (hits ((p:Int)+j))with
   |none=>rfl
   |some x=>rw[hq]at hf;cases hf
  ·rw[he];exact aXv hf
 ·have hft:=wI (l:=v.l) ((p:Int)+j) h.vok.perm hf;obtain⟨t,ht⟩:=Int.eq_ofNat_of_zero_le hft.1;have hx:=aXu (C:=F.C) hf;rw[<-he,ht,Int.toNat_natCast]at hx;refine⟨true,t,s,rfl,ht,hs,by omega,.inr ?_⟩;by_cases h1:F.C.getD t 0=1
  ·refine .inl ⟨rfl,by omega,h1,?_⟩;have h2:=aAd (C:=F.C) (l:=v.l) (p:=p) (S:=S) (i:=j) (by rw[hx];simp only[bB];rw[h1];rfl);rw[hs,show((p+j:Nat):Int)=(p:Int)+j by omega,ht]at h2;omega
  ·exact .inr ⟨rfl,by omega,h1,hz (by rw[hx];simp only[bB];exact decide_eq_false h1)⟩
theorem aZu (F:Fam) (i0:Int) (b0:Bool) (e0:Int) (fv:Value) (nm:List UInt8) (p:Int) (w:World) (hF:F.ok) (h:bI w fv F) (hn:nm.length<=maxLen) (he:fQ F nm p=(i0,b0,e0)):
  Calls Tryz.prog 105 #[fv,nmV nm,.int .i64 p] w fun e w'=>e= .returned (.tuple #[.int .i64 i0,.bool b0,.int .i64 e0])/\Below w.heap.size w w':=by
 have:=aFu F fv nm p w hF h hn
 rwa [he]at this
theorem aSo (x:Bk) (d:Nat) (w:World):(Op.equalIn (d+2) 58 x.v x.v).run Tryz.prog w= .ok true w:=by
 obtain ⟨i0,hi,_,hz1,_⟩:=info_parts aQz;have hsz:∀ w,(sizeOf 5).run Tryz.prog w= .ok 1 w:=fun w=>by
  rw[run_sizeOf w hi];congr 1
 rw[Op.equalIn];simp only[Sem.run_bind,run_underlying Tryz.underlying58,Result.andThen_ok,hsz,Std.Legacy.Range.forIn_eq_forIn_range',Std.Legacy.Range.size,Nat.sub_zero,Nat.add_sub_cancel,Nat.div_one];have hl:∀ i∈List.range' 0 8 1,i<8:=fun i hi=>by simpa using (List.mem_range'_1.1 hi).2
 generalize List.range' 0 8 1=l at hl ⊢
 induction l with
 |nil=>simp
 | cons i l ih=>
  have hi:i<8:=hl i (by simp);obtain⟨u,hu⟩:∃ u:Int,(part 5 #[.int .u8 x.x0,.int .u8 x.x1,.int .u8 x.x2,.int .u8 x.x3,.int .u8 x.x4,.int .u8 x.x5,.int .u8 x.x6,.int .u8 x.x7] (i*1)).run Tryz.prog w= .ok (.int .u8 u) w:=by
   match i,hi with
   |0,_=>exact⟨x.x0,by simp[part,isAgg,run_underlying Tryz.underlying5]⟩
   |1,_=>exact⟨x.x1,by simp[part,isAgg,run_underlying Tryz.underlying5]⟩
   |2,_=>exact⟨x.x2,by simp[part,isAgg,run_underlying Tryz.underlying5]⟩
   |3,_=>exact⟨x.x3,by simp[part,isAgg,run_underlying Tryz.underlying5]⟩
   |4,_=>exact⟨x.x4,by simp[part,isAgg,run_underlying Tryz.underlying5]⟩
   |5,_=>exact⟨x.x5,by simp[part,isAgg,run_underlying Tryz.underlying5]⟩
   |6,_=>exact⟨x.x6,by simp[part,isAgg,run_underlying Tryz.underlying5]⟩
   |7,_=>exact⟨x.x7,by simp[part,isAgg,run_underlying Tryz.underlying5]⟩
  have pe:(Op.equalIn (d+1) 5 (.int .u8 u) (.int .u8 u)).run Tryz.prog w= .ok true w:=by
   rw[run_equalIn_int w d 5 .u8 .u8 _ _ Tryz.underlying5];simp
  simp only[List.forIn_cons,Sem.run_bind,hu,pe,Result.andThen_ok,Bool.not_true,Bool.false_eq_true,if_false,Sem.run_pure];exact ih fun j hj=>hl j (by simp[hj])
theorem bJs (y0 y1 y2 y3 y4 y5 y6 y7:Int) (w:World):(binOp .neq 58 (.agg #[.int .u8 y0,.int .u8 y1,.int .u8 y2,.int .u8 y3,.int .u8 y4,.int .u8 y5,.int .u8 y6,.int .u8 y7]) (.agg #[.int .u8 y0,.int .u8 y1,.int .u8 y2,.int .u8 y3,.int .u8 y4,.int .u8 y5,.int .u8 y6,.int .u8 y7])).run Tryz.prog w= .ok (.bool false) w:=by
 have h:(Op.equal 58 (Bk.v ⟨y0,y1,y2,y3,y4,y5,y6,y7⟩) (Bk.v ⟨y0,y1,y2,y3,y4,y5,y6,y7⟩)).run Tryz.prog w= .ok true w:=aSo ⟨y0,y1,y2,y3,y4,y5,y6,y7⟩ 9998 w;simp only[binOp];simp[h]
theorem aOa (F:Fam) (v:Vol) (p n:Nat) (S:List Int) (D:List Bk) (h:PW F v p n S) (gv:Value) (ad al:Option Addr) (cd cl:Nat) (w:World) (hg:bI w gv F) (hD:D.length=n) (hd:RdB w ad D) (hr:aEl w al (wrL F.C v.l p S D n)):
  Calls Tryz.prog 51 #[gv,nmV v.nm,.int .i64 p,.slice ad n cd,.slice al n cl] w fun e w'=>e= .returned (.bool true)/\Below w.heap.size w w':=by
 have hok:=h.vok;have hn2:=hok.n2;have hle:=h.le;have hN:=h.sound.ok.hN;have hnm:v.nm.length<=maxLen:=nI hok.name;have HLK:=hid (fun(j:Nat) (hj:j<n) W fv hfv=>aZu F (fK v.l ((p:Int)+j)) (fH v.l ((p:Int)+j)) 0 fv v.nm ((p:Int)+j) W h.sound.ok hfv hnm (aCa h.get (by omega) (by omega)));obtain⟨nm,hnme⟩:∃ nm,v.nm=nm:=⟨_,rfl⟩;rw[hnme]at HLK hnm ⊢;have HPW:=hid h;have HR:=hid hr;have HDD:=hid hd;have HDL:=hid hD;have HF:=hid h.sound.ok;obtain⟨ra,rn,rc,rfl⟩:=hg.form;have HH:=hid (QM.init w _ _ F hg);have hpn:p+n<=65536:=by omega
 have HCL:=hid F.bMs;clear hok hg hr h hnme hle hn2 hd hD;go_enter Tryz.func51,Tryz.ntmps51;have b0:=HH.o.b0;have b1:=HH.o.b1;go_wp2_with fail;refine(aAx HF.o HH.o.fam).mono ?_;rintro e w1 ⟨cv,rfl,ho,hb⟩;obtain⟨ca,cc,rfl,hrc⟩:=ho.rd (by rw[HCL.o];omega);have HRC:=hid hrc;have HH1:=hid (HH.o.later hb);clear hb ho hrc b0 b1 HH;go_wp2_with fail;go_loopw [12] (fun i wr=>∃ j:Nat,j<=n/\i= .int .i64 j/\Below w1.heap.size w1 wr) (fun i _=>n-(intOf i).toNat)
 case atStart=>exact⟨0,Nat.zero_le _,rfl,Below.refl _ _⟩
 case round=>
  obtain⟨j,hj,rfl,hB⟩:=hrel;have HM:=hid (HH1.o.later hB);have HB:=hid hB;clear hB;by_cases hlt:j<n
  ·obtain ⟨f,t,s,hf,ht,hs,hsN,hcase⟩:=HPW.o.block hlt;have HLJ:=hid (HLK.o j hlt);rw[hf,ht]at HLJ;have HPS:=hid hs;obtain⟨sb,so,rfl,hat⟩:=(HR.o.keep HM.o.B).at (by rw[jY];omega);have hDj:j<D.length:=by rw[HDL.o];exact hlt
   obtain⟨db,dd,rfl,hdat⟩:=(HDD.o.keep HM.o.B).at (by omega);obtain⟨⟨y0,y1,y2,y3,y4,y5,y6,y7⟩,hx⟩:∃ x,D[j]? =some x:=⟨D[j],List.getElem?_eq_getElem hDj⟩;replace hdat:=hdat j _ hx;have hbn:=fun W=>bJs y0 y1 y2 y3 y4 y5 y6 y7 W;have hsw:=hat j _ (pQ hlt);rw[hs,List.getD_eq_getElem?_getD,hx]at hsw;have hsC:s<F.C.length:=by rw[HCL.o];exact hsN
   obtain⟨cb,co,rfl,hatc⟩:=(HRC.o.keep HB.o).at (by omega);have hcs:=hatc s _ (getD_some F.C s hsC);have hct:=fun(ht:t<F.C.length)=>hatc t _ (getD_some F.C t ht);have HAT:=hid hat;have hs0:(0:Int)<=s:=by omega
   have hs1:(s:Int)<F.C.length:=by omega
   have hd0:decide ((s:Int)<0)=false:=decide_eq_false (by omega);have hd1:decide ((F.C.length:Int)<=s)=false:=decide_eq_false (by omega);have hj0:(0:Int)<=j:=by omega
   have hj1:(j:Int)<n:=by omega
   clear hf ht hs hat hatc hx hDj;rcases hcase with ⟨rfl,hz⟩|⟨rfl,htN,h1,hst⟩|⟨rfl,htN,h1,hz⟩
   ·rw [hz]at hcs;clear hct hz;have z0:=hsw.s;have z1:=hsw.c0;have z2:=hsw.c1;have z3:=hsw.c2;have z4:=hsw.c3;have z5:=hsw.c4;have z6:=hsw.c5;have z7:=hsw.c6;have z8:=hsw.c7;obtain⟨q0,q1,q2,q3,q4,q5,q6,q7⟩:=hdat;simp only at z0 z1 z2 z3 z4 z5 z6 z7 z8 q0 q1 q2 q3 q4 q5 q6 q7;clear hsw;have b0:=HM.o.b0;have b1:=HM.o.b1;go_wp2_with fail;refine(HLJ.o _ _ HM.o.fam).mono ?_;rintro e w3 ⟨rfl,hb⟩;have HB3:=hid hb;have HB3':=hid (HB.o.on hb);replace z0:=hb.keep z0;replace z1:=hb.keep z1;replace z2:=hb.keep z2;replace z3:=hb.keep z3;replace z4:=hb.keep z4;replace z5:=hb.keep z5;replace z6:=hb.keep z6;replace z7:=hb.keep z7;replace z8:=hb.keep z8;replace q0:=hb.keep q0;replace q1:=hb.keep q1;replace q2:=hb.keep q2;replace q3:=hb.keep q3;replace q4:=hb.keep q4;replace q5:=hb.keep q5;replace q6:=hb.keep q6;replace q7:=hb.keep q7;replace hcs:=hb.keep hcs;clear hb b0 b1 HM;generalize wr=wo at *;go_wp2_with fail;refine aC (by kernel_rfl) (by kernel_rfl) ?_
    repeat(go_big_quiet_step (fail))
    refine wpQuiet_nil ?_;intro _ hw';obtain⟨nq,hw''⟩:=hw';subst hw'';clear z1 z2 z3 z4 z5 z6 z7 z8 q0 q1 q2 q3 q4 q5 q6 q7;go_wp2_with fail;go_loopw [17] (fun i wi=>∃ k:Nat,k<=j/\i= .int .i64 k/\Below w3.heap.size w3 wi) (fun i _=>j-(intOf i).toNat)
    case atStart=>exact⟨0,Nat.zero_le _,rfl,World.bMr _ _⟩
    case round=>
     obtain⟨k,hk,rfl,hBk⟩:=hrel;by_cases hkl:k<j
     ·have hkn:k<n:=by omega
      have a1:=(HAT.o k _ (pQ hkn)).s;have a2:=hBk.keep (HB3.o.keep a1);have a3:=hBk.keep z0;simp only at a2;have hne:(dI F.C v.l p S k==(s:Int))=false:=by
       rw[<-HPS.o];simp only[beq_eq_false_iff_ne,ne_eq];intro e;have:=HPW.o.pick_inj hkn hlt e;omega
      have HBK:=hid hBk;have hk0:(0:Int)<=k:=by omega
      have hk1:(k:Int)<n:=by omega
      generalize dI F.C v.l p S k=u at *;clear a1 hBk z0;go_wp2_with fail;refine aC (by kernel_rfl) (by kernel_rfl) ?_
      repeat(go_big_quiet_step (fail))
      refine wpQuiet_nil ?_;intro _ hw';obtain⟨nq,hw''⟩:=hw';subst hw'';generalize hW:World.next _ nq=W4;have HB4:=hid (HBK.o.on (show Below wr.heap.size wr W4 by rw[<-hW];exact World.bMr _ _));clear hW;go_wp2_with fail;go_roundw
      case rel=>exact⟨k+1,by omega,by go_num,HB4.o⟩
      case measure=>simp[intOf];omega
     ·have hkj:k=j:=by omega
      have HB4:=hid (HB3'.o.on hBk);clear hBk;go_wp2_with fail;go_roundw
      case rel=>exact⟨j+1,by omega,by go_num,HB4.o⟩
      case measure=>simp[intOf];omega
   ·subst hst;rw[h1]at hcs;clear hct h1;have z0:=hsw.s;have z1:=hsw.c0;have z2:=hsw.c1;have z3:=hsw.c2;have z4:=hsw.c3;have z5:=hsw.c4;have z6:=hsw.c5;have z7:=hsw.c6;have z8:=hsw.c7;obtain⟨q0,q1,q2,q3,q4,q5,q6,q7⟩:=hdat;simp only at z0 z1 z2 z3 z4 z5 z6 z7 z8 q0 q1 q2 q3 q4 q5 q6 q7;clear hsw;have b0:=HM.o.b0;have b1:=HM.o.b1;go_wp2_with fail;refine(HLJ.o _ _ HM.o.fam).mono ?_;rintro e w3 ⟨rfl,hb⟩;have HB3:=hid hb;have HB3':=hid (HB.o.on hb);replace z0:=hb.keep z0;replace z1:=hb.keep z1;replace z2:=hb.keep z2;replace z3:=hb.keep z3;replace z4:=hb.keep z4;replace z5:=hb.keep z5;replace z6:=hb.keep z6;replace z7:=hb.keep z7;replace z8:=hb.keep z8;replace q0:=hb.keep q0;replace q1:=hb.keep q1;replace q2:=hb.keep q2;replace q3:=hb.keep q3;replace q4:=hb.keep q4;replace q5:=hb.keep q5;replace q6:=hb.keep q6;replace q7:=hb.keep q7;replace hcs:=hb.keep hcs;clear hb b0 b1 HM;generalize wr=wo at *;go_wp2_with fail;refine aC (by kernel_rfl) (by kernel_rfl) ?_
    repeat(go_big_quiet_step (fail))
    refine wpQuiet_nil ?_;intro _ hw';obtain⟨nq,hw''⟩:=hw';subst hw'';clear z1 z2 z3 z4 z5 z6 z7 z8 q0 q1 q2 q3 q4 q5 q6 q7;go_wp2_with fail;go_loopw [17] (fun i wi=>∃ k:Nat,k<=j/\i= .int .i64 k/\Below w3.heap.size w3 wi) (fun i _=>j-(intOf i).toNat)
    case atStart=>exact⟨0,Nat.zero_le _,rfl,World.bMr _ _⟩
    case round=>
     obtain⟨k,hk,rfl,hBk⟩:=hrel;by_cases hkl:k<j
     ·have hkn:k<n:=by omega
      have a1:=(HAT.o k _ (pQ hkn)).s;have a2:=hBk.keep (HB3.o.keep a1);have a3:=hBk.keep z0;simp only at a2;have hne:(dI F.C v.l p S k==(s:Int))=false:=by
       rw[<-HPS.o];simp only[beq_eq_false_iff_ne,ne_eq];intro e;have:=HPW.o.pick_inj hkn hlt e;omega
      have HBK:=hid hBk;have hk0:(0:Int)<=k:=by omega
      have hk1:(k:Int)<n:=by omega
      generalize dI F.C v.l p S k=u at *;clear a1 hBk z0;go_wp2_with fail;refine aC (by kernel_rfl) (by kernel_rfl) ?_
      repeat(go_big_quiet_step (fail))
      refine wpQuiet_nil ?_;intro _ hw';obtain⟨nq,hw''⟩:=hw';subst hw'';generalize hW:World.next _ nq=W4;have HB4:=hid (HBK.o.on (show Below wr.heap.size wr W4 by rw[<-hW];exact World.bMr _ _));clear hW;go_wp2_with fail;go_roundw
      case rel=>exact⟨k+1,by omega,by go_num,HB4.o⟩
      case measure=>simp[intOf];omega
     ·have hkj:k=j:=by omega
      have HB4:=hid (HB3'.o.on hBk);clear hBk;go_wp2_with fail;go_roundw
      case rel=>exact⟨j+1,by omega,by go_num,HB4.o⟩
      case measure=>simp[intOf];omega
   ·have htC:t<F.C.length:=by rw[HCL.o];exact htN
    replace hct:=hct htC;obtain⟨ct,hctv⟩:∃ ct,F.C.getD t 0=ct:=⟨_,rfl⟩;rw[hz]at hcs;rw[hctv]at hct h1;have hcb:(ct==1)=false:=by simpa using h1
    have ht0:(0:Int)<=t:=by omega
    have ht1:(t:Int)<F.C.length:=by omega
    clear hz h1 hctv;have z0:=hsw.s;have z1:=hsw.c0;have z2:=hsw.c1;have z3:=hsw.c2;have z4:=hsw.c3;have z5:=hsw.c4;have z6:=hsw.c5;have z7:=hsw.c6;have z8:=hsw.c7;obtain⟨q0,q1,q2,q3,q4,q5,q6,q7⟩:=hdat;simp only at z0 z1 z2 z3 z4 z5 z6 z7 z8 q0 q1 q2 q3 q4 q5 q6 q7;clear hsw;have b0:=HM.o.b0;have b1:=HM.o.b1;go_wp2_with fail;refine(HLJ.o _ _ HM.o.fam).mono ?_;rintro e w3 ⟨rfl,hb⟩;have HB3:=hid hb;have HB3':=hid (HB.o.on hb);replace z0:=hb.keep z0;replace z1:=hb.keep z1;replace z2:=hb.keep z2;replace z3:=hb.keep z3;replace z4:=hb.keep z4;replace z5:=hb.keep z5;replace z6:=hb.keep z6;replace z7:=hb.keep z7;replace z8:=hb.keep z8;replace q0:=hb.keep q0;replace q1:=hb.keep q1;replace q2:=hb.keep q2;replace q3:=hb.keep q3;replace q4:=hb.keep q4;replace q5:=hb.keep q5;replace q6:=hb.keep q6;replace q7:=hb.keep q7;replace hcs:=hb.keep hcs;replace hct:=hb.keep hct;clear hb b0 b1 HM;generalize wr=wo at *;go_wp2_with fail;refine aC (by kernel_rfl) (by kernel_rfl) ?_
    repeat(go_big_quiet_step (fail))
    refine wpQuiet_nil ?_;intro _ hw';obtain⟨nq,hw''⟩:=hw';subst hw'';clear z1 z2 z3 z4 z5 z6 z7 z8 q0 q1 q2 q3 q4 q5 q6 q7;go_wp2_with fail;go_loopw [17] (fun i wi=>∃ k:Nat,k<=j/\i= .int .i64 k/\Below w3.heap.size w3 wi) (fun i _=>j-(intOf i).toNat)
    case atStart=>exact⟨0,Nat.zero_le _,rfl,World.bMr _ _⟩
    case round=>
     obtain⟨k,hk,rfl,hBk⟩:=hrel;by_cases hkl:k<j
     ·have hkn:k<n:=by omega
      have a1:=(HAT.o k _ (pQ hkn)).s;have a2:=hBk.keep (HB3.o.keep a1);have a3:=hBk.keep z0;simp only at a2;have hne:(dI F.C v.l p S k==(s:Int))=false:=by
       rw[<-HPS.o];simp only[beq_eq_false_iff_ne,ne_eq];intro e;have:=HPW.o.pick_inj hkn hlt e;omega
      have HBK:=hid hBk;have hk0:(0:Int)<=k:=by omega
      have hk1:(k:Int)<n:=by omega
      generalize dI F.C v.l p S k=u at *;clear a1 hBk z0;go_wp2_with fail;refine aC (by kernel_rfl) (by kernel_rfl) ?_
      repeat(go_big_quiet_step (fail))
      refine wpQuiet_nil ?_;intro _ hw';obtain⟨nq,hw''⟩:=hw';subst hw'';generalize hW:World.next _ nq=W4;have HB4:=hid (HBK.o.on (show Below wr.heap.size wr W4 by rw[<-hW];exact World.bMr _ _));clear hW;go_wp2_with fail;go_roundw
      case rel=>exact⟨k+1,by omega,by go_num,HB4.o⟩
      case measure=>simp[intOf];omega
     ·have hkj:k=j:=by omega
      have HB4:=hid (HB3'.o.on hBk);clear hBk;go_wp2_with fail;go_roundw
      case rel=>exact⟨j+1,by omega,by go_num,HB4.o⟩
      case measure=>simp[intOf];omega
  ·have hB:=HM.o.B;clear HM;go_wp2_with fail;go_ret;exact⟨rfl,hB⟩
end Go.Proofs.YtaiklhbakldfhaaGreat
