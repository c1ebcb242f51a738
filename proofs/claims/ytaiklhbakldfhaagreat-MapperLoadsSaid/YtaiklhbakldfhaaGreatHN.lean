/-
  Rows of blocks and of writes to slots.
  package mapper: Plan, where it refuses.
  What Plan chooses: plain laws.
  The plain law of a planned write.
  Conditions: as each theorem says.
-/
import Derived.Test.YtaiklhbakldfhaaGreatHM
import Derived.Test.YtaiklhbakldfhaaGreatGJ
import Derived.Test.YtaiklhbakldfhaaGreatGI
import Derived.Test.YtaiklhbakldfhaaGreatHG
namespace Go.Proofs.YtaiklhbakldfhaaGreat
open Go.Lib (hid)
set_option linter.unusedSimpArgs false
set_option linter.unusedVariables false
set_option maxRecDepth 100000
set_option maxHeartbeats 16000000
open Go.RowKit Go.Maps
structure Bk where
 x0:Int
 x1:Int
 x2:Int
 x3:Int
 x4:Int
 x5:Int
 x6:Int
 x7:Int
deriving DecidableEq
abbrev Bk.v (x:Bk):Value:= .agg #[.int .u8 x.x0,.int .u8 x.x1,.int .u8 x.x2,.int .u8 x.x3,.int .u8 x.x4,.int .u8 x.x5,.int .u8 x.x6,.int .u8 x.x7]
def Bk.cells (x:Bk):List Value:=[.int .u8 x.x0,.int .u8 x.x1,.int .u8 x.x2,.int .u8 x.x3,.int .u8 x.x4,.int .u8 x.x5,.int .u8 x.x6,.int .u8 x.x7]
def Bk.zero:Bk:=⟨0,0,0,0,0,0,0,0⟩
structure Sw where
 s:Int
 d:Bk
def Sw.cells (x:Sw):List Value:= .int .i64 x.s::x.d.cells
abbrev Sw.v (x:Sw):Value:= .agg #[.int .i64 x.s,.int .u8 x.d.x0,.int .u8 x.d.x1,.int .u8 x.d.x2,.int .u8 x.d.x3,.int .u8 x.d.x4,.int .u8 x.d.x5,.int .u8 x.d.x6,.int .u8 x.d.x7]
theorem flat_get {α:Type} (f:α->List Value) (m:Nat) (hm:∀ x,(f x).length=m) (l:List α):∀ (k:Nat) (x:α),l[k]? =some x-> ∀j,j<m->(l.flatMap f)[k*m+j]? =(f x)[j]? :=by
 induction l with
 |nil=>intro k x hk;simp at hk
 | cons y r ih=>
  intro k x hk j hj;rw[List.flatMap_cons]
  cases k with
  | zero=>
   simp at hk;subst hk;rw[Nat.zero_mul,Nat.zero_add,List.getElem?_append_left (by rw[hm];exact hj)]
  | succ k=>
   have:=ih k x (by simpa using hk) j hj;rw[<-this,List.getElem?_append_right (by rw[hm,Nat.succ_mul];omega),hm,Nat.succ_mul];congr 1;omega
theorem aRl {α:Type} (f:α->List Value) (m:Nat) (hm:∀ x,(f x).length=m) (l:List α):(l.flatMap f).length=l.length*m:=by
 induction l with
 |nil=>simp
 |cons y r ih=>rw[List.flatMap_cons,List.length_append,ih,hm,List.length_cons,Nat.succ_mul];omega
theorem bKk:(Tryz.prog.info? 58).map (fun i=>(i.zero,i.size,i.bytes))=some (some Bk.zero.v,8,8):=by kernel_rfl
theorem bLi:(Tryz.prog.info? 60).map (fun i=>(i.zero,i.size,i.bytes))=some (some (Sw.v ⟨0,Bk.zero⟩),9,16):=by kernel_rfl
structure aNy (w:World) (b o k:Nat) (x:Bk):Prop where
 c0:w.cell? ⟨b,o+k*8,none⟩=some (.int .u8 x.x0)
 c1:w.cell? ⟨b,o+k*8+1,none⟩=some (.int .u8 x.x1)
 c2:w.cell? ⟨b,o+k*8+2,none⟩=some (.int .u8 x.x2)
 c3:w.cell? ⟨b,o+k*8+3,none⟩=some (.int .u8 x.x3)
 c4:w.cell? ⟨b,o+k*8+4,none⟩=some (.int .u8 x.x4)
 c5:w.cell? ⟨b,o+k*8+5,none⟩=some (.int .u8 x.x5)
 c6:w.cell? ⟨b,o+k*8+6,none⟩=some (.int .u8 x.x6)
 c7:w.cell? ⟨b,o+k*8+7,none⟩=some (.int .u8 x.x7)
theorem aNy.keep {w w':World} {b o k:Nat} {x:Bk} (h:aNy w b o k x) (hb:Below w.heap.size w w'):aNy w' b o k x:=⟨hb.keep h.c0,hb.keep h.c1,hb.keep h.c2,hb.keep h.c3,hb.keep h.c4,hb.keep h.c5,hb.keep h.c6,hb.keep h.c7⟩
def RdB (w:World) (a:Option Addr) (D:List Bk):Prop:=
 D.length<=1000000/\(D=[]∨ ∃b o,a=some ⟨b,o,none⟩/\ ∀k x,D[k]? =some x->aNy w b o k x)
theorem RdB.keep {w w':World} {a:Option Addr} {D:List Bk} (h:RdB w a D) (hb:Below w.heap.size w w'):RdB w' a D:=
 ⟨h.1,h.2.imp id fun⟨b,o,ha,hc⟩=>⟨b,o,ha,fun k x hk=>(hc k x hk).keep hb⟩⟩
theorem RdB.at {w:World} {a:Option Addr} {D:List Bk} (hr:RdB w a D) (h:0<D.length):∃ b o,a=some ⟨b,o,none⟩/\ ∀k x,D[k]? =some x->aNy w b o k x:=
 hr.2.resolve_left (by intro e;rw[e]at h;simp at h)
structure bHp (w:World) (b o k:Nat) (x:Sw):Prop where
 s:w.cell? ⟨b,o+k*9,none⟩=some (.int .i64 x.s)
 c0:w.cell? ⟨b,o+k*9+1,none⟩=some (.int .u8 x.d.x0)
 c1:w.cell? ⟨b,o+k*9+2,none⟩=some (.int .u8 x.d.x1)
 c2:w.cell? ⟨b,o+k*9+3,none⟩=some (.int .u8 x.d.x2)
 c3:w.cell? ⟨b,o+k*9+4,none⟩=some (.int .u8 x.d.x3)
 c4:w.cell? ⟨b,o+k*9+5,none⟩=some (.int .u8 x.d.x4)
 c5:w.cell? ⟨b,o+k*9+6,none⟩=some (.int .u8 x.d.x5)
 c6:w.cell? ⟨b,o+k*9+7,none⟩=some (.int .u8 x.d.x6)
 c7:w.cell? ⟨b,o+k*9+8,none⟩=some (.int .u8 x.d.x7)
theorem bHp.keep {w w':World} {b o k:Nat} {x:Sw} (h:bHp w b o k x) (hb:Below w.heap.size w w'):bHp w' b o k x:=⟨hb.keep h.s,hb.keep h.c0,hb.keep h.c1,hb.keep h.c2,hb.keep h.c3,hb.keep h.c4,hb.keep h.c5,hb.keep h.c6,hb.keep h.c7⟩
def aEl (w:World) (a:Option Addr) (l:List Sw):Prop:=
 l.length<=1000000/\(l=[]∨ ∃b o,a=some ⟨b,o,none⟩/\ ∀k x,l[k]? =some x->bHp w b o k x)
theorem aEl.keep {w w':World} {a:Option Addr} {l:List Sw} (h:aEl w a l) (hb:Below w.heap.size w w'):aEl w' a l:=
 ⟨h.1,h.2.imp id fun⟨b,o,ha,hc⟩=>⟨b,o,ha,fun k x hk=>(hc k x hk).keep hb⟩⟩
theorem aEl.at {w:World} {a:Option Addr} {l:List Sw} (hr:aEl w a l) (h:0<l.length):∃ b o,a=some ⟨b,o,none⟩/\ ∀k x,l[k]? =some x->bHp w b o k x:=
 hr.2.resolve_left (by intro e;rw[e]at h;simp at h)
def kD (w:World) (B:Nat) (v:Value) (l:List Sw):Prop:=w.ownsRow B 60 9 v l.length (l.flatMap Sw.cells)
theorem kD.nil (w:World) (B:Nat):kD w B (.slice none 0 0) []:=World.ownsRow_nil _ _ _ _
theorem kD.lt {w:World} {B:Nat} {v:Value} {l:List Sw} (h:kD w B v l):∀ k,v.ownBlock=some k->B<=k/\k<w.heap.size:=World.ownsRow.lt h
theorem kD.mono {w:World} {B B':Nat} {v:Value} {l:List Sw} (h:kD w B v l) (hB:B'<=B):kD w B' v l:=
 ⟨h.1,h.2.imp id fun⟨g,cap,cur,hv,hg,r⟩=>⟨g,cap,cur,hv,Nat.le_trans hB hg,r⟩⟩
theorem kD.other {w w':World} {B:Nat} {v:Value} {l:List Sw} {row:Option Nat} (h:kD w B v l) (hg:w.grownBy w' row) (hne:v.ownBlock=none∨v.ownBlock≠row):kD w' B v l:=
 World.ownsRow.kept h hg hne
theorem kD.keep {w w':World} {B:Nat} {v:Value} {l:List Sw} (h:kD w B v l) (hb:Below w.heap.size w w'):kD w' B v l:=
 World.ownsRow.kept h (row:=none) ⟨hb.os,hb.tape,hb.output,hb.size,fun k hk _=>hb.block k hk⟩ (by cases hv:v.ownBlock <;> simp)
theorem kD.rd {w:World} {B:Nat} {v:Value} {l:List Sw} (h:kD w B v l) (hl:l.length<=1000000):∃ a c,v= .slice a l.length c/\aEl w a l:=by
 rcases h.2 with ⟨rfl,hn⟩|⟨g,cap,cur,rfl,hb,hg,hn,hc,hs,ht⟩
 ·obtain rfl:=List.eq_nil_of_length_eq_zero hn;exact⟨_,_,rfl,by simp,.inl rfl⟩
 ·refine⟨_,_,rfl,hl,.inr ⟨g,0,rfl,fun k x hk=> ?_⟩⟩;have hk':k<l.length:=(List.getElem?_eq_some_iff.1 hk).1;have c:=fun j hj=>World.ownsRow.cellAt (cap:=cap) h j hj;have f:=fun j hj=>flat_get Sw.cells 9 (fun _=>rfl) l k x hk j hj;refine⟨?_,?_,?_,?_,?_,?_,?_,?_,?_⟩
  ·rw[Nat.zero_add,c _ (by omega)];exact f 0 (by omega)
  ·rw[Nat.zero_add,c _ (by omega)];exact f 1 (by omega)
  ·rw[Nat.zero_add,c _ (by omega)];exact f 2 (by omega)
  ·rw[Nat.zero_add,c _ (by omega)];exact f 3 (by omega)
  ·rw[Nat.zero_add,c _ (by omega)];exact f 4 (by omega)
  ·rw[Nat.zero_add,c _ (by omega)];exact f 5 (by omega)
  ·rw[Nat.zero_add,c _ (by omega)];exact f 6 (by omega)
  ·rw[Nat.zero_add,c _ (by omega)];exact f 7 (by omega)
  ·rw[Nat.zero_add,c _ (by omega)];exact f 8 (by omega)
theorem kD.snoc {w:World} {B n:Nat} {v:Value} {l:List Sw} {x:Sw} (h:w.ownsRow B 60 9 v n (l.flatMap Sw.cells++x.cells)) (hn:n=l.length+1):kD w B v (l++[x]):=by
 subst hn;unfold kD;rw[List.flatMap_append,List.length_append];have:[x].flatMap Sw.cells=x.cells:=by simp
 rw[this];exact h
theorem Sw.one (x:Sw):∀ u∈x.cells,u.oneCell'=true:=by
 intro u hu;simp only[Sw.cells,Bk.cells,List.mem_cons,List.not_mem_nil,or_false]at hu;rcases hu with rfl|rfl|rfl|rfl|rfl|rfl|rfl|rfl|rfl <;> rfl
theorem bEz (W:World) (n:Nat) (hn:n=W.heap.size) (x:Sw) (t:TypeId):∀ j u,x.cells[j]? =some u->(W.alloc (.cells x.cells.toArray t)).cell? ((⟨n,0,none⟩:Addr).add j)=some u:=by
 subst hn;intro j u hj;have hlt:=(List.getElem?_eq_some_iff.1 hj).1;have:((⟨W.heap.size,0,none⟩:Addr).add j)=⟨W.heap.size,j,none⟩:=by cases j <;> simp[Addr.add]
 rw[this,World.cell?_alloc_new]
 simpa using hj
open Go.RowKit Go.Maps
def jR (F:Fam) (nm:List UInt8) (p n:Int):Int:=if (eP F nm).2=0 then (if 1<=n/\n<=16 then fM F nm p n else 1)else (eP F nm).2
def aYj (w:World) (x:Int) (e:Ending) (w':World):Prop:=e= .returned (.tuple #[.slice none 0 0,.slice none 0 0,.int .i64 x])/\Below w.heap.size w w'
theorem aKi (nm:List UInt8) (p:Int) (n c:Nat) (a:Option Addr) (w:World):Calls Tryz.prog 14 #[.pointer none,nmV nm,.int .i64 p,.slice a n c] w (aYj w 8):=by
 go_enter Tryz.func14,Tryz.ntmps14;go_wp2_with fail;refine bodyPost_ret (v:= .tuple #[.slice none 0 0,.slice none 0 0,.int .i64 8]) (by simp[results,Tryz.results14,go_sem]) rfl ⟨rfl,Below.refl _ _⟩
theorem aAk (M:Nat) (F:Fam) (x:Int) (nm:List UInt8) (p:Int) (n cd:Nat) (ad:Option Addr) (w:World) (hF:F.ok) (hs:∀ v∈F.vs,v.l.length<=9000) (h:dU w M F) (hn:nm.length<=1000000) (hp: -9223372036854775808<=p/\p<=9223372036854775807) (hnn:n<=1000000) (he:jR F nm p n=x) (hx:x≠0):
  Calls Tryz.prog 14 #[.pointer (some ⟨M,0,none⟩),nmV nm,.int .i64 p,.slice ad n cd] w (aYj w x):=by
 obtain⟨a,c,m,hb,hf⟩:=h.form;have HM:=hid hb;have HFA:=hid hf;have HF:=hid hF;have HS:=hid hs;have hnm:nm.length<=maxLen:=by simp only[maxLen];omega
 clear hb hf h hF hs;have m0:=HM.o.c0;have m1:=HM.o.c1;obtain⟨im,i1,i2,i3,i4,x0,hin⟩:∃ im i1 i2 i3 i4 x0,eP F nm=(⟨im,i1,i2,i3,i4⟩,x0):=⟨_,_,_,_,_,_,rfl⟩;have HIN:=hid (sD F im i1 i2 i3 i4 x0 _ nm _ HF.o HS.o HFA.o hnm hin);unfold jR at he;rw[hin]at he;simp only at he;by_cases h0:x0=0
 ·subst h0;rw[if_pos rfl]at he;by_cases h1:1<=n/\n<=16
  ·rw [if_pos (by omega)]at he;obtain⟨k,y,hy⟩:∃ k y,lS F nm p n=(k,y):=⟨_,_,rfl⟩;have HND:=hid (fun W h=>zR F k y (.agg #[.slice a F.N c,.map m]) nm p n W HF.o HS.o h hnm hp (by omega) hy);have HCW:=hid (fun W h=>aJi F x (.agg #[.slice a F.N c,.map m]) nm p n W HF.o HS.o h hnm hp (by omega) he);have hn1:((n:Int)==0)=false:=by simp;omega
   by_cases hy0:y=0
   ·subst hy0;have hxb:(x != 0)=true:=by simpa using hx
    clear he hx hin hy;go_enter Tryz.func14,Tryz.ntmps14;go_wp2_with fail;refine HIN.o.mono ?_;rintro e w1 ⟨rfl,hb⟩;have hk1:=hb.bMq (.cells #[nmV im,.int .i64 i1,.int .i64 i2,.int .i64 i3,.int .i64 i4] 73);have HB:=hid hk1;have HM1:=hid (HM.o.later hk1);have HFA1:=hid (HFA.o.keep hk1);clear hb hk1 m0 m1 HM HFA;have m0:=HM1.o.c0;have m1:=HM1.o.c1;go_wp2_with fail;refine(HND.o _ HFA1.o).mono ?_;rintro e w2 ⟨rfl,hb⟩;have HB2:=hid (HB.o.on hb);have HM2:=hid (HM1.o.later hb);have HFA2:=hid (HFA1.o.keep hb);clear hb m0 m1;have m0:=HM2.o.c0;have m1:=HM2.o.c1;go_wp2_with fail;refine(HCW.o _ HFA2.o).mono ?_;rintro e w3 ⟨rfl,hb⟩;have HB3:=hid (HB2.o.on hb);clear hb m0 m1;go_wp2_with fail;refine bodyPost_ret (v:= .tuple #[.slice none 0 0,.slice none 0 0,.int .i64 x]) (by simp[results,Tryz.results14,go_sem]) rfl ⟨rfl,HB3.o⟩
   ·have hyx:y=x:=by
     rw[<-he];unfold fM;rw[hy];simp[hy0]
    subst hyx;have hxb:(y != 0)=true:=by simpa using hx
    clear he hx hin hy hy0;go_enter Tryz.func14,Tryz.ntmps14;go_wp2_with fail;refine HIN.o.mono ?_;rintro e w1 ⟨rfl,hb⟩;have hk1:=hb.bMq (.cells #[nmV im,.int .i64 i1,.int .i64 i2,.int .i64 i3,.int .i64 i4] 73);have HB:=hid hk1;have HM1:=hid (HM.o.later hk1);have HFA1:=hid (HFA.o.keep hk1);clear hb hk1 m0 m1 HM HFA;have m0:=HM1.o.c0;have m1:=HM1.o.c1;go_wp2_with fail;refine(HND.o _ HFA1.o).mono ?_;rintro e w2 ⟨rfl,hb⟩;have HB2:=hid (HB.o.on hb);clear hb m0 m1;go_wp2_with fail;refine bodyPost_ret (v:= .tuple #[.slice none 0 0,.slice none 0 0,.int .i64 y]) (by simp[results,Tryz.results14,go_sem]) rfl ⟨rfl,HB2.o⟩
  ·rw [if_neg (by omega)]at he;subst he;clear hx hin;by_cases hz:n=0
   ·subst hz;go_enter Tryz.func14,Tryz.ntmps14;go_wp2_with fail;refine HIN.o.mono ?_;rintro e w1 ⟨rfl,hb⟩;have hk1:=hb.bMq (.cells #[nmV im,.int .i64 i1,.int .i64 i2,.int .i64 i3,.int .i64 i4] 73);have HB:=hid hk1;have HM1:=hid (HM.o.later hk1);have HFA1:=hid (HFA.o.keep hk1);clear hb hk1 m0 m1 HM HFA;have m0:=HM1.o.c0;have m1:=HM1.o.c1;go_wp2_with fail;refine bodyPost_ret (v:= .tuple #[.slice none 0 0,.slice none 0 0,.int .i64 1]) (by simp[results,Tryz.results14,go_sem]) rfl ⟨rfl,HB.o⟩
   ·have hn1:((n:Int)==0)=false:=by simp;omega
    go_enter Tryz.func14,Tryz.ntmps14;go_wp2_with fail;refine HIN.o.mono ?_;rintro e w1 ⟨rfl,hb⟩;have hk1:=hb.bMq (.cells #[nmV im,.int .i64 i1,.int .i64 i2,.int .i64 i3,.int .i64 i4] 73);have HB:=hid hk1;have HM1:=hid (HM.o.later hk1);have HFA1:=hid (HFA.o.keep hk1);clear hb hk1 m0 m1 HM HFA;have m0:=HM1.o.c0;have m1:=HM1.o.c1;go_wp2_with fail;refine bodyPost_ret (v:= .tuple #[.slice none 0 0,.slice none 0 0,.int .i64 1]) (by simp[results,Tryz.results14,go_sem]) rfl ⟨rfl,HB.o⟩
 ·rw[if_neg h0]at he;subst he;have hxb:(x0 != 0)=true:=by simpa using hx
  clear hx h0 hin;go_enter Tryz.func14,Tryz.ntmps14;go_wp2_with fail;refine HIN.o.mono ?_;rintro e w1 ⟨rfl,hb⟩;have hk1:=hb.bMq (.cells #[nmV im,.int .i64 i1,.int .i64 i2,.int .i64 i3,.int .i64 i4] 73);have HB:=hid hk1;have HM1:=hid (HM.o.later hk1);have HFA1:=hid (HFA.o.keep hk1);clear hb hk1 m0 m1 HM HFA;have m0:=HM1.o.c0;have m1:=HM1.o.c1;go_wp2_with fail;refine bodyPost_ret (v:= .tuple #[.slice none 0 0,.slice none 0 0,.int .i64 x0]) (by simp[results,Tryz.results14,go_sem]) rfl ⟨rfl,HB.o⟩
theorem aXv {C:List Int} {l:List E} {b:Int} (h:fH l b=false):exB C l b=false:=by
 unfold fH at h;unfold exB aR
 cases hf:l.find? (hits b)with
 |none=>rfl
 |some x=>rw[hf]at h;simp at h
theorem aXu {C:List Int} {l:List E} {b:Int} (h:fH l b=true):exB C l b=bB C (fK l b).toNat:=by
 unfold fH at h;unfold exB aR fK
 cases hf:l.find? (hits b)with
 |none=>rw[hf]at h;simp at h
 |some x=>rfl
def exJ (C:List Int) (l:List E) (p j:Nat):Bool:=exB C l ((p+j:Nat):Int)
def gH (C:List Int) (l:List E) (p i:Nat):Nat:=aL (fun j=> !exJ C l p j) i
theorem aFf (C:List Int) (l:List E) (p:Nat):gH C l p 0=0:=rfl
theorem aYt {C:List Int} {l:List E} {p i:Nat} (h:exJ C l p i=true):gH C l p (i+1)=gH C l p i:=by
 unfold gH;simp[aL,h]
theorem lV {C:List Int} {l:List E} {p i:Nat} (h:exJ C l p i=false):gH C l p (i+1)=gH C l p i+1:=by
 unfold gH;simp[aL,h]
theorem lC (C:List Int) (l:List E) (p:Nat) {i j:Nat} (h:i<=j):gH C l p i<=gH C l p j:=by
  induction j with
  | zero => obtain rfl:i=0:=by omega
            exact Nat.le_refl _
  | succ j ih=>
    by_cases hi:i=j+1
    · subst hi;exact Nat.le_refl _
    · have:=ih (by omega);unfold gH at *;simp only[aL];omega
theorem aFg (C:List Int) (l:List E) (p n:Nat):lZ C l p n=gH C l p n:=by
 unfold lZ gH;show(n:Int)-aL (fun j=>exJ C l p j) n=_;have:(aL (fun j=>exJ C l p j) n:Int)+aL (fun j=> !exJ C l p j) n=n:=by
  induction n with
  |zero=>rfl
  | succ n ih=>
   simp only[aL];by_cases h:exJ C l p n=true
   ·rw[if_pos h,if_neg (by rw[h];simp)];omega
   ·rw[if_neg h,if_pos (by simpa using h)];omega
 omega
def dI (C:List Int) (l:List E) (p:Nat) (S:List Int) (j:Nat):Int:=if exJ C l p j=true then fK l ((p+j:Nat):Int)else S.getD (gH C l p j) 0
def wrL (C:List Int) (l:List E) (p:Nat) (S:List Int) (D:List Bk) (i:Nat):List Sw:=(List.range i).map fun j=>⟨dI C l p S j,D.getD j Bk.zero⟩
def chL (C:List Int) (l:List E) (p:Nat) (S:List Int) (i:Nat):List E:=((List.range i).filter fun j=> !exJ C l p j).map fun j=>⟨((p+j:Nat):Int),1,dI C l p S j⟩
section
variable {C:List Int} {l:List E} {p:Nat} {S:List Int} {D:List Bk}
theorem bMa:wrL C l p S D 0=[]:=rfl
theorem jY (i:Nat):(wrL C l p S D i).length=i:=by simp[wrL]
theorem aFc (i:Nat):wrL C l p S D (i+1)=wrL C l p S D i++[⟨dI C l p S i,D.getD i Bk.zero⟩]:=by simp[wrL,List.range_succ]
theorem bGz:chL C l p S 0=[]:=rfl
theorem aYd {i:Nat} (h:exJ C l p i=true):chL C l p S (i+1)=chL C l p S i:=by simp[chL,List.range_succ,List.filter_append,h]
theorem aWr {i:Nat} (h:exJ C l p i=false):chL C l p S (i+1)=chL C l p S i++[⟨((p+i:Nat):Int),1,dI C l p S i⟩]:=by simp[chL,List.range_succ,List.filter_append,h]
theorem aEy (i:Nat):(chL C l p S i).length<=i:=by
 unfold chL;rw[List.length_map];have:=List.length_filter_le (fun j=> !exJ C l p j) (List.range i)
 simpa using this
theorem aAd {i:Nat} (h:exJ C l p i=true):dI C l p S i=fK l ((p+i:Nat):Int):=if_pos h
theorem aAe {i:Nat} (h:exJ C l p i=false):dI C l p S i=S.getD (gH C l p i) 0:=if_neg (by rw[h];simp)
theorem aLo {n:Nat} (hS:∀ s∈S,0<=s/\s<65536) (hp:p+n<=65536) (hn:gH C l p n<=S.length):∀ i,i<=n->aI (chL C l p S i)=true:=by
 intro i hi;refine(bQ _).2 ⟨?_,?_⟩
 ·intro x hx;unfold chL at hx;obtain⟨j,hj,rfl⟩:=List.mem_map.1 hx;rw[List.mem_filter,List.mem_range]at hj;obtain⟨hj1,hj2⟩:=hj;have hj2:exJ C l p j=false:=by simpa using hj2
  have hu:=lC C l p (show j+1<=n by omega);rw[lV hj2]at hu;have hlt:gH C l p j<S.length:=by omega
  have hs:=hS _ (List.getElem_mem hlt);rw[aD,aAe hj2,List.getD_eq_getElem?_getD,List.getElem?_eq_getElem hlt,Option.getD_some];simp only;omega
 ·unfold chL;rw[List.pairwise_map];refine List.Pairwise.filter _ ?_;exact List.pairwise_lt_range.imp fun {a b} h=>by simp only;omega
end
theorem aMe:∀ {A B:List Vol},fI A->fI B->(∀x,x∈A↔x∈B)->A=B:=by
 intro A
 induction A with
 | nil=>
  intro B _ _ h
  cases B with
  |nil=>rfl
  |cons b B=>exact absurd ((h b).2 (by simp)) (by simp)
 | cons a A ih=>
  intro B hA hB h
  cases B with
  |nil=>exact absurd ((h a).1 (by simp)) (by simp)
  | cons b B=>
   obtain ⟨hA1,hA2⟩:=List.pairwise_cons.1 hA;obtain⟨hB1,hB2⟩:=List.pairwise_cons.1 hB;have hab:a=b:=by
    rcases List.mem_cons.1 ((h a).1 (by simp))with e|e
    ·exact e
    ·rcases List.mem_cons.1 ((h b).2 (by simp))with e2|e2
     ·exact e2.symm
     ·have h1:=qD _ _ (hB1 a e);rw[hA1 b e2]at h1;cases h1
   subst hab;congr 1;refine ih hA2 hB2 fun x=>⟨fun hx=> ?_,fun hx=> ?_⟩
   ·rcases List.mem_cons.1 ((h x).1 (List.mem_cons_of_mem _ hx))with rfl|e
    ·have h1:=hA1 x hx;rw[before_irrefl]at h1;cases h1
    ·exact e
   ·rcases List.mem_cons.1 ((h x).2 (List.mem_cons_of_mem _ hx))with rfl|e
    ·have h1:=hB1 x hx;rw[before_irrefl]at h1;cases h1
    ·exact e
theorem aEu {F G:Fam} (hF:F.ok) (hG:G.ok) (hN:F.N=G.N) (h:∀ nm,aP F.vs nm=aP G.vs nm):F=G:=by
 obtain⟨N,vs⟩:=F;obtain⟨M,ws⟩:=G;simp only at hN h;subst hN;congr 1;refine aMe hF.sorted hG.sorted fun x=>⟨fun hx=> ?_,fun hx=> ?_⟩
 ·have h1:aP vs x.nm=some x:=iO hF.sorted hx;rw[h]at h1;exact(aH h1).1
 ·have h1:aP ws x.nm=some x:=iO hG.sorted hx;rw[<-h]at h1;exact(aH h1).1
theorem aGr {A B:List E} (hA:aI A=true) (nA:eX A=true) (hB:aI B=true) (nB:eX B=true) (h:∀ p,aR A p=aR B p):A=B:=by
 have:=wC A B hA hB h
 rwa [(mD A).2 nA,(mD B).2 nB]at this
theorem aDd (x:E) (r:List E) (b:Int):aR (x::r) b=if hits b x then some (x.s+b-x.a)else aR r b:=by
 unfold aR;by_cases h:hits b x=true
 ·rw[List.find?_cons_of_pos h,if_pos h];rfl
 ·rw[List.find?_cons_of_neg h,if_neg h]
theorem rY (l:List E) (e b:Int) (h:bG e l=true) (hb:b<e):aR l b=none:=by
 refine lN l b fun x hx=> ?_;have:=((nX l e).1 h).2.2 x hx;unfold hits;rw[decide_eq_false (by omega)];rfl
theorem zI (i:Nat) (l:List E):∀ e,0<=e->bG e l=true->cnt l i=aL (fun b:Nat=>decide (aR l b=some (i:Int))) 65536:=by
 induction l with
 |nil=>intro e _ _;rw[dL _ _ fun b _=>by simp[aR]];rfl
 | cons x r ih=>
  intro e h0 hv;have hv':=hv;simp only[bG,Bool.and_eq_true,decide_eq_true_eq]at hv';obtain⟨c1,c2,c3,c4,c5⟩:=(aD x).1 hv'.1;have hr:=hv'.2.2;have h1:=ih (x.a+x.n) (by omega) hr;rw[aSe,h1];have e1:aL (fun b:Nat=>decide (aR (x::r) b=some (i:Int))) 65536=aL (fun b:Nat=>(hits b x&&decide (x.s+b-x.a=i))||decide (aR r b=some (i:Int))) 65536:=aN _ _ _ fun b _=>by
   rw[aDd];by_cases h:hits b x=true
   ·have hb:(b:Int)<x.a+x.n:=by
     simp only[hits,Bool.and_eq_true,decide_eq_true_eq]at h;exact h.2
    rw[if_pos h,h,rY r _ b hr hb];simp
   ·rw[if_neg h];have h:hits b x=false:=by simpa using h
    rw[h];simp
  rw [e1,rU _ _ _ fun b _ hb hc=>by
   simp only[Bool.and_eq_true,hits,decide_eq_true_eq]at hb hc;rw[rY r _ b hr hb.1.2]at hc
   cases hc]
  have e2:(aL (fun b:Nat=>hits b x&&decide (x.s+b-x.a=i)) 65536:Int)=uJ x i:=by
   obtain⟨k,hk,hc⟩:=aEx x i;rw[hk];rcases hc with ⟨⟨q1,q2⟩,rfl⟩|⟨q,rfl⟩
   ·have:=aBg (x.a+i-x.s).toNat 65536 (by omega);rw[aN _ (fun b=>decide (b=(x.a+i-x.s).toNat)) _ fun b _=>by
     rw[Bool.eq_iff_iff];simp only[hits,Bool.and_eq_true,decide_eq_true_eq];omega,this]
    rfl
   ·rw [dL _ _ fun b _=>by
     rw[Bool.eq_false_iff];simp only[hits,ne_eq,Bool.and_eq_true,decide_eq_true_eq];omega]
    rfl
  rw[<-e2];omega
def aVn (l:List E):Prop:= ∀b c s,aR l b=some s->aR l c=some s->b=c
def Fam.once (F:Fam):Prop:= ∀v∈F.vs,aVn v.l
theorem bCo (f:Nat->Bool) (n:Nat) (h:∀ i j,f i=true->f j=true->i=j):aL f n<=1:=by
 induction n with
 |zero=>simp[aL]
 | succ n ih=>
  simp only[aL];by_cases hn:f n=true
  ·rw [if_pos hn,dL f n fun i hi=>by
    rw[Bool.eq_false_iff];intro hc;have:=h i n hc hn
    omega]
   exact Nat.le_refl _
  ·rw[if_neg hn];exact ih
theorem aXx {l:List E} (hv:aI l=true) (h:aVn l) (i:Nat):cnt l i<=1:=by
 rw [zI i l 0 (Int.le_refl _) hv];have:=bCo (fun b:Nat=>decide (aR l b=some (i:Int))) 65536 fun a b ha hb=>by
  have:=h a b i (of_decide_eq_true ha) (of_decide_eq_true hb);omega
 omega
theorem aLj {l:List E} (hv:aI l=true) {b s:Int} (h:aR l b=some s) (hs:0<=s):1<=cnt l s.toNat:=by
 have hb:0<=b/\b<65536:=by
  by_cases hq:b<0∨65536<=b
  ·rw[pR l hv b hq]at h;cases h
  ·omega
 rw[zI s.toNat l 0 (Int.le_refl _) hv];by_cases hz:aL (fun b:Nat=>decide (aR l b=some ((s.toNat:Nat):Int))) 65536=0
 ·have h1:decide (aR l ((b.toNat:Nat):Int)=some ((s.toNat:Nat):Int))=false:=(kX _ _).1 hz b.toNat (by omega);rw[Int.toNat_of_nonneg hs,Int.toNat_of_nonneg hb.1,h]at h1;simp at h1
 ·omega
theorem bGu {l:List E} (hv:aI l=true) {i:Nat} (h:∀ b,aR l b≠some (i:Int)):cnt l i=0:=by
 rw [zI i l 0 (Int.le_refl _) hv,dL _ _ fun b _=>by
  rw[decide_eq_false (h b)]]
 rfl
theorem aOs {N:Nat} {l:List E} (h:aS N l=true) {b s:Int} (hs:aR l b=some s):0<=s/\s<N:=by
 unfold aR at hs
 cases hf:l.find? (hits b)with
 |none=>rw[hf]at hs;simp at hs
 | some x=>
  rw[hf]at hs;have h1:=(aO _ _).1 h x (List.mem_of_find?_eq_some hf);have h2:=List.find?_some hf;simp only[hits,Bool.and_eq_true,decide_eq_true_eq]at h2;simp at hs;omega
theorem aBl (l:List E) (b:Int):aR l b=if fH l b=true then some (fK l b)else none:=by
 unfold aR fH fK;cases l.find? (hits b) <;> simp
theorem aSb {F:Fam} (hF:F.ok) {v:Vol} (hv:aP F.vs v.nm=some v) (i:Nat) (hi:i<F.N):cnt v.l i<=F.C.getD i 0:=by
 rw[hF.get i hi,<-qX hF.sorted hv];have:=lU (bP F.vs v.nm) i;omega
theorem aYf {G:Fam} {u:Vol} (hu:aP G.vs u.nm=some u) {x:E} (h0:0<=x.a) (h1:1<=x.n) (h2:x.a+x.n<=u.n) (h3:0<=x.s) (h4:x.s+x.n<=G.N):
  aQ G u.nm x=(G.with (u.set (bK u.l x)),dS G (G.with (u.set (bK u.l x))),0):=by
 have hx:(inB x.a x.n u.n&&qN G.N x)=true:=by
  rw[Bool.and_eq_true];exact⟨(iN _ _ _).2 ⟨by omega,by omega,by omega,by omega⟩,decide_eq_true ⟨h1,h3,h4⟩⟩
 unfold aQ;rw[hu];show(if (inB x.a x.n u.n&&qN G.N x)=false then _ else _)=_;rw[if_neg (by rw[hx];decide)]
structure PW (F:Fam) (v:Vol) (p n:Nat) (S:List Int):Prop where
 sound:F.sound
 once:F.once
 get:aP F.vs v.nm=some v
 le:((p+n:Nat):Int)<=v.n
 room:lZ F.C v.l p n<=aX F.C v+cB F
 fresh:∀ s∈S,0<=s/\s<F.N/\F.C.getD s.toNat 0=0
 nodup:S.Nodup
 much:gH F.C v.l p n<=S.length
section
variable {F:Fam} {v:Vol} {p n:Nat} {S:List Int}
theorem PW.vok (h:PW F v p n S):v.ok F.N:=h.sound.ok.vol v (aH h.get).1
theorem uG {C:List Int} {l:List E} {p j:Nat} (S:List Int) (h:exJ C l p j=true):∃ s,aR l ((p+j:Nat):Int)=some s/\dI C l p S j=s/\C.getD s.toNat 0=1:=by
 rw[aAd h];unfold exJ exB at h;rw[aBl]at h ⊢;cases hf:fH l ((p+j:Nat):Int)
 ·rw[hf,if_neg (by decide)]at h;cases h
 ·rw[hf,if_pos rfl]at h;exact⟨_,by rw[if_pos rfl],rfl,by simpa [bB]using h⟩
theorem PW.pick_new (h:PW F v p n S) {j:Nat} (hj:j<n) (hx:exJ F.C v.l p j=false):gH F.C v.l p j<S.length/\dI F.C v.l p S j∈S/\ ∀u,(hu:u<S.length)->S[u]=dI F.C v.l p S j->u=gH F.C v.l p j:=by
 have h1:=lC F.C v.l p (show j+1<=n by omega);rw[lV hx]at h1;have h2:=h.much;have hlt:gH F.C v.l p j<S.length:=by omega
 have e:dI F.C v.l p S j=S[gH F.C v.l p j]:=by
  rw[aAe hx,List.getD_eq_getElem?_getD,List.getElem?_eq_getElem hlt];rfl
 rw[e];refine⟨hlt,List.getElem_mem hlt,fun u hu he=> ?_⟩;have hpw:=List.pairwise_iff_getElem.1 h.nodup;rcases Nat.lt_trichotomy u (gH F.C v.l p j)with q|q|q
 ·exact absurd he (hpw _ _ hu hlt q)
 ·exact q
 ·exact absurd he.symm (hpw _ _ hlt hu q)
theorem PW.pick_fit (h:PW F v p n S) {j:Nat} (hj:j<n):0<=dI F.C v.l p S j/\dI F.C v.l p S j<F.N:=by
 cases hx:exJ F.C v.l p j
 ·have:=h.fresh _ (h.pick_new hj hx).2.1;omega
 ·obtain⟨s,h1,h2,_⟩:=uG S hx;rw[h2];exact aOs h.vok.perm h1
theorem PW.pick_inj (h:PW F v p n S) {j k:Nat} (hj:j<n) (hk:k<n) (he:dI F.C v.l p S j=dI F.C v.l p S k):j=k:=by
 cases hx:exJ F.C v.l p j
 ·obtain ⟨a1,a12,_⟩:=h.pick_new hj hx;have a2:=h.fresh _ a12;cases hy:exJ F.C v.l p k
  ·have b1:=h.pick_new hk hy;have c:=b1.2.2 _ a1 (by
    rw[<-he,aAe hx,List.getD_eq_getElem?_getD,List.getElem?_eq_getElem a1]
    rfl)
   rcases Nat.lt_trichotomy j k with q|q|q
   ·have:=lC F.C v.l p (show j+1<=k by omega);rw[lV hx]at this;omega
   ·exact q
   ·have:=lC F.C v.l p (show k+1<=j by omega);rw[lV hy]at this;omega
  ·obtain⟨s,h1,h2,h3⟩:=uG S hy;rw[he,h2]at a2;omega
 ·obtain ⟨s,h1,h2,h3⟩:=uG S hx;cases hy:exJ F.C v.l p k
  ·have a2:=h.fresh _ (h.pick_new hk hy).2.1;rw[<-he,h2]at a2;omega
  ·obtain⟨t,g1,g2,g3⟩:=uG S hy;obtain rfl:s=t:=by rw[<-h2,<-g2,he]
   have:=h.once v (aH h.get).1 _ _ _ h1 g1;omega
def newAt (C:List Int) (l:List E) (p:Nat) (S:List Int) (j:Nat) (b:Int):Option Int:=if (p:Int)<=b/\b<(p:Int)+j then some (dI C l p S (b-p).toNat)else aR l b
theorem aAi {C:List Int} {l:List E} {p:Nat} {S:List Int} {j k:Nat} (h:k<j):newAt C l p S j ((p+k:Nat):Int)=some (dI C l p S k):=by
 unfold newAt;rw[if_pos (by omega),show(((p+k:Nat):Int)-p).toNat=k by omega]
theorem xK {C:List Int} {l:List E} {p:Nat} {S:List Int} {j:Nat} {b:Int} (h:¬ ((p:Int)<=b/\b<(p:Int)+j)):newAt C l p S j b=aR l b:=if_neg h
theorem rP {C:List Int} {l:List E} {p:Nat} {S:List Int} {j:Nat} {b s:Int} (h:newAt C l p S j b=some s):(∃k,k<j/\b=((p+k:Nat):Int)/\dI C l p S k=s)∨(¬((p:Int)<=b/\b<(p:Int)+j)/\aR l b=some s):=by
 by_cases hb:(p:Int)<=b/\b<(p:Int)+j
 ·obtain⟨k,hk⟩:∃ k:Nat,b=((p+k:Nat):Int):=⟨(b-p).toNat,by omega⟩;subst hk;rw[aAi (by omega)]at h;exact .inl ⟨k,by omega,rfl,Option.some.inj h⟩
 ·rw[xK hb]at h;exact .inr ⟨hb,h⟩
theorem PW.used (h:PW F v p n S) {b s:Int} (hs:aR v.l b=some s):1<=F.C.getD s.toNat 0/\1<=cnt v.l s.toNat/\0<=s/\s<F.N:=by
 have h1:=aOs h.vok.perm hs;have h2:=aLj h.vok.valid hs h1.1;have h3:=aSb h.sound.ok h.get s.toNat (by omega);omega
theorem PW.new_inj (h:PW F v p n S) {j:Nat} (hj:j<=n) (b c s:Int) (hb:newAt F.C v.l p S j b=some s) (hc:newAt F.C v.l p S j c=some s):b=c:=by
 have key:∀ {b c:Int},(∃k,k<j/\b=((p+k:Nat):Int)/\dI F.C v.l p S k=s)->(¬((p:Int)<=c/\c<(p:Int)+j)/\aR v.l c=some s)->b=c:=by
  rintro b c ⟨k,hk,rfl,hp⟩ ⟨ho,hs⟩;cases hx:exJ F.C v.l p k
  ·have a2:=h.fresh _ (h.pick_new (show k<n by omega) hx).2.1;have a3:=h.used hs;rw[hp]at a2;omega
  ·obtain⟨t,g1,g2,g3⟩:=uG S hx;obtain rfl:t=s:=by rw[<-g2,hp]
   exact h.once v (aH h.get).1 _ _ _ g1 hs
 rcases rP hb with h1|h1
 ·rcases rP hc with h2|h2
  ·obtain⟨k,hk,rfl,hp⟩:=h1;obtain⟨m,hm,rfl,hq⟩:=h2;rw[h.pick_inj (show k<n by omega) (show m<n by omega) (by rw[hp,hq])]
  ·exact key h1 h2
 ·rcases rP hc with h2|h2
  ·exact(key h2 h1).symm
  ·exact h.once v (aH h.get).1 _ _ _ h1.2 h2.2
structure WrJ (F:Fam) (v:Vol) (p n:Nat) (S:List Int) (j:Nat) (G:Fam) (L:List E):Prop where
 wi:WrI F v p n j G
 get:aP G.vs v.nm=some (v.set L)
 at':∀ b,aR L b=newAt F.C v.l p S j b
 num:∀ i,i<F.N->G.C.getD i 0+cnt v.l i=F.C.getD i 0+cnt L i
theorem WrJ.start (h:PW F v p n S):WrJ F v p n S 0 F v.l:=
 ⟨WrI.start h.sound.ok h.get p n h.sound.room h.room,h.get,fun b=>(xK (by omega)).symm,fun _ _=>rfl⟩
theorem WrJ.lok {j:Nat} {G:Fam} {L:List E} (hw:WrJ F v p n S j G L):(v.set L).ok G.N:=hw.wi.ok.vol _ (aH hw.get).1
theorem WrJ.inj (h:PW F v p n S) {j:Nat} (hj:j<=n) {G:Fam} {L:List E} (hw:WrJ F v p n S j G L):aVn L:=fun b c s hb hc=>by
 rw[hw.at']at hb hc;exact h.new_inj hj b c s hb hc
theorem WrJ.same (h:PW F v p n S) {j:Nat} (hj:j<=n) {G:Fam} {L:List E} (hw:WrJ F v p n S j G L) {b c s:Int} (h1:aR v.l b=some s) (h2:aR L c=some s):G.C.getD s.toNat 0=F.C.getD s.toNat 0:=by
 have a:=h.used h1;have e1:=hw.num s.toNat (by omega);have e2:=aXx h.vok.valid (h.once v (aH h.get).1) s.toNat;have e3:=aXx hw.lok.valid (hw.inj h hj) s.toNat;have e4:=aLj hw.lok.valid h2 (by omega);have e5:cnt (v.set L).l s.toNat=cnt L s.toNat:=rfl;omega
theorem WrJ.step (h:PW F v p n S) {j:Nat} (hj:j<n) {G:Fam} {L:List E} (hw:WrJ F v p n S j G L):
  ∃G' L',(aQ G v.nm ⟨((p+j:Nat):Int),1,dI F.C v.l p S j⟩).1=G'/\(aQ G v.nm ⟨((p+j:Nat):Int),1,dI F.C v.l p S j⟩).2.2=0/\WrJ F v p n S (j+1) G' L':=by
 have hle:=h.le;have hn2:=h.vok.n2;have hN:=h.sound.ok.hN;have hGN:=hw.wi.N;obtain⟨q0,q1⟩:=h.pick_fit hj;have ha:=aYf (u:=v.set L) hw.get (x:=⟨((p+j:Nat):Int),1,dI F.C v.l p S j⟩) (by simp only;omega) (by simp) (by show _<=v.n;simp only;omega) q0 (by simp only;omega);have hok2:=nH hw.wi.ok (v.set L).nm ⟨((p+j:Nat):Int),1,dI F.C v.l p S j⟩;have hpj:aR L ((p+j:Nat):Int)=aR v.l ((p+j:Nat):Int):=by rw[hw.at',xK (by omega)]
 have hxo:okB ⟨((p+j:Nat):Int),1,dI F.C v.l p S j⟩=true:=(aD _).2 ⟨by simp,by simp only;omega,q0,by simp only;omega,by simp only;omega⟩;have hnew:∀ b,aR (bK L ⟨((p+j:Nat):Int),1,dI F.C v.l p S j⟩) b=newAt F.C v.l p S (j+1) b:=fun b=>by
  rw[tK L _ b hxo hw.lok.valid];by_cases hb:b=((p+j:Nat):Int)
  ·subst hb;rw[if_pos (by simp only;omega),aAi (by omega)];congr 1;simp only;omega
  ·rw[if_neg (by simp only;omega),hw.at'];unfold newAt;by_cases hb2:(p:Int)<=b/\b<(p:Int)+j
   ·rw[if_pos hb2,if_pos (by omega)]
   ·rw[if_neg hb2,if_neg (by omega)]
 rw[show(v.set L).nm=v.nm from rfl]at ha hok2;rw[ha]at hok2;have hcn:=fun i (hi:i<G.N)=>aFd hw.wi.ok (v:=v.set L) hw.get hok2 i hi;rw[ha];cases hx:exJ F.C v.l p j
 ·obtain ⟨a1,a2,_⟩:=h.pick_new hj hx;obtain⟨_,_,a3⟩:=h.fresh _ a2;obtain⟨s,hs⟩:=Int.eq_ofNat_of_zero_le q0;have hsl:s<F.N:=by omega
  have hz:G.C.getD s 0=0:=by
   have e1:=hw.num s hsl;have e2:=aSb h.sound.ok h.get s hsl;have e3:=(bZ v.l s).1;rw[hs,Int.toNat_natCast]at a3;have e4:cnt L s=0:=bGu hw.lok.valid fun b hb=>by
    have hb:aR L b=some (s:Int):=hb;rw[hw.at']at hb;rcases rP hb with ⟨k,hk,rfl,hp⟩|⟨_,hq⟩
    ·have:=h.pick_inj (show k<n by omega) hj (by rw[hp,hs]);omega
    ·have:=(h.used hq).1;rw[Int.toNat_natCast]at this;omega
   omega
  have hex:exB G.C L ((p+j:Nat):Int)=false:=by
   have hx2:=hx;unfold exJ at hx2;unfold exB at hx2 ⊢;rw[hpj]
   cases hsl:aR v.l ((p+j:Nat):Int)with
   |none=>rfl
   | some t=>
    rw[hsl]at hx2;have:=hw.same h (by omega) hsl (hpj.trans hsl);simp only[bB]at hx2 ⊢;rw[this];exact hx2
  obtain⟨G',g1,_,g3⟩:=hw.wi.step hj hw.get hex h.le (by omega) hz;rw[<-hs,ha]at g1;refine⟨_,_,rfl,rfl,by rw[g1];exact g3,?_,hnew,fun i hi=> ?_⟩
  ·show aP (eB G.vs ((v.set L).set (bK L ⟨((p+j:Nat):Int),1,dI F.C v.l p S j⟩))) v.nm=_;rw[iX hw.wi.ok.sorted,if_pos (show v.nm=((v.set L).set (bK L ⟨((p+j:Nat):Int),1,dI F.C v.l p S j⟩)).nm from rfl)];rfl
  ·have e1:=hcn i (by omega);have e2:=hw.num i hi;have e3:cnt (v.set L).l i=cnt L i:=rfl;have e4:(v.set L).l=L:=rfl;rw[e4]at e1;have e5:(G.with ((v.set L).set (bK L ⟨((p+j:Nat):Int),1,dI F.C v.l p S j⟩))).C.getD i 0+cnt v.l i=F.C.getD i 0+cnt (bK L ⟨((p+j:Nat):Int),1,dI F.C v.l p S j⟩) i:=by omega
   exact e5
 ·obtain ⟨s,h1,h2,h3⟩:=uG S hx;have hpl:bK L ⟨((p+j:Nat):Int),1,dI F.C v.l p S j⟩=L:=aGr (aFy L _ hxo hw.lok.valid) (aQe L _) hw.lok.valid hw.lok.norm fun b=>by
   rw[tK L _ b hxo hw.lok.valid];by_cases hb:b=((p+j:Nat):Int)
   ·subst hb;rw[if_pos (by simp only;omega),hpj,h1,h2];congr 1;simp only;omega
   ·rw[if_neg (by simp only;omega)]
  have hse:G.with ((v.set L).set (bK (v.set L).l ⟨((p+j:Nat):Int),1,dI F.C v.l p S j⟩))=G:=by
   refine aEu hok2 hw.wi.ok rfl fun nm=> ?_;show aP (eB G.vs ((v.set L).set (bK L ⟨((p+j:Nat):Int),1,dI F.C v.l p S j⟩))) nm=_;rw[iX hw.wi.ok.sorted];by_cases hnm:nm=v.nm
   ·rw[if_pos (show nm=((v.set L).set (bK L ⟨((p+j:Nat):Int),1,dI F.C v.l p S j⟩)).nm from hnm),hnm,hw.get,hpl];rfl
   ·rw[if_neg (show ¬nm=((v.set L).set (bK L ⟨((p+j:Nat):Int),1,dI F.C v.l p S j⟩)).nm from hnm)]
  have hex:exB G.C L ((p+j:Nat):Int)=true:=by
   unfold exB;rw[hpj,h1];have:=hw.same h (by omega) h1 (hpj.trans h1);simp only[bB];rw[this,h3];rfl
  refine⟨G,L,hse,rfl,hw.wi.skip hj hw.get hex,hw.get,fun b=>by rw[<-hnew,hpl],hw.num⟩
theorem bJw:∀ (X:List E) (F:Fam) (v:Vol) (e:Int),F.ok->aP F.vs v.nm=some v->0<=e->bG e X=true->(∀x∈X,x.a+x.n<=v.n/\x.s+x.n<=F.N)->
  aIi F v.nm X/\(aCu F v.nm X).ok/\(aCu F v.nm X).N=F.N/\(∃L,aP (aCu F v.nm X).vs v.nm=some (v.set L)/\ ∀b,aR L b=(aR X b).or (aR v.l b))/\ ∀nm,nm≠v.nm->aP (aCu F v.nm X).vs nm=aP F.vs nm:=by
 intro X
 induction X with
 |nil=>intro F v e hF hv _ _ _;exact⟨trivial,hF,rfl,⟨v.l,hv,fun b=>rfl⟩,fun _ _=>rfl⟩
 | cons x r ih=>
  intro F v e hF hv h0 hV hX;have hv':=hV;simp only[bG,Bool.and_eq_true,decide_eq_true_eq]at hv';obtain⟨c1,c2,c3,c4,c5⟩:=(aD x).1 hv'.1;have hr:=hv'.2.2;have hx:=hX x (by simp);have ha:=aYf hv (x:=x) (by omega) c1 hx.1 c3 hx.2;have hok:=nH hF v.nm x;rw[ha]at hok;have hg:∀ nm,aP (F.with (v.set (bK v.l x))).vs nm=if nm=v.nm then some (v.set (bK v.l x))else aP F.vs nm:=fun nm=>iX hF.sorted _ _;obtain⟨r1,r2,r3,⟨L,r4,r5⟩,r6⟩:=ih (F.with (v.set (bK v.l x))) (v.set (bK v.l x)) (x.a+x.n) hok (by rw[show(v.set (bK v.l x)).nm=v.nm from rfl,hg,if_pos rfl]) (by omega) hr fun y hy=>hX y (by simp[hy]);rw[show(v.set (bK v.l x)).nm=v.nm from rfl]at r1 r2 r3 r4 r6;have e1:aCu F v.nm (x::r)=aCu (F.with (v.set (bK v.l x))) v.nm r:=by
   show aCu (aQ F v.nm x).1 v.nm r=_;rw[ha]
  refine⟨⟨by rw[ha],by rw[ha];exact r1⟩,by rw[e1];exact r2,by rw[e1,r3];rfl,⟨L,by rw[e1,r4];rfl,fun b=> ?_⟩,fun nm hne=>by rw[e1,r6 nm hne,hg,if_neg hne]⟩;rw[r5,aDd,show(v.set (bK v.l x)).l=bK v.l x from rfl,tK v.l x b hv'.1 (hF.vol v (aH hv).1).valid];by_cases hb:hits b x=true
  ·rw[if_pos hb];simp only[hits,Bool.and_eq_true,decide_eq_true_eq]at hb;rw[rY r _ b hr hb.2,if_pos hb];rfl
  ·rw[if_neg hb];simp only[hits,Bool.and_eq_true,decide_eq_true_eq]at hb;rw[if_neg hb]
theorem bKn (C:List Int) (l:List E) (p:Nat) (S:List Int) (b:Int):∀ i,aR (chL C l p S i) b=if (p:Int)<=b/\b<(p:Int)+i/\exJ C l p (b-p).toNat=false then some (dI C l p S (b-p).toNat)else none:=by
 intro i
 induction i with
 |zero=>rw[bGz,if_neg (by omega)];rfl
 | succ i ih=>
  cases hx:exJ C l p i
  ·rw [aWr hx,dJ,ih,iK];by_cases hb:b=((p+i:Nat):Int)
   ·subst hb;rw[if_neg (by omega),if_pos (by simp only[hits,Bool.and_eq_true,decide_eq_true_eq];omega),show(((p+i:Nat):Int)-p).toNat=i by omega,if_pos ⟨by omega,by omega,hx⟩];simp
   ·have h2:hits b ⟨((p+i:Nat):Int),1,dI C l p S i⟩=false:=by
     simp only[hits,Bool.and_eq_false_iff,decide_eq_false_iff_not];omega
    rw[h2,if_neg (show ¬(false=true) by decide),Option.or_none];by_cases hc:(p:Int)<=b/\b<(p:Int)+i/\exJ C l p (b-p).toNat=false
    ·rw[if_pos hc,if_pos ⟨hc.1,by omega,hc.2.2⟩]
    ·rw[if_neg hc,if_neg (fun hd=>hc ⟨hd.1,by omega,hd.2.2⟩)]
  ·rw [aYd hx,ih];by_cases hc:(p:Int)<=b/\b<(p:Int)+i/\exJ C l p (b-p).toNat=false
   ·rw[if_pos hc,if_pos ⟨hc.1,by omega,hc.2.2⟩]
   ·rw [if_neg hc,if_neg (fun hd=>hc ⟨hd.1,by
     by_cases hb:b=((p+i:Nat):Int)
     ·subst hb;have:=hd.2.2;rw[show(((p+i:Nat):Int)-p).toNat=i by omega,hx]at this;cases this
     ·omega,hd.2.2⟩)]
theorem PW.fits (h:PW F v p n S):∀ s∈S,0<=s/\s<65536:=fun s hs=>by
 have:=h.fresh s hs;have:=h.sound.ok.hN;omega
theorem PW.ch_valid (h:PW F v p n S):aI (chL F.C v.l p S n)=true:=aLo h.fits (by have:=h.le;have:=h.vok.n2;omega) h.much n (Nat.le_refl _)
theorem PW.join_valid (h:PW F v p n S):aI (joinL (chL F.C v.l p S n))=true:=Go.Proofs.YtaiklhbakldfhaaGreat.zA _ h.ch_valid
theorem PW.join_in (h:PW F v p n S):∀ x∈joinL (chL F.C v.l p S n),(p:Int)<=x.a/\x.a+x.n<=(p:Int)+n/\x.s+x.n<=F.N:=fun x hx=>by
 have hv:=h.join_valid;obtain⟨c1,c2,c3,c4,c5⟩:=(aD x).1 (aK hv x hx);have at1:∀ b,hits b x=true->(p:Int)<=b/\b<(p:Int)+n/\x.s+b-x.a<F.N:=fun b hb=>by
  have h1:=yR _ hv x hx b hb;rw[oF _ _ (aK h.ch_valid),bKn]at h1;by_cases hc:(p:Int)<=b/\b<(p:Int)+n/\exJ F.C v.l p (b-p).toNat=false
  ·rw[if_pos hc]at h1;have h2:=h.pick_fit (j:=(b-p).toNat) (by omega);injection h1 with h1;omega
  ·rw[if_neg hc]at h1;cases h1
 have q1:=at1 x.a (by simp only[hits,Bool.and_eq_true,decide_eq_true_eq];omega);have q2:=at1 (x.a+x.n-1) (by simp only[hits,Bool.and_eq_true,decide_eq_true_eq];omega);omega
theorem PW.asg (h:PW F v p n S) {G:Fam} {L:List E} (hw:WrJ F v p n S n G L):aIi F v.nm (joinL (chL F.C v.l p S n))/\aCu F v.nm (joinL (chL F.C v.l p S n))=G:=by
 have hle:=h.le;obtain⟨r1,r2,r3,⟨K,r4,r5⟩,r6⟩:=bJw (joinL (chL F.C v.l p S n)) F v 0 h.sound.ok h.get (Int.le_refl _) h.join_valid fun x hx=>by
  have:=h.join_in x hx;omega
 refine⟨r1,aEu r2 hw.wi.ok (by rw[r3,hw.wi.N]) fun nm=> ?_⟩;by_cases hnm:nm=v.nm
 ·subst hnm;rw[r4,hw.get];congr 2;have k2:=r2.vol _ (aH r4).1;refine aGr k2.valid k2.norm hw.lok.valid hw.lok.norm fun b=> ?_;rw[r5,hw.at',oF _ _ (aK h.ch_valid),bKn];by_cases hb:(p:Int)<=b/\b<(p:Int)+n
  ·obtain⟨k,hk⟩:∃ k:Nat,b=((p+k:Nat):Int):=⟨(b-p).toNat,by omega⟩;subst hk;rw[aAi (by omega),show(((p+k:Nat):Int)-p).toNat=k by omega];cases hx:exJ F.C v.l p k
   ·rw[if_pos ⟨by omega,by omega,rfl⟩];rfl
   ·obtain⟨s,h1,h2,_⟩:=uG S hx;rw[if_neg (by simp),h1,h2];rfl
  ·rw[xK hb,if_neg (by omega)];rfl
 ·rw[r6 nm hnm,hw.wi.oth nm hnm]
theorem PW.apply (h:PW F v p n S) {G:Fam} {L:List E} (hw:WrJ F v p n S n G L) (hl:(iU v.nm (joinL (chL F.C v.l p S n))).length<=256):fO F (iU v.nm (joinL (chL F.C v.l p S n)))=(G,0):=by
 obtain⟨h1,h2⟩:=h.asg hw;have hnl:=(jU h.vok.name).2;rw[bHk F v.nm _ hl (by omega) (by unfold eP;rw[h.get]) (aK h.join_valid) h1,h2];unfold aEg;have:=hw.wi.room;rw[if_neg (by simp),if_neg (by simp),if_neg (by omega)]
theorem WrJ.once (h:PW F v p n S) {G:Fam} {L:List E} (hw:WrJ F v p n S n G L):G.once:=fun w hwm=>by
 have hg:=iO hw.wi.ok.sorted hwm;by_cases e:w.nm=v.nm
 ·rw[e,hw.get]at hg;rw[<-Option.some.inj hg];exact hw.inj h (Nat.le_refl _)
 ·rw[hw.wi.oth _ e]at hg;exact h.once w (aH hg).1
end
theorem aVa (N:Nat):∀ (S:List Int),(∀s∈S,0<=s/\s<N)->aL (fun i=>decide ((i:Int)∈S)) N<=S.length/\(S.length<=aL (fun i=>decide ((i:Int)∈S)) N->S.Nodup):=by
 intro S
 induction S with
 |nil=>intro _;exact⟨by rw[dL _ _ fun i _=>by simp];exact Nat.le_refl _,fun _=>List.nodup_nil⟩
 | cons s r ih=>
  intro h;obtain⟨h1,h2⟩:=ih fun t ht=>h t (by simp[ht]);have hs:=h s (by simp);have e1:aL (fun i:Nat=>decide ((i:Int)∈s::r)) N=aL (fun i:Nat=>decide (i=s.toNat)||decide ((i:Int)∈r)) N:=aN _ _ _ fun i _=>by
   rw[Bool.eq_iff_iff];simp only[Bool.or_eq_true,decide_eq_true_eq,List.mem_cons]
   constructor
   ·rintro(q|q)
    ·exact .inl (by omega)
    ·exact .inr q
   ·rintro(q|q)
    ·exact .inl (by omega)
    ·exact .inr q
  have e2:=wU (fun i:Nat=>decide (i=s.toNat)) (fun i:Nat=>decide ((i:Int)∈r)) N;have e3:=aBg s.toNat N (by omega);rw[List.length_cons,e1];refine⟨by omega,fun hle=>List.nodup_cons.2 ⟨fun hm=> ?_,h2 (by omega)⟩⟩;have e4:aL (fun i:Nat=>decide (i=s.toNat)&&decide ((i:Int)∈r)) N=0:=by omega
  have e5:(decide (s.toNat=s.toNat)&&decide (((s.toNat:Nat):Int)∈r))=false:=(kX _ _).1 e4 s.toNat (by omega);rw[Int.toNat_of_nonneg hs.1]at e5;simp[hm]at e5
theorem aZd (l:List E) (h:∀ x∈l,0<=x.n) (s:Int):s∈fT l↔ ∃x∈l,x.s<=s/\s<x.s+x.n:=by
 unfold fT;rw[List.mem_flatMap]
 constructor
 ·rintro⟨x,hx,hs⟩;unfold jZ at hs;obtain⟨k,hk,rfl⟩:=List.mem_map.1 hs;rw[List.mem_range]at hk;exact⟨x,hx,by omega,by omega⟩
 ·rintro⟨x,hx,h1,h2⟩;refine⟨x,hx,?_⟩;unfold jZ;exact List.mem_map.2 ⟨(s-x.s).toNat,by rw[List.mem_range];omega,by omega⟩
theorem vG {N:Nat} {l:List E} (h:aS N l=true):((fT l).length:Int)=aT l/\ ∀s∈fT l,0<=s/\s<N:=by
 induction l with
 |nil=>simp[fT,aT]
 | cons x r ih=>
  have hp:=(aO _ _).1 h;have hx:=hp x (by simp);obtain⟨h1,h2⟩:=ih ((aO _ _).2 fun y hy=>hp y (by simp[hy]));have e1:fT (x::r)=jZ x.s x.n.toNat++fT r:=by simp[fT]
  have e2:aT (x::r)=x.n+aT r:=by simp[aT]
  rw[e1,e2,List.length_append,yQ];refine⟨by omega,fun s hs=> ?_⟩;rcases List.mem_append.1 hs with hs|hs
  ·unfold jZ at hs;obtain⟨k,hk,rfl⟩:=List.mem_map.1 hs;rw[List.mem_range]at hk;omega
  ·exact h2 s hs
def sO (F:Fam) (nm:List UInt8) (p:Int) (k:Nat):List Int:=fT (fZ (eO F.C) k (yI F nm p).toNat)
theorem bEi {F:Fam} (hF:F.ok) (nm:List UInt8) (p:Int) (k:Nat) (hf:k<=aL (dC (eO F.C)) F.N):
  (sO F nm p k).length=k/\(∀s∈sO F nm p k,0<=s/\s<F.N/\F.C.getD s.toNat 0=0)/\(sO F nm p k).Nodup:=by
 have hN:=hF.hN;have hml:(eO F.C).length=F.N:=by rw[kJ,F.bMs]
 have ht:=sJ (M:=eO F.C) (by omega) (n:=k) (h:=(yI F nm p).toNat) (by rw[hml];exact hf);unfold sO;generalize fZ (eO F.C) k (yI F nm p).toNat=l at ht;have hp:=ht.perm;have hg:=(vJ (by rw[hml];exact hN) ht.range).2.2;rw[hml]at hp hg;obtain⟨h1,h2⟩:=vG hp;have h3:=ht.len;have hm:=aZd l fun x hx=>by have:=(aO _ _).1 hp x hx;omega
 have ha:aL (fun i=>decide ((i:Int)∈fT l)) F.N=aL (dX l) F.N:=aN _ _ _ fun i _=>by
  rw[Bool.eq_iff_iff,decide_eq_true_eq,hm,sQ]
 unfold aCi at hg;refine⟨by omega,fun s hs=> ?_,(aVa F.N (fT l) h2).2 (by rw[ha];omega)⟩;obtain⟨q0,q1⟩:=h2 s hs;have hl:dX l s.toNat=true:=(sQ _ _).2 (by
  obtain⟨x,hx,a,b⟩:=(hm s).1 hs
  exact⟨x,hx,by omega,by omega⟩)
 have hz:=ht.free _ hl;rw[uE _ _ (by rw[F.bMs];omega)]at hz;exact⟨q0,q1,of_decide_eq_true hz⟩
theorem bAk {F:Fam} {v:Vol} {p n:Nat} (hF:F.ok) (hv:aP F.vs v.nm=some v) (he:jR F v.nm p n=0):1<=n/\n<=16/\fM F v.nm p n=0:=by
 unfold jR at he;rw[aGx F hF hv]at he;simp only at he;by_cases h:1<=(n:Int)/\(n:Int)<=16
 ·rw[if_pos trivial,if_pos h]at he;exact⟨by omega,by omega,he⟩
 ·rw[if_pos trivial,if_neg h]at he;simp at he
theorem bEf {F:Fam} {nm:List UInt8} {p n:Int} (he:jR F nm p n=0):1<=n/\n<=16/\fM F nm p n=0:=by
 unfold jR at he;by_cases h1:(eP F nm).2=0
 ·rw[if_pos h1]at he;by_cases h2:1<=n/\n<=16
  ·rw[if_pos h2]at he;exact⟨h2.1,h2.2,he⟩
  ·rw[if_neg h2]at he;cases he
 ·rw[if_neg h1]at he;exact absurd he h1
theorem bBn {F:Fam}:aL (dC (eO F.C)) F.N=aL (bS F.C) F.N:=aN _ _ _ fun i hi=>uE _ _ (by rw[F.bMs];exact hi)
theorem aJv {F:Fam} (hF:F.sound) (ho:F.once) {nm:List UInt8} {p n:Int} (he:jR F nm p n=0):
  ∃(v:Vol) (p0 n0 k:Nat),aP F.vs v.nm=some v/\v.nm=nm/\p=p0/\n=n0/\1<=n0/\n0<=16/\gH F.C v.l p0 n0=k/\k<=aL (dC (eO F.C)) F.N/\PW F v p0 n0 (sO F v.nm p0 k):=by
 obtain ⟨h1,h2,h3⟩:=bEf he;obtain⟨v,p0,n0,hv,rfl,rfl,rfl,hb,hr,_⟩:=aNq hF.ok hF.short h3 hF.room;have hc:=bCc hF.ok hv;have hrf:cB F=mV F-jO F:=rfl;have hfr:mV F=aL (bS F.C) F.N:=rfl;have hun:=aFg F.C v.l p0 n0;have hk:gH F.C v.l p0 n0<=aL (dC (eO F.C)) F.N:=by
  rw[bBn];omega
 obtain⟨s1,s2,s3⟩:=bEi hF.ok v.nm p0 (gH F.C v.l p0 n0) hk;exact⟨v,p0,n0,_,hv,rfl,rfl,rfl,by omega,by omega,rfl,hk,⟨hF,ho,hv,hb,hr,s2,s3,by omega⟩⟩
theorem PW.at {F:Fam} {v:Vol} {p n:Nat} {S:List Int} (h:PW F v p n S):∀ j,j<=n-> ∃G L,WrJ F v p n S j G L:=by
 intro j
 induction j with
 |zero=>intro _;exact⟨_,_,WrJ.start h⟩
 | succ j ih=>
  intro hj;obtain⟨G,L,hw⟩:=ih (by omega);obtain⟨G',L',_,_,h3⟩:=hw.step h (by omega);exact⟨G',L',h3⟩
theorem aCa {F:Fam} {v:Vol} {b:Int} (hv:aP F.vs v.nm=some v) (h0:0<=b) (h1:b<v.n):fQ F v.nm b=(fK v.l b,fH v.l b,0):=by
 rcases tZ F v.nm b with ⟨h,_⟩|⟨u,h,⟨h2,_⟩|⟨_,_,h2⟩⟩
 ·rw[hv]at h;cases h
 ·rw[hv]at h;cases h;omega
 ·rw[hv]at h;cases h;exact h2
open Go.Lib (uvarint uvarint_small uvarint_big) in
theorem yO {n:Nat} (h:n<128):(uvarint n).length=1:=by rw[uvarint_small h];rfl
open Go.Lib (uvarint uvarint_small uvarint_big) in
theorem bDa {n:Nat} (h:n<16384):(uvarint n).length<=2:=by
 by_cases h1:n<128
 ·rw[yO h1];omega
 ·rw[uvarint_big (by omega),List.length_cons,yO (by omega)];exact Nat.le_refl _
open Go.Lib (uvarint uvarint_small uvarint_big) in
theorem bDb {n:Nat} (h:n<2097152):(uvarint n).length<=3:=by
 by_cases h1:n<128
 ·rw[yO h1];omega
 ·rw[uvarint_big (by omega),List.length_cons];have:=bDa (n:=n/128) (by omega);omega
theorem aRv {x:Int} (h0:0<=x) (h1:x<128):(encI x).length=1:=yO (by omega)
theorem bMl {x:Int} (h0:0<=x) (h1:x<16384):(encI x).length<=2:=bDa (by omega)
theorem iA {x:Int} (h0:0<=x) (h1:x<2097152):(encI x).length<=3:=bDb (by omega)
theorem bJg {x:E} (h0:0<=x.a/\x.a<65536) (h1:0<=x.n/\x.n<128) (h2:0<=x.s/\x.s<65536):(aEh x).length<=7:=by
 unfold aEh numsL;simp only[List.flatMap_cons,List.flatMap_nil,List.append_nil,List.length_append];have a:=iA (x:=x.a) h0.1 (by omega);have b:=aRv h1.1 h1.2;have c:=iA (x:=x.s) h2.1 (by omega);omega
theorem aRu (m:Nat) (l:List E) (h:∀ x∈l,(aEh x).length<=m):(iZ l).length<=m*l.length:=by
 induction l with
 |nil=>simp[iZ]
 | cons x r ih=>
  unfold iZ at ih ⊢;rw[List.flatMap_cons,List.length_append,List.length_cons,Nat.mul_succ];have:=ih fun y hy=>h y (by simp[hy]);have:=h x (by simp);omega
theorem sF (k:Nat) (nm:List UInt8) (hk:k<128) (hn:nm.length<128):(pG k nm).length=2+nm.length:=by
 unfold pG wN;rw[List.length_append,List.length_append,yO hk,yO hn];omega
theorem PW.note_le {F:Fam} {v:Vol} {p n:Nat} {S:List Int} (h:PW F v p n S) (hn:n<=16):(iU v.nm (joinL (chL F.C v.l p S n))).length<=19+7*n:=by
 have hnl:=(jU h.vok.name).2;have h1:=aEy (C:=F.C) (l:=v.l) (p:=p) (S:=S) n;have h2:=jL (chL F.C v.l p S n);have h3:=aRu 7 (joinL (chL F.C v.l p S n)) fun x hx=>by
  have q:=h.join_in x hx;obtain⟨c1,c2,c3,c4,c5⟩:=(aD x).1 (aK h.join_valid x hx);exact bJg ⟨by omega,by omega⟩ ⟨by omega,by omega⟩ ⟨by omega,by omega⟩
 unfold iU;rw[List.length_append,List.length_append,sF 1 v.nm (by omega) (by omega),aRv (by omega) (by omega)];have h4:7*(joinL (chL F.C v.l p S n)).length<=7*n:=Nat.mul_le_mul_left _ (by omega);omega
end Go.Proofs.YtaiklhbakldfhaaGreat
