/-
  tegularef36: how a family of the reference lies in memory; New, At.
  tegularef36: the list that 'with' makes (plain).
  tegularef36: with.
  Conditions: as each theorem says.
-/
import Derived.Test.YtaiklhbakldfhaaGreatHA
namespace Go.Proofs.YtaiklhbakldfhaaGreat
open Go.Lib (hid)
set_option linter.unusedSimpArgs false
set_option linter.unusedVariables false
set_option maxRecDepth 100000
set_option maxHeartbeats 16000000
open Go.RowKit
structure RT where
 nm:List UInt8
 n:Int
 r:Int
 a:Option Addr
 c:Nat
 l:List E
def RT.vol (x:RT):Vol:=⟨x.nm,x.n,x.r,x.l⟩
abbrev RT.sl (x:RT):Value:= .slice x.a x.l.length x.c
abbrev RT.val (x:RT):Value:= .agg #[nmV x.nm,.int .i64 x.n,.int .i64 x.r,x.sl]
def RT.cells (x:RT):List Value:=[nmV x.nm,.int .i64 x.n,.int .i64 x.r,x.sl]
def fF (ts:List RT):List Value:=ts.flatMap RT.cells
theorem oC (l:List RT):(fF l).length=l.length*4:=by
 induction l with
 |nil=>rfl
 |cons x r ih=>simp only[fF,List.flatMap_cons,List.length_append,List.length_cons]at ih ⊢;rw[ih];simp[RT.cells];omega
theorem yL (l r:List RT):fF (l++r)=fF l++fF r:=by simp[fF]
theorem aHy (l:List RT):∀ (k:Nat) (x:RT),l[k]? =some x->(fF l)[k*4]? =some (nmV x.nm)/\(fF l)[k*4+1]? =some (.int .i64 x.n)/\(fF l)[k*4+2]? =some (.int .i64 x.r)/\(fF l)[k*4+3]? =some x.sl:=by
 induction l with
 |nil=>intro k x h;simp at h
 | cons y r ih=>
  intro k x h
  cases k with
  |zero=>simp at h;subst h;simp[fF,RT.cells]
  | succ k=>
   obtain⟨h1,h2,h3,h4⟩:=ih k x (by simpa using h);have e:fF (y::r)=y.cells++fF r:=rfl;have e4:y.cells.length=4:=rfl;rw[e];refine⟨?_,?_,?_,?_⟩
   ·rw[List.getElem?_append_right (by omega),<-h1];congr 1;omega
   ·rw[List.getElem?_append_right (by omega),<-h2];congr 1;omega
   ·rw[List.getElem?_append_right (by omega),<-h3];congr 1;omega
   ·rw[List.getElem?_append_right (by omega),<-h4];congr 1;omega
theorem jP (l:List RT):∀ u∈fF l,u.oneCell'=true:=by
 intro u hu;simp only[fF,List.mem_flatMap,RT.cells]at hu;obtain⟨x,_,hx⟩:=hu;simp at hx;rcases hx with rfl|rfl|rfl|rfl <;> rfl
theorem aVo:(Tryz.prog.info? 153).map (fun i=>(i.zero,i.size,i.bytes))=some (some (.agg #[.string ⟨#[]⟩,.int .i64 0,.int .i64 0,.slice none 0 0]),4,56):=by kernel_rfl
structure AtR (w:World) (b o k:Nat) (x:RT):Prop where
 c0:w.cell? ⟨b,o+k*4,none⟩=some (nmV x.nm)
 c1:w.cell? ⟨b,o+k*4+1,none⟩=some (.int .i64 x.n)
 c2:w.cell? ⟨b,o+k*4+2,none⟩=some (.int .i64 x.r)
 c3:w.cell? ⟨b,o+k*4+3,none⟩=some x.sl
theorem AtR.keep {w w':World} {b o k:Nat} {x:RT} (h:AtR w b o k x) (hb:Below w.heap.size w w'):AtR w' b o k x:=⟨hb.keep h.c0,hb.keep h.c1,hb.keep h.c2,hb.keep h.c3⟩
def nV (w:World) (ts:List RT):Prop:= ∀x∈ts,Rd w x.a x.l
theorem nV.keep {w w':World} {ts:List RT} (h:nV w ts) (hb:Below w.heap.size w w'):nV w' ts:=fun x hx=>(h x hx).keep hb
def RdR (w:World) (a:Option Addr) (ts:List RT):Prop:=
 ts.length<=1000000/\(ts=[]∨ ∃b o,a=some ⟨b,o,none⟩/\ ∀k x,ts[k]? =some x->AtR w b o k x)
theorem RdR.keep {w w':World} {a:Option Addr} {ts:List RT} (h:RdR w a ts) (hb:Below w.heap.size w w'):RdR w' a ts:=
 ⟨h.1,h.2.imp id fun⟨b,o,ha,hc⟩=>⟨b,o,ha,fun k x hk=>(hc k x hk).keep hb⟩⟩
theorem RdR.at {w:World} {a:Option Addr} {l:List RT} (hr:RdR w a l) (h:0<l.length):∃ b o,a=some ⟨b,o,none⟩/\ ∀k x,l[k]? =some x->AtR w b o k x:=
 hr.2.resolve_left (by intro e;rw[e]at h;simp at h)
def jA (w:World) (B:Nat) (v:Value) (l:List RT):Prop:=w.ownsRow B 153 4 v l.length (fF l)
theorem jA.nil (w:World) (B:Nat):jA w B (.slice none 0 0) []:=World.ownsRow_nil _ _ _ _
theorem jA.lt {w:World} {B:Nat} {v:Value} {l:List RT} (h:jA w B v l):∀ k,v.ownBlock=some k->B<=k/\k<w.heap.size:=World.ownsRow.lt h
theorem jA.keep {w w':World} {B:Nat} {v:Value} {l:List RT} (h:jA w B v l) (hb:Below w.heap.size w w'):jA w' B v l:=
 World.ownsRow.kept h (row:=none) ⟨hb.os,hb.tape,hb.output,hb.size,fun k hk _=>hb.block k hk⟩ (by cases hv:v.ownBlock <;> simp)
theorem jA.rd {w:World} {B:Nat} {v:Value} {l:List RT} (h:jA w B v l) (hl:l.length<=1000000):∃ a c,v= .slice a l.length c/\RdR w a l:=by
 rcases h.2 with ⟨rfl,hn⟩|⟨g,cap,cur,rfl,hb,hg,hn,hc,hs,ht⟩
 ·obtain rfl:=List.eq_nil_of_length_eq_zero hn;exact⟨_,_,rfl,by simp,.inl rfl⟩
 ·refine⟨_,_,rfl,hl,.inr ⟨g,0,rfl,fun k x hk=> ?_⟩⟩;have hk':k<l.length:=(List.getElem?_eq_some_iff.1 hk).1;obtain⟨h1,h2,h3,h4⟩:=aHy l k x hk;have c:=fun j hj=>World.ownsRow.cellAt (cap:=cap) h j hj;refine⟨?_,?_,?_,?_⟩
  ·rw[Nat.zero_add,c _ (by omega),h1]
  ·rw[Nat.zero_add,c _ (by omega),h2]
  ·rw[Nat.zero_add,c _ (by omega),h3]
  ·rw[Nat.zero_add,c _ (by omega),h4]
theorem jA.cap {w:World} {B:Nat} {a:Option Addr} {n c:Nat} {l:List RT} (h:jA w B (.slice a n c) l):l.length<=c:=by
 rcases h.2 with ⟨h1,hn⟩|⟨g,cap,cur,h1,hb,hg,hn,hc,hs,ht⟩
 ·omega
 ·injection h1 with _ _ h1;omega
def bI (w:World) (v:Value) (F:Fam):Prop:= ∃a c ts,v= .agg #[.int .i64 F.N,.slice a ts.length c]/\RdR w a ts/\nV w ts/\ts.map RT.vol=F.vs/\ts.length<=c
theorem bI.keep {w w':World} {v:Value} {F:Fam} (h:bI w v F) (hb:Below w.heap.size w w'):bI w' v F:=by
 obtain⟨a,c,ts,rfl,h1,h2,h3⟩:=h;exact⟨a,c,ts,rfl,h1.keep hb,h2.keep hb,h3⟩
def aMo (ts:List RT) (nm:List UInt8):Option Nat:=ts.findIdx? fun x=>x.nm==nm
def atC (ts:List RT) (nm:List UInt8):Int:=match aMo ts nm with
 |some k=>k
 |none=> -1
theorem aSp {ts:List RT} {nm:List UInt8} (h:∀ x∈ts,(x.nm==nm)=false):atC ts nm= -1:=by
 have:aMo ts nm=none:=List.findIdx?_eq_none_iff.2 h;simp[atC,this]
theorem bHc {ts:List RT} {nm:List UInt8} {k:Nat} (hk:k<ts.length) (h:∀ x∈ts.take k,(x.nm==nm)=false) (he:(ts[k].nm==nm)=true):atC ts nm=k:=by
 have:aMo ts nm=some k:=List.findIdx?_eq_some_iff_getElem.2 ⟨hk,he,fun j hj=>by
  have:=h ts[j] (List.mem_take_iff_getElem.2 ⟨j,by omega,rfl⟩)
  simpa using this⟩
 simp[atC,this]
theorem bLa (N:Int) (ts:List RT) (nm:List UInt8) (a:Option Addr) (c:Nat) (w:World) (hr:RdR w a ts):
  Calls Tryz.prog 102 #[.agg #[.int .i64 N,.slice a ts.length c],nmV nm] w fun e w'=>e= .returned (.int .i64 (atC ts nm))/\Below w.heap.size w w':=by
 have hlen:=hr.1;have hb:=(Below.refl w.heap.size w).bMq (.cells #[.int .i64 N,.slice a ts.length c] 31);have HB:=hid hb;have HR:=hid (hr.keep hb);clear hb hr;go_enter Tryz.func102,Tryz.ntmps102;go_wp2_with fail;have HC:Hid ((w.alloc (.cells #[.int .i64 N,.slice a ts.length c] 31)).cell? ⟨w.heap.size,1,none⟩=some (.slice a ts.length c)):=hid (by simp);generalize w.alloc (.cells #[.int .i64 N,.slice a ts.length c] 31)=w0 at *;go_loopw [5] (fun i wr=>∃ k:Nat,k<=ts.length/\i= .int .i64 k/\(∀x∈ts.take k,(x.nm==nm)=false)/\Below w0.heap.size w0 wr) (fun i _=>ts.length-(intOf i).toNat)
 case atStart=>exact⟨0,Nat.zero_le _,rfl,by simp,Below.refl _ _⟩
 case round=>
  obtain⟨k,hk,rfl,hn,hB⟩:=hrel;have q1:=hB.keep HC.o;by_cases hlt:k<ts.length
  ·obtain ⟨b,o,rfl,hat⟩:=(HR.o.keep hB).at (by omega);have h1:=(hat k _ (List.getElem?_eq_getElem hlt)).c0;have HN:=hid hn;have HBB:=hid hB;have HFIN:=hid (fun he=>bHc hlt hn he);have HNX:=hid (fun(he:(ts[k].nm==nm)=false) (x:RT) (hx:x∈ts.take (k+1))=>by
    rw[List.take_succ_eq_append_getElem hlt,List.mem_append,List.mem_singleton]at hx;rcases hx with hx|rfl
    ·exact hn x hx
    ·exact he)
   generalize ts[k]=x at *;cases hq:(x.nm==nm)
   ·have HQ:=hid hq;have he:(x.nm=nm)=False:=by simpa using hq
    clear hn hB hat;go_wp2;go_roundw
    case rel=>exact⟨k+1,by omega,by go_num,HNX.o HQ.o,HBB.o⟩
    case measure=>simp[intOf];omega
   ·have HQ:=hid hq;have he:(x.nm=nm)=True:=by simpa using hq
    clear hn hB hat;go_wp2;go_ret;exact⟨by rw[HFIN.o HQ.o];rfl,HB.o.on HBB.o⟩
  ·obtain rfl:k=ts.length:=by omega
   rw[List.take_length]at hn;have HA:=hid (aSp hn);have HBB:=hid hB;clear hn hB;go_wp2;go_ret;exact⟨by rw[HA.o];rfl,HB.o.on HBB.o⟩
structure RG (w W:World) (R:Nat):Prop where
 r0:W.cell? ⟨R,0,none⟩=some (.int .i64 0)
 r1:W.cell? ⟨R,1,none⟩=some (.slice none 0 0)
 f0:W.frozen? ⟨R,0,none⟩=false
 f1:W.frozen? ⟨R,1,none⟩=false
 r2:∀ i,2<=i->W.cell? ⟨R,i,none⟩=none
 le:w.heap.size<=R
 bel:Below w.heap.size w W
theorem RG.lt {w W:World} {R:Nat} (h:RG w W R):R<W.heap.size:=World.block_lt_of_cell? W ⟨R,0,none⟩ h.r0
theorem RG.later {w W W':World} {R:Nat} (h:RG w W R) (hb:Below W.heap.size W W'):RG w W' R:=
 ⟨hb.keep h.r0,hb.keep h.r1,hb.bMw h.r0 h.f0,hb.bMw h.r1 h.f1,fun i hi=>(hb.cell (p:=⟨R,i,none⟩) h.lt).trans (h.r2 i hi),h.le,h.bel.on hb⟩
theorem RG.new (w W:World) (t:TypeId) (h:Below w.heap.size w W):RG w (W.alloc (.cells #[.int .i64 0,.slice none 0 0] t)) W.heap.size:=by
 refine⟨by simp,by simp,by simp,by simp,fun i hi=> ?_,h.size,h.bMq _⟩;rw[World.cell?_alloc_new];simp;omega
section
variable {w W:World} {R:Nat} (h:RG w W R) {u v:Value}
include h
theorem RG.cells:(dN W R u v).cell? ⟨R,0,none⟩=some u/\(dN W R u v).cell? ⟨R,1,none⟩=some v:=by
 constructor
 ·rw[World.cell?_setCell_other _ _ _ _ (by simp),World.cell?_setCell_same _ _ _ h.r0]
 ·rw[World.cell?_setCell_same (u:= .slice none 0 0)];rw[World.cell?_setCell_other _ _ _ _ (by simp),h.r1]
theorem RG.below:Below w.heap.size w (dN W R u v):=(h.bel.setCell h.le _).setCell h.le _
end
def bKb (w:World) (G:Fam) (e0:Int) (e:Ending) (w':World):Prop:= ∃gv,e= .returned (.tuple #[gv,.int .i64 e0])/\bI w' gv G/\Below w.heap.size w w'
theorem bI.empty (w:World) (N:Nat):bI w (.agg #[.int .i64 N,.slice none 0 0]) ⟨N,[]⟩:=
 ⟨none,0,[],rfl,⟨by simp,.inl rfl⟩,fun x hx=>by simp at hx,rfl,Nat.le_refl _⟩
theorem aFv (n:Nat) (w:World) (hn:n<=65536):Calls Tryz.prog 15 #[.int .i64 n] w (bKb w ⟨n,[]⟩ 0):=by
 go_enter Tryz.func15,Tryz.ntmps15;go_wp2_with fail
 (try simp only[Exit.inBlock,Exit.then])
 refine bodyPost_ret (v:= .tuple #[.agg #[.int .i64 n,.slice none 0 0],.int .i64 0]) (by first|(rw[results_cell_tmp rfl];go_simp;done)|(rw[aB rfl];go_simp;done)|(rw[aA rfl];go_simp;done)) rfl ?_;exact⟨_,rfl,bI.empty _ _,(Below.refl _ _).bMq _⟩
def lM (v:RT) (s:List RT × Bool) (x:RT):List RT × Bool:=
 let s1:=if (!s.2&& !bytesBefore x.nm v.nm)then (s.1++[v],true)else s
 if x.nm=v.nm then s1 else (s1.1++[x],s1.2)
def kU (v:RT) (ts:List RT):List RT × Bool:=ts.foldl (lM v) ([],false)
def iL (ts:List RT) (v:RT):List RT:=if (kU v ts).2 then (kU v ts).1 else (kU v ts).1++[v]
theorem aVf (v:RT) (ts:List RT) (k:Nat) (h:k<ts.length):kU v (ts.take (k+1))=lM v (kU v (ts.take k)) ts[k]:=by
 unfold kU;rw[List.take_succ_eq_append_getElem h,List.foldl_append];rfl
def zU (ts:List RT):Prop:=ts.Pairwise fun a b=>bytesBefore a.nm b.nm=true
def aNc (v:RT):List RT->List RT
 | []=>[v]
 |w::r=>if bytesBefore v.nm w.nm then v::w::r else w::aNc v r
def qW (ts:List RT) (nm:List UInt8):List RT:=ts.filter fun w=> !(w.nm==nm)
theorem bFl (v:RT) (ts:List RT):(aNc v ts).map RT.vol=pX v.vol (ts.map RT.vol):=by
 induction ts with
 |nil=>rfl
 | cons w r ih=>
  have h:(bytesBefore v.vol.nm w.vol.nm)=bytesBefore v.nm w.nm:=rfl;unfold aNc;rw[List.map_cons];unfold pX;rw[h];by_cases hb:bytesBefore v.nm w.nm=true
  ·rw[if_pos hb,if_pos hb];rfl
  ·rw[if_neg hb,if_neg hb,List.map_cons,ih]
theorem bGp (ts:List RT) (nm:List UInt8):(qW ts nm).map RT.vol=bP (ts.map RT.vol) nm:=by
 unfold qW bP;rw[List.filter_map];rfl
theorem aKq (v:RT):∀ (ts:List RT) (out:List RT),ts.foldl (lM v) (out,true)=(out++qW ts v.nm,true)
 | [],out=>by simp[qW]
 | x::r,out=>by
  rw [List.foldl_cons];have:lM v (out,true) x=(out++qW [x] v.nm,true):=by
   unfold lM;by_cases h:x.nm=v.nm
   ·simp[qW,h]
   ·simp[qW,h]
  rw[this,aKq v r];simp[qW,List.filter_cons]
  split <;> simp
theorem aDq (v:RT):∀ (ts:List RT) (out:List RT),zU ts->
  (let s:=ts.foldl (lM v) (out,false);if s.2 then s.1 else s.1++[v])=out++aNc v (qW ts v.nm)
 | [],out,_=>by simp[qW,aNc]
 | x ::r,out,hs=>by
  have hs':=List.pairwise_cons.1 hs;rw[List.foldl_cons];by_cases hb:bytesBefore x.nm v.nm=true
  ·have hne:x.nm≠v.nm:=fun e=>by rw[e,WideAt.bytes_irrefl]at hb;cases hb
   have hvb:bytesBefore v.nm x.nm=false:=by
    cases h:bytesBefore v.nm x.nm
    ·rfl
    ·have:=WideShapes.bytes_trans _ _ _ hb h;rw[WideAt.bytes_irrefl]at this;cases this
   have h1:lM v (out,false) x=(out++[x],false):=by simp[lM,hb,hne]
   rw[h1,aDq v r _ hs'.2];have h2:qW (x::r) v.nm=x::qW r v.nm:=by simp[qW,List.filter_cons,hne]
   rw[h2];simp[aNc,hvb]
  ·have hb':bytesBefore x.nm v.nm=false:=by simpa using hb
   have h1:lM v (out,false) x=((out++[v])++qW [x] v.nm,true):=by
    unfold lM;by_cases h:x.nm=v.nm
    ·simp[qW,h,WideAt.bytes_irrefl]
    ·simp[qW,h,hb']
   rw [h1,aKq];have h3:∀ y∈qW (x::r) v.nm,bytesBefore v.nm y.nm=true:=fun y hy=>by
    simp only[qW,List.mem_filter,Bool.not_eq_true',beq_eq_false_iff_ne]at hy;obtain⟨hm,hn⟩:=hy;have hxy:x=y∨bytesBefore x.nm y.nm=true:=by
     rcases List.mem_cons.1 hm with h|h
     ·exact .inl h.symm
     ·exact .inr (hs'.1 y h)
    refine(WideAt.bytes_total v.nm y.nm fun e=>hn e.symm).resolve_right fun h=> ?_;rcases hxy with rfl|h5
    ·rw[h]at hb';cases hb'
    ·have:=WideShapes.bytes_trans _ _ _ h5 h;rw[this]at hb';cases hb'
   have h4:aNc v (qW (x::r) v.nm)=v::qW (x::r) v.nm:=by
    cases hd:qW (x::r) v.nm with
    |nil=>rfl
    | cons y s=>
     have:=h3 y (by rw[hd];simp);simp[aNc,this]
   rw[h4];simp[qW,List.filter_cons]
   split <;> simp
theorem bCx (ts:List RT) (v:RT) (h:zU ts):iL ts v=aNc v (qW ts v.nm):=by
 have:=aDq v ts [] h;exact this.trans (List.nil_append _)
theorem aBi (ts:List RT) (v:RT) (h:zU ts):(iL ts v).map RT.vol=eB (ts.map RT.vol) v.vol:=by
 rw[bCx ts v h,bFl,bGp];rfl
theorem aMy (v:RT) (ts:List RT):(kU v ts).1.length<=ts.length+1:=by
 have:∀ (ts:List RT) (s:List RT × Bool),(ts.foldl (lM v) s).1.length+(if (ts.foldl (lM v) s).2 then 0 else 1)<=s.1.length+ts.length+(if s.2 then 0 else 1):=by
  intro ts
  induction ts with
  |nil=>intro s;exact Nat.le_refl _
  | cons x r ih=>
   intro s;rw[List.foldl_cons];refine Nat.le_trans (ih _) ?_;obtain⟨o,d⟩:=s;unfold lM;cases d <;> cases bytesBefore x.nm v.nm <;> by_cases h:x.nm=v.nm <;> simp[h] <;> omega
 have h:=this ts ([],false);simp only[kU];simp at h;omega
theorem aKk {v:RT} {ts:List RT} {x:RT} (h:x∈(kU v ts).1):x=v∨x∈ts:=by
 have:∀ (ts:List RT) (s:List RT × Bool),x∈(ts.foldl (lM v) s).1->x∈s.1∨x=v∨x∈ts:=by
  intro ts
  induction ts with
  |nil=>intro s h;exact .inl h
  | cons y r ih=>
   intro s h;rw[List.foldl_cons]at h;rcases ih _ h with h|h|h
   ·obtain⟨o,d⟩:=s;unfold lM at h
    split at h <;> split at h <;> simp at h ⊢ <;> grind
   ·exact .inr (.inl h)
   ·exact .inr (.inr (List.mem_cons_of_mem _ h))
 rcases this ts ([],false) h with h|h
 ·simp at h
 ·exact h
theorem aBx {v:RT} {ts:List RT} {x:RT} (h:x∈iL ts v):x=v∨x∈ts:=by
 unfold iL at h
 split at h
 ·exact aKk h
 ·rcases List.mem_append.1 h with h|h
  ·exact aKk h
  ·exact .inl (by simpa using h)
open Go.RowKit
structure WH (w W:World) (N:Int) (a:Option Addr) (m c:Nat) (v:RT) (out:List RT) (O:Value):Prop where
 f1:W.cell? ⟨w.heap.size,1,none⟩=some (.slice a m c)
 v0:W.cell? ⟨w.heap.size+1,0,none⟩=some (nmV v.nm)
 v1:W.cell? ⟨w.heap.size+1,1,none⟩=some (.int .i64 v.n)
 v2:W.cell? ⟨w.heap.size+1,2,none⟩=some (.int .i64 v.r)
 v3:W.cell? ⟨w.heap.size+1,3,none⟩=some v.sl
 rg:RG w W (w.heap.size+1+1)
 o0:W.cell? ⟨w.heap.size+1+1+1,0,none⟩=some (.int .i64 N)
 o1:W.cell? ⟨w.heap.size+1+1+1,1,none⟩=some O
 fo:W.frozen? ⟨w.heap.size+1+1+1,1,none⟩=false
 own:jA W (w.heap.size+1+1+1+1) O out
theorem WH.lt {w W:World} {N:Int} {a:Option Addr} {m c:Nat} {v:RT} {out:List RT} {O:Value} (h:WH w W N a m c v out O):w.heap.size+1+1+1<W.heap.size:=World.block_lt_of_cell? W ⟨w.heap.size+1+1+1,0,none⟩ h.o0
theorem WH.later {w W W':World} {N:Int} {a:Option Addr} {m c:Nat} {v:RT} {out:List RT} {O:Value} (h:WH w W N a m c v out O) (hb:Below W.heap.size W W'):WH w W' N a m c v out O:=
 ⟨hb.keep h.f1,hb.keep h.v0,hb.keep h.v1,hb.keep h.v2,hb.keep h.v3,h.rg.later hb,hb.keep h.o0,hb.keep h.o1,hb.bMw h.o1 h.fo,h.own.keep hb⟩
theorem jA.far {w:World} {B:Nat} {v:Value} {l:List RT} (h:jA w B v l) (p:Addr) (u:Value) (hp:v.ownBlock≠some p.block):jA (w.setCell p u) B v l:=by
 refine⟨h.1,h.2.imp id fun⟨g,cap,cur,hv,hb,hg,r⟩=>⟨g,cap,cur,hv,hb,?_,r⟩⟩;rw[RowKit.Below.heap_setCell _ _ _ _ (fun e=>hp (by rw[hv];exact congrArg some e))];exact hg
theorem WH.put {w W W':World} {N:Int} {a:Option Addr} {m c:Nat} {v:RT} {out:List RT} {O:Value} (h:WH w W N a m c v out O) {O':Value} {out':List RT} (hg:W.grownBy W' O.ownBlock)
  (ho:jA W' (w.heap.size+1+1+1+1) O' out') (hw:O'.ownBlock=O.ownBlock∨O'.ownBlock=some W.heap.size):WH w (W'.setCell ⟨w.heap.size+1+1+1,1,none⟩ O') N a m c v out' O':=by
 have hlt:=h.lt;have hlo:∀ k,O.ownBlock=some k->w.heap.size+1+1+1+1<=k:=fun k hk=>(h.own.lt k hk).1;have hk:∀ k,k<w.heap.size+1+1+1+1->W'.heap[k]? =W.heap[k]? :=fun k hk=>hg.block k (by omega) fun e=>by have:=hlo k e.symm;omega
 have hc:∀ (b i:Nat),b<w.heap.size+1+1+1->(W'.setCell ⟨w.heap.size+1+1+1,1,none⟩ O').cell? ⟨b,i,none⟩=W.cell? ⟨b,i,none⟩:=fun b i hb=>by
  rw[cell_far (by simp only;omega)];exact World.cell?_of_block (hk b (by omega))
 have hf:∀ (b i:Nat),b<w.heap.size+1+1+1+1->(W'.setCell ⟨w.heap.size+1+1+1,1,none⟩ O').frozen? ⟨b,i,none⟩=W.frozen? ⟨b,i,none⟩:=fun b i hb=>by
  rw[World.frozen?_setCell];exact World.frozen?_of_block (hk b hb)
 have q1:W'.cell? ⟨w.heap.size+1+1+1,1,none⟩=some O:=(World.cell?_of_block (hk (w.heap.size+1+1+1) (by omega))).trans h.o1;refine⟨(hc _ _ (by omega)).trans h.f1,(hc _ _ (by omega)).trans h.v0,(hc _ _ (by omega)).trans h.v1,(hc _ _ (by omega)).trans h.v2,(hc _ _ (by omega)).trans h.v3,?_,?_,World.cell?_setCell_same _ _ _ q1,(hf _ _ (by omega)).trans h.fo,?_⟩
 ·exact⟨(hc _ _ (by omega)).trans h.rg.r0,(hc _ _ (by omega)).trans h.rg.r1,(hf _ _ (by omega)).trans h.rg.f0,(hf _ _ (by omega)).trans h.rg.f1,fun i hi=>(hc _ _ (by omega)).trans (h.rg.r2 i hi),h.rg.le,(h.rg.bel.grown hg (by omega) fun k hk=>by have:=hlo k hk;omega).setCell (p:=⟨w.heap.size+1+1+1,1,none⟩) (by simp only;omega) O'⟩
 ·rw[World.cell?_setCell_other _ _ _ _ (by simp)];exact(World.cell?_of_block (hk (w.heap.size+1+1+1) (by omega))).trans h.o0
 ·have:O'.ownBlock≠some (w.heap.size+1+1+1):=fun e=>by have:=(ho.lt _ e).1;omega
  exact jA.far ho _ _ this
theorem jA.snoc {w:World} {B:Nat} {v:Value} {l:List RT} {y:RT} (h:w.ownsRow B 153 4 v (l.length+1) (fF l++y.cells)):jA w B v (l++[y]):=by
 unfold jA;rw[yL,List.length_append];have:fF [y]=y.cells:=by simp[fF]
 rw[this];exact h
theorem WH.app {w W w3:World} {N:Int} {a:Option Addr} {m c n:Nat} {v y:RT} {out:List RT} {O v':Value} {t:TypeId} (h:WH w W N a m c v out O)
  (hown:w3.ownsRow (w.heap.size+1+1+1+1) 153 4 v' n (fF out++y.cells)) (hn:n=out.length+1) (hg:(W.alloc (.cells #[nmV y.nm,.int .i64 y.n,.int .i64 y.r,y.sl] t)).grownBy w3 O.ownBlock)
  (hw:v'.ownBlock=O.ownBlock∨v'.ownBlock=some (W.heap.size+1)):WH w (w3.setCell ⟨w.heap.size+1+1+1,1,none⟩ v') N a m c v (out++[y]) v':=
 (h.later ((Below.refl _ _).bMq (.cells #[nmV y.nm,.int .i64 y.n,.int .i64 y.r,y.sl] t))).put hg (jA.snoc (by rw[<-hn];exact hown)) (by simpa using hw)
theorem WH.pre {w W w3:World} {N:Int} {a:Option Addr} {m c:Nat} {v y:RT} {out:List RT} {O:Value} {t:TypeId} (h:WH w W N a m c v out O)
  (hg:(W.alloc (.cells #[nmV y.nm,.int .i64 y.n,.int .i64 y.r,y.sl] t)).grownBy w3 O.ownBlock):w3.cell? ⟨w.heap.size+1+1+1,1,none⟩=some O/\w3.frozen? ⟨w.heap.size+1+1+1,1,none⟩=false:=by
 have h2:=h.later ((Below.refl _ _).bMq (.cells #[nmV y.nm,.int .i64 y.n,.int .i64 y.r,y.sl] t));have hb:=hg.block (w.heap.size+1+1+1) h2.lt fun e=>by have:=(h2.own.lt _ e.symm).1;omega
 exact⟨(World.cell?_of_block hb).trans h2.o1,(World.frozen?_of_block hb).trans h2.fo⟩
theorem WH.rows {w W:World} {N:Int} {a:Option Addr} {m c:Nat} {v:RT} {out:List RT} {oa:Option Addr} {n oc:Nat} {u z:Value} (h:WH w W N a m c v out (.slice oa n oc)) (hn:n=out.length) (hl:out.length<=1000000):RdR (dN W (w.heap.size+1+1) u z) oa out:=by
 subst hn;have hne:(Value.slice oa out.length oc).ownBlock≠some (w.heap.size+1+1):=fun e=>by have:=(h.own.lt _ e).1;omega
 obtain⟨a',c',he,hr⟩:=(jA.far (jA.far h.own ⟨w.heap.size+1+1,0,none⟩ u hne) ⟨w.heap.size+1+1,1,none⟩ z hne).rd hl;injection he with he;rw[he];exact hr
structure XH (W:World) (Y:Nat) (x:RT):Prop where
 x0:W.cell? ⟨Y,0,none⟩=some (nmV x.nm)
 x1:W.cell? ⟨Y,1,none⟩=some (.int .i64 x.n)
 x2:W.cell? ⟨Y,2,none⟩=some (.int .i64 x.r)
 x3:W.cell? ⟨Y,3,none⟩=some x.sl
theorem XH.lt {W:World} {Y:Nat} {x:RT} (h:XH W Y x):Y<W.heap.size:=World.block_lt_of_cell? W ⟨Y,0,none⟩ h.x0
theorem XH.new (W:World) (x:RT) (t:TypeId):XH (W.alloc (.cells #[nmV x.nm,.int .i64 x.n,.int .i64 x.r,x.sl] t)) W.heap.size x:=by
 refine⟨by simp,by simp,by simp,by simp⟩
theorem XH.fit (V:World) (B:Nat) (hB:V.heap.size=B) (x:RT) (t:TypeId):XH (V.alloc (.cells #[nmV x.nm,.int .i64 x.n,.int .i64 x.r,x.sl] t)) B x:=by
 subst hB;exact XH.new _ _ _
theorem XH.later {W W':World} {Y:Nat} {x:RT} (h:XH W Y x) (hb:Below W.heap.size W W'):XH W' Y x:=⟨hb.keep h.x0,hb.keep h.x1,hb.keep h.x2,hb.keep h.x3⟩
theorem XH.put {W W':World} {Y S:Nat} {x:RT} {row:Option Nat} {u:Value} (h:XH W Y x) (hg:W.grownBy W' row) (hO:row≠some Y) (hS:Y≠S):XH (W'.setCell ⟨S,1,none⟩ u) Y x:=by
 have hlt:=h.lt;have k:∀ i,(W'.setCell ⟨S,1,none⟩ u).cell? ⟨Y,i,none⟩=W.cell? ⟨Y,i,none⟩:=fun i=>by
  rw[cell_far (by simpa using hS)];exact World.cell?_of_block (hg.block Y hlt fun e=>hO e.symm)
 exact⟨(k 0).trans h.x0,(k 1).trans h.x1,(k 2).trans h.x2,(k 3).trans h.x3⟩
theorem oJ:∀ (a b:List UInt8),Op.bytesLess a b=bytesBefore a b
 | [],[]=>rfl
 | [],_::_=>rfl
 |_::_,[]=>rfl
 |x::r,y::s=>by simp only[Op.bytesLess,bytesBefore,oJ r s]
theorem new2 (V:World) (B:Nat) (hB:V.heap.size=B) (x y:Value) (t:TypeId):(V.alloc (.cells #[x,y] t)).cell? ⟨B,0,none⟩=some x/\(V.alloc (.cells #[x,y] t)).cell? ⟨B,1,none⟩=some y/\(V.alloc (.cells #[x,y] t)).frozen? ⟨B,1,none⟩=false:=by
 subst hB;simp
theorem WH.new (w:World) (N:Int) (a:Option Addr) (m c:Nat) (v:RT) (t1 t2 t3 t4:TypeId):
  WH w ((((w.alloc (.cells #[.int .i64 N,.slice a m c] t1)).alloc (.cells #[nmV v.nm,.int .i64 v.n,.int .i64 v.r,v.sl] t2)).alloc (.cells #[.int .i64 0,.slice none 0 0] t3)).alloc (.cells #[.int .i64 N,.slice none 0 0] t4)) N a m c v [] (.slice none 0 0):=by
 have hb1:=(Below.refl w.heap.size w).bMq (.cells #[.int .i64 N,.slice a m c] t1);have hb2:=hb1.bMq (.cells #[nmV v.nm,.int .i64 v.n,.int .i64 v.r,v.sl] t2);have hr:=RG.new w _ t3 hb2;rw[show((w.alloc (.cells #[.int .i64 N,.slice a m c] t1)).alloc (.cells #[nmV v.nm,.int .i64 v.n,.int .i64 v.r,v.sl] t2)).heap.size=w.heap.size+1+1 by simp]at hr;obtain⟨q0,q1,q2⟩:=new2 (((w.alloc (.cells #[.int .i64 N,.slice a m c] t1)).alloc (.cells #[nmV v.nm,.int .i64 v.n,.int .i64 v.r,v.sl] t2)).alloc (.cells #[.int .i64 0,.slice none 0 0] t3)) (w.heap.size+1+1+1) (by simp) (.int .i64 N) (.slice none 0 0) t4;refine⟨?_,?_,?_,?_,?_,hr.later ((Below.refl _ _).bMq _),q0,q1,q2,jA.nil _ _⟩
 all_goals simp[World.cell?_alloc_lt]
theorem zV (N:Int) (ts:List RT) (v:RT) (a:Option Addr) (c:Nat) (w:World) (hr:RdR w a ts) (hfew:ts.length<=1000):
  Calls Tryz.prog 149 #[.agg #[.int .i64 N,.slice a ts.length c],v.val] w fun e w'=>∃ a' c',e= .returned (.agg #[.int .i64 N,.slice a' (iL ts v).length c'])/\RdR w' a' (iL ts v)/\(iL ts v).length<=c'/\Below w.heap.size w w':=by
 have hlen:=hr.1;have H0:=hid (WH.new w N a ts.length c v 31 153 31 31);have HR:=hid hr;clear hr;go_enter Tryz.func149,Tryz.ntmps149;go_wp2_with fail;generalize (((w.alloc (.cells #[.int .i64 N,.slice a ts.length c] 31)).alloc (.cells #[nmV v.nm,.int .i64 v.n,.int .i64 v.r,v.sl] 153)).alloc (.cells #[.int .i64 0,.slice none 0 0] 31)).alloc (.cells #[.int .i64 N,.slice none 0 0] 31)=w0 at *;have HT:=hid (aVf v ts);have HLL:=hid (fun k=>aMy v (ts.take k));go_loopw [6,7] (fun d i wr=>∃ (k:Nat) (O:Value),k<=ts.length/\i= .int .i64 k/\d= .bool (kU v (ts.take k)).2/\WH w wr N a ts.length c v (kU v (ts.take k)).1 O) (fun _ i _=>ts.length-(intOf i).toNat)
 case atStart=>exact⟨0,_,Nat.zero_le _,rfl,rfl,H0.o⟩
 case round=>
  obtain⟨k,O,hk,rfl,rfl,hW⟩:=hrel;have q1:=hW.f1;by_cases hlt:k<ts.length
  ·obtain ⟨b,o,rfl,hat⟩:=(HR.o.keep hW.rg.bel).at (by omega);obtain⟨e0,e1,e2,e3⟩:=hat k _ (List.getElem?_eq_getElem hlt);have HW:=hid hW;have HTK:=hid (HT.o k hlt);have HLK:=hid (HLL.o k);generalize ts[k]=x at *;generalize kU v (ts.take k)=s at *;have hX:=hW.later ((Below.refl wr.heap.size wr).bMq (.cells #[nmV x.nm,.int .i64 x.n,.int .i64 x.r,x.sl] 153));have HX:=hid hX;have v0:=hX.v0;have v1:=hX.v1;have v2:=hX.v2;have v3:=hX.v3;have o1:=hX.o1;have fo:=hX.fo;clear hat hW hX;obtain⟨out,d⟩:=s;dsimp only at HW HX HLK;obtain⟨oa,oc,rfl,_⟩:=HW.o.own.rd (by show out.length<=_;have:out.length<=_:=HLK.o;have:=List.length_take_le k ts;omega);have hol:out.length<=2000:=by have:out.length<=_:=HLK.o;have:=List.length_take_le k ts;omega
   obtain⟨i0,hi,hz0,hz1,hz2⟩:=info_parts aVo;cases d
   ·cases hbl:Op.bytesLess x.nm v.nm
    ·cases heq:(x.nm==v.nm)
     ·go_wp2_with (at_builtin;refine aM _ rfl _ _ 29 rfl (w.heap.size+1+1+1+1) 153 i0 (.agg #[.string ⟨#[]⟩,.int .i64 0,.int .i64 0,.slice none 0 0]) 4 56 Tryz.underlying29 hi hz0 hz1 hz2 rfl (by decide) _ _ _ rfl (World.ownsRow.alloc HX.o.own _) ⟨_,0,none⟩ 1 1 (RT.cells v) rfl rfl ?c1 ?c2 (by first|omega|(simp;omega)) (by first|(simp only[maxLen];omega)|(simp[maxLen];omega)) ?c5 ?_)
      case c1=>
       intro j u hj
       match j,hj with
       |0,hj=>simp[RT.cells]at hj;subst hj;first|(simp[Addr.add];done)|exact(XH.fit _ _ (by simp) v _).x0
       |1,hj=>simp[RT.cells]at hj;subst hj;first|(simp[Addr.add];done)|exact(XH.fit _ _ (by simp) v _).x1
       |2,hj=>simp[RT.cells]at hj;subst hj;first|(simp[Addr.add];done)|exact(XH.fit _ _ (by simp) v _).x2
       |3,hj=>simp[RT.cells]at hj;subst hj;first|(simp[Addr.add];done)|exact(XH.fit _ _ (by simp) v _).x3
      case c2=>exact jP [v]
      case c5=>have:=HX.o.lt;simp only[World.size_alloc]at this ⊢;omega
      intro v' w3 hown hg hw;have hP:=HX.o.app hown (by simp) hg (by simpa using hw);obtain⟨p1,pf1⟩:=HX.o.pre hg;have hXX:=(((XH.new wr x 153).later ((Below.refl _ _).bMq (.cells #[nmV v.nm,.int .i64 v.n,.int .i64 v.r,v.sl] 153))).put (S:=w.heap.size+1+1+1) (u:=v') hg (fun e=>by have:=(HW.o.own.lt _ e).2;omega) (by have:=HW.o.lt;omega));obtain⟨va,vc,hv9,_⟩:=hP.own.rd (by simp;omega);rw[show(out++[v]).length=out.length+1 by simp]at hv9;subst hv9;have HP:=hid hP;have HXX:=hid hXX;have v0:=hP.v0;have o1:=hP.o1;have fo:=hP.fo;obtain⟨x0,x1,x2,x3⟩:=hXX;clear hP hown hg hw e0 e1 e2 e3;have HSR:Hid (kU v (ts.take (k+1))=(out++[v]++[x],true)):=hid (by
       rw[HTK.o];unfold lM;rw[<-oJ,hbl]
       simp[show ¬x.nm=v.nm by simpa using heq])
      go_wp2_with (at_builtin;refine aM _ rfl _ _ 29 rfl (w.heap.size+1+1+1+1) 153 i0 (.agg #[.string ⟨#[]⟩,.int .i64 0,.int .i64 0,.slice none 0 0]) 4 56 Tryz.underlying29 hi hz0 hz1 hz2 rfl (by decide) _ _ _ rfl (World.ownsRow.alloc HP.o.own _) ⟨_,0,none⟩ 1 1 (RT.cells x) rfl rfl ?c1 ?c2 (by first|omega|(simp;omega)) (by first|(simp only[maxLen];omega)|(simp[maxLen];omega)) ?c5 ?_)
      case c1=>
       intro j u hj
       match j,hj with
       |0,hj=>simp[RT.cells]at hj;subst hj;first|(simp[Addr.add];done)|exact(XH.fit _ _ (by simp) x _).x0
       |1,hj=>simp[RT.cells]at hj;subst hj;first|(simp[Addr.add];done)|exact(XH.fit _ _ (by simp) x _).x1
       |2,hj=>simp[RT.cells]at hj;subst hj;first|(simp[Addr.add];done)|exact(XH.fit _ _ (by simp) x _).x2
       |3,hj=>simp[RT.cells]at hj;subst hj;first|(simp[Addr.add];done)|exact(XH.fit _ _ (by simp) x _).x3
      case c2=>exact jP [x]
      case c5=>have:=HP.o.lt;simp only[World.size_alloc]at this ⊢;omega
      intro v'' w5 hown hg hw;have hP2:=HP.o.app hown (by simp) hg (by simpa using hw);obtain⟨p2,pf2⟩:=HP.o.pre hg;obtain⟨vb,vd,hv9,_⟩:=hP2.own.rd (by simp;omega);rw[show(out++[v]++[x]).length=out.length+2 by simp]at hv9;subst hv9;have HP2:=hid hP2;clear hP2 hown hg hw;go_wp2;go_roundw
      case rel=>exact⟨k+1,_,by omega,by go_num,by rw[HSR.o],by rw[HSR.o];exact HP2.o⟩
      case measure=>simp[intOf];omega
     ·have HSR:Hid (kU v (ts.take (k+1))=(out++[v],true)):=hid (by
       rw[HTK.o];unfold lM;rw[<-oJ,hbl]
       simp[show x.nm=v.nm by simpa using heq])
      go_wp2_with (at_builtin;refine aM _ rfl _ _ 29 rfl (w.heap.size+1+1+1+1) 153 i0 (.agg #[.string ⟨#[]⟩,.int .i64 0,.int .i64 0,.slice none 0 0]) 4 56 Tryz.underlying29 hi hz0 hz1 hz2 rfl (by decide) _ _ _ rfl (World.ownsRow.alloc HX.o.own _) ⟨_,0,none⟩ 1 1 (RT.cells v) rfl rfl ?c1 ?c2 (by first|omega|(simp;omega)) (by first|(simp only[maxLen];omega)|(simp[maxLen];omega)) ?c5 ?_)
      case c1=>
       intro j u hj
       match j,hj with
       |0,hj=>simp[RT.cells]at hj;subst hj;first|(simp[Addr.add];done)|exact(XH.fit _ _ (by simp) v _).x0
       |1,hj=>simp[RT.cells]at hj;subst hj;first|(simp[Addr.add];done)|exact(XH.fit _ _ (by simp) v _).x1
       |2,hj=>simp[RT.cells]at hj;subst hj;first|(simp[Addr.add];done)|exact(XH.fit _ _ (by simp) v _).x2
       |3,hj=>simp[RT.cells]at hj;subst hj;first|(simp[Addr.add];done)|exact(XH.fit _ _ (by simp) v _).x3
      case c2=>exact jP [v]
      case c5=>have:=HX.o.lt;simp only[World.size_alloc]at this ⊢;omega
      intro v' w3 hown hg hw;have hP:=HX.o.app hown (by simp) hg (by simpa using hw);obtain⟨p1,pf1⟩:=HX.o.pre hg;have hXX:=(((XH.new wr x 153).later ((Below.refl _ _).bMq (.cells #[nmV v.nm,.int .i64 v.n,.int .i64 v.r,v.sl] 153))).put (S:=w.heap.size+1+1+1) (u:=v') hg (fun e=>by have:=(HW.o.own.lt _ e).2;omega) (by have:=HW.o.lt;omega));obtain⟨va,vc,hv9,_⟩:=hP.own.rd (by simp;omega);rw[show(out++[v]).length=out.length+1 by simp]at hv9;subst hv9;have HP:=hid hP;have v0:=hP.v0;have o1:=hP.o1;have fo:=hP.fo;obtain⟨x0,x1,x2,x3⟩:=hXX;clear hP hown hg hw e0 e1 e2 e3;go_wp2;go_roundw
      case rel=>exact⟨k+1,_,by omega,by go_num,by rw[HSR.o],by rw[HSR.o];exact HP.o⟩
      case measure=>simp[intOf];omega
    ·cases heq:(x.nm==v.nm)
     ·have HSR:Hid (kU v (ts.take (k+1))=(out++[x],false)):=hid (by
       rw[HTK.o];unfold lM
       simp[<-oJ,hbl,show ¬x.nm=v.nm by simpa using heq])
      go_wp2_with (at_builtin;refine aM _ rfl _ _ 29 rfl (w.heap.size+1+1+1+1) 153 i0 (.agg #[.string ⟨#[]⟩,.int .i64 0,.int .i64 0,.slice none 0 0]) 4 56 Tryz.underlying29 hi hz0 hz1 hz2 rfl (by decide) _ _ _ rfl (World.ownsRow.alloc HX.o.own _) ⟨_,0,none⟩ 1 1 (RT.cells x) rfl rfl ?c1 ?c2 (by first|omega|(simp;omega)) (by first|(simp only[maxLen];omega)|(simp[maxLen];omega)) ?c5 ?_)
      case c1=>
       intro j u hj
       match j,hj with
       |0,hj=>simp[RT.cells]at hj;subst hj;first|(simp[Addr.add];done)|exact(XH.fit _ _ (by simp) x _).x0
       |1,hj=>simp[RT.cells]at hj;subst hj;first|(simp[Addr.add];done)|exact(XH.fit _ _ (by simp) x _).x1
       |2,hj=>simp[RT.cells]at hj;subst hj;first|(simp[Addr.add];done)|exact(XH.fit _ _ (by simp) x _).x2
       |3,hj=>simp[RT.cells]at hj;subst hj;first|(simp[Addr.add];done)|exact(XH.fit _ _ (by simp) x _).x3
      case c2=>exact jP [x]
      case c5=>have:=HX.o.lt;simp only[World.size_alloc]at this ⊢;omega
      intro v'' w5 hown hg hw;have hP2:=HX.o.app hown (by simp) hg (by simpa using hw);obtain⟨p2,pf2⟩:=HX.o.pre hg;obtain⟨vb,vd,hv9,_⟩:=hP2.own.rd (by simp;omega);rw[show(out++[x]).length=out.length+1 by simp]at hv9;subst hv9;have HP2:=hid hP2;clear hP2 hown hg hw e0 e1 e2 e3;go_wp2;go_roundw
      case rel=>exact⟨k+1,_,by omega,by go_num,by rw[HSR.o],by rw[HSR.o];exact HP2.o⟩
      case measure=>simp[intOf];omega
     ·exfalso;rw[oJ,show x.nm=v.nm by simpa using heq,WideAt.bytes_irrefl]at hbl;cases hbl
   ·cases heq:(x.nm==v.nm)
    ·have HSR:Hid (kU v (ts.take (k+1))=(out++[x],true)):=hid (by
      rw[HTK.o];unfold lM
      simp[show ¬x.nm=v.nm by simpa using heq])
     go_wp2_with (at_builtin;refine aM _ rfl _ _ 29 rfl (w.heap.size+1+1+1+1) 153 i0 (.agg #[.string ⟨#[]⟩,.int .i64 0,.int .i64 0,.slice none 0 0]) 4 56 Tryz.underlying29 hi hz0 hz1 hz2 rfl (by decide) _ _ _ rfl (World.ownsRow.alloc HX.o.own _) ⟨_,0,none⟩ 1 1 (RT.cells x) rfl rfl ?c1 ?c2 (by first|omega|(simp;omega)) (by first|(simp only[maxLen];omega)|(simp[maxLen];omega)) ?c5 ?_)
     case c1=>
      intro j u hj
      match j,hj with
      |0,hj=>simp[RT.cells]at hj;subst hj;first|(simp[Addr.add];done)|exact(XH.fit _ _ (by simp) x _).x0
      |1,hj=>simp[RT.cells]at hj;subst hj;first|(simp[Addr.add];done)|exact(XH.fit _ _ (by simp) x _).x1
      |2,hj=>simp[RT.cells]at hj;subst hj;first|(simp[Addr.add];done)|exact(XH.fit _ _ (by simp) x _).x2
      |3,hj=>simp[RT.cells]at hj;subst hj;first|(simp[Addr.add];done)|exact(XH.fit _ _ (by simp) x _).x3
     case c2=>exact jP [x]
     case c5=>have:=HX.o.lt;simp only[World.size_alloc]at this ⊢;omega
     intro v'' w5 hown hg hw;have hP2:=HX.o.app hown (by simp) hg (by simpa using hw);obtain⟨p2,pf2⟩:=HX.o.pre hg;obtain⟨vb,vd,hv9,_⟩:=hP2.own.rd (by simp;omega);rw[show(out++[x]).length=out.length+1 by simp]at hv9;subst hv9;have HP2:=hid hP2;clear hP2 hown hg hw e0 e1 e2 e3;go_wp2;go_roundw
     case rel=>exact⟨k+1,_,by omega,by go_num,by rw[HSR.o],by rw[HSR.o];exact HP2.o⟩
     case measure=>simp[intOf];omega
    ·have HSR:Hid (kU v (ts.take (k+1))=(out,true)):=hid (by
      rw[HTK.o];unfold lM
      simp[show x.nm=v.nm by simpa using heq])
     go_wp2;go_roundw
     case rel=>exact⟨k+1,_,by omega,by go_num,by rw[HSR.o],by rw[HSR.o];exact HX.o⟩
     case measure=>simp[intOf];omega
  ·obtain rfl:k=ts.length:=by omega
   have hwr:iL ts v=if (kU v (ts.take ts.length)).2 then (kU v (ts.take ts.length)).1 else (kU v (ts.take ts.length)).1++[v]:=by rw[List.take_length];rfl
   have HWR:=hid hwr;have HLK:=hid (HLL.o ts.length);clear hwr;generalize kU v (ts.take ts.length)=s at *;obtain⟨out,d⟩:=s;dsimp only at HLK HWR hW;have hol:out.length<=2000:=by have:out.length<=_:=HLK.o;have:=List.length_take_le ts.length ts;omega
   obtain⟨oa,oc,hv9,hrd⟩:=hW.own.rd (by omega);subst hv9;have HW:=hid hW;have HRD:=hid hrd;have v0:=hW.v0;have v1:=hW.v1;have v2:=hW.v2;have v3:=hW.v3;have o0:=hW.o0;have o1:=hW.o1;have fo:=hW.fo;have r0:=hW.rg.r0;have r1:=hW.rg.r1;have g0:=hW.rg.f0;have g1:=hW.rg.f1;clear hW hrd;cases d
   ·have HWT:Hid (iL ts v=out++[v]):=hid HWR.o;obtain⟨i0,hi,hz0,hz1,hz2⟩:=info_parts aVo
    go_wp2_with (at_builtin;refine aM _ rfl _ _ 29 rfl (w.heap.size+1+1+1+1) 153 i0 (.agg #[.string ⟨#[]⟩,.int .i64 0,.int .i64 0,.slice none 0 0]) 4 56 Tryz.underlying29 hi hz0 hz1 hz2 rfl (by decide) _ _ _ rfl (World.ownsRow.alloc HW.o.own _) ⟨_,0,none⟩ 1 1 (RT.cells v) rfl rfl ?c1 ?c2 (by first|omega|(simp;omega)) (by first|(simp only[maxLen];omega)|(simp[maxLen];omega)) ?c5 ?_)
    case c1=>
     intro j u hj
     match j,hj with
     |0,hj=>simp[RT.cells]at hj;subst hj;first|(simp[Addr.add];done)|exact(XH.fit _ _ (by simp) v _).x0
     |1,hj=>simp[RT.cells]at hj;subst hj;first|(simp[Addr.add];done)|exact(XH.fit _ _ (by simp) v _).x1
     |2,hj=>simp[RT.cells]at hj;subst hj;first|(simp[Addr.add];done)|exact(XH.fit _ _ (by simp) v _).x2
     |3,hj=>simp[RT.cells]at hj;subst hj;first|(simp[Addr.add];done)|exact(XH.fit _ _ (by simp) v _).x3
    case c2=>exact jP [v]
    case c5=>have:=HW.o.lt;simp only[World.size_alloc]at this ⊢;omega
    intro v' w3 hown hg hw;have hP:=HW.o.app hown (by simp) hg (by simpa using hw);obtain⟨p1,pf1⟩:=HW.o.pre hg;obtain⟨va,vc,hv9,_⟩:=hP.own.rd (by simp;omega);have hl9:(out++[v]).length=out.length+1:=by simp
    rw[hl9]at hv9;subst hv9;have HP:=hid hP;have o0:=hP.o0;have o1:=hP.o1;have r0:=hP.rg.r0;have r1:=hP.rg.r1;have g0:=hP.rg.f0;have g1:=hP.rg.f1;clear hP hown hg hw;go_wp2_with fail;obtain⟨j0,j1⟩:=HP.o.rg.cells (u:= .int .i64 N) (v:= .slice va (out.length+1) vc);have HBL:=hid (HP.o.rg.below (u:= .int .i64 N) (v:= .slice va (out.length+1) vc));have HRR:=hid (HP.o.rows (u:= .int .i64 N) (z:= .slice va (out.length+1) vc) (by simp) (by simp;omega));clear hl9
    (try simp only[Exit.inBlock,Exit.then])
    refine bodyPost_ret (v:= .agg #[.int .i64 N,.slice va (out.length+1) vc]) (by first|(rw[results_cell_tmp rfl];go_simp;done)|(rw[aB rfl];go_simp;done)|(rw[aA rfl];go_simp;done)) rfl ?_;rw[HWT.o];exact⟨va,vc,by simp,HRR.o,HP.o.own.cap,HBL.o⟩
   ·have HWT:Hid (iL ts v=out):=hid HWR.o;go_wp2_with fail;obtain⟨j0,j1⟩:=HW.o.rg.cells (u:= .int .i64 N) (v:= .slice oa out.length oc);have HBL:=hid (HW.o.rg.below (u:= .int .i64 N) (v:= .slice oa out.length oc));have HRR:Hid (RdR (dN wr (w.heap.size+1+1) (.int .i64 N) (.slice oa out.length oc)) oa out):=hid (HW.o.rows rfl (by omega))
    (try simp only[Exit.inBlock,Exit.then])
    refine bodyPost_ret (v:= .agg #[.int .i64 N,.slice oa out.length oc]) (by first|(rw[results_cell_tmp rfl];go_simp;done)|(rw[aB rfl];go_simp;done)|(rw[aA rfl];go_simp;done)) rfl ?_;rw[HWT.o];exact⟨oa,⟨oc,rfl,HRR.o,HW.o.own.cap,HBL.o⟩⟩
end Go.Proofs.YtaiklhbakldfhaaGreat
