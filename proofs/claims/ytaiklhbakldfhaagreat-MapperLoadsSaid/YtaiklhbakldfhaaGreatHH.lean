/-
  Rows of bytes: what a call owns, and what it can read.
  Rows of bytes: what a call owns, and what it can read; slices.Clone of bytes; codec.AppendUint, AppendBytes.
  What stays as it was where one block is written: a reader's, a mapper's.
  package codec: AppendUint, AppendBytes; package mapper: header, numbers, note.
  Conditions: as each theorem says.
-/
import Derived.Test.YtaiklhbakldfhaaGreatGA
import Derived.Test.YtaiklhbakldfhaaGreatRows
import Derived.Laws.IdiomStrings
import Derived.OpenShut
import Derived.Test.YtaiklhbakldfhaaGreatHA
import Derived.Test.YtaiklhbakldfhaaGreatHG
import Derived.Lib.VarintBits
namespace Go.Proofs.YtaiklhbakldfhaaGreat
open Go.Lib (hid)
set_option linter.unusedSimpArgs false
set_option linter.unusedVariables false
set_option maxRecDepth 100000
set_option maxHeartbeats 16000000
open Go.RowKit Go.Maps
theorem aQz:(Tryz.prog.info? 5).map (fun i=>(i.zero,i.size,i.bytes))=some (some (.int .u8 0),1,1):=by kernel_rfl
abbrev byV (c:UInt8):Value:= .int .u8 (c.toNat:Int)
def RdY (w:World) (a:Option Addr) (l:List UInt8):Prop:=
 l.length<=1000000000/\(l=[]∨ ∃b o,a=some ⟨b,o,none⟩/\ ∀k c,l[k]? =some c->w.cell? ⟨b,o+k,none⟩=some (byV c))
def jC (w:World) (B:Nat) (v:Value) (l:List UInt8):Prop:=w.ownsRow B 5 1 v l.length (l.map byV)
theorem RdY.keep {w w':World} (h:Below w.heap.size w w') {a:Option Addr} {l:List UInt8} (hr:RdY w a l):RdY w' a l:=
 ⟨hr.1,hr.2.imp id fun⟨b,o,ha,hat⟩=>⟨b,o,ha,fun k x hk=>h.keep (hat k x hk)⟩⟩
theorem RdY.at {w:World} {a:Option Addr} {l:List UInt8} (hr:RdY w a l) (h:0<l.length):∃ b o,a=some ⟨b,o,none⟩/\ ∀k c,l[k]? =some c->w.cell? ⟨b,o+k,none⟩=some (byV c):=
 hr.2.resolve_left (by intro e;rw[e]at h;simp at h)
theorem RdY.nil (w:World):RdY w none []:=⟨by simp,.inl rfl⟩
theorem jC.nil (w:World) (B:Nat):jC w B (.slice none 0 0) []:=World.ownsRow_nil _ _ _ _
theorem jC.lt {w:World} {B:Nat} {v:Value} {l:List UInt8} (h:jC w B v l):∀ k,v.ownBlock=some k->B<=k/\k<w.heap.size:=World.ownsRow.lt h
theorem jC.mono {w:World} {B B':Nat} {v:Value} {l:List UInt8} (h:jC w B v l) (hB:B'<=B):jC w B' v l:=
 ⟨h.1,h.2.imp id fun⟨g,cap,cur,hv,hg,r⟩=>⟨g,cap,cur,hv,Nat.le_trans hB hg,r⟩⟩
theorem jC.keep {w w':World} {B:Nat} {v:Value} {l:List UInt8} (h:jC w B v l) (hb:Below w.heap.size w w'):jC w' B v l:=
 World.ownsRow.kept h (row:=none) ⟨hb.os,hb.tape,hb.output,hb.size,fun k hk _=>hb.block k hk⟩ (by cases hv:v.ownBlock <;> simp)
theorem jC.other {w w':World} {B:Nat} {v:Value} {l:List UInt8} {row:Option Nat} (h:jC w B v l) (hg:w.grownBy w' row) (hne:v.ownBlock=none∨v.ownBlock≠row):jC w' B v l:=
 World.ownsRow.kept h hg hne
theorem jC.form {w:World} {B:Nat} {v:Value} {l:List UInt8} (h:jC w B v l):
  (v= .slice none 0 0/\l=[])∨ ∃g c,v= .slice (some ⟨g,0,none⟩) l.length c/\B<=g/\g<w.heap.size/\l.length<=c/\c<=maxLen/\(∀k x,l[k]? =some x->w.cell? ⟨g,k,none⟩=some (byV x))/\ ∀i,w.frozen? ⟨g,i,none⟩=false:=by
 rcases h.2 with ⟨rfl,hn⟩|⟨g,cap,cur,rfl,hb,hg,hn,hc,hs,ht⟩
 ·exact .inl ⟨rfl,List.eq_nil_of_length_eq_zero hn⟩
 ·refine .inr ⟨g,cap,rfl,hb,(Array.getElem?_eq_some_iff.1 hg).1,hn,hc,fun k x hk=> ?_,fun i=>World.ownsRow.frozenAt h i⟩;have hk':k<l.length:=(List.getElem?_eq_some_iff.1 hk).1;rw[World.ownsRow.cellAt (cap:=cap) h k (by omega),List.getElem?_map,hk];rfl
theorem jC.rd {w:World} {B:Nat} {v:Value} {l:List UInt8} (h:jC w B v l) (hl:l.length<=1000000000):∃ a c,v= .slice a l.length c/\l.length<=c/\c<=maxLen/\RdY w a l:=by
 rcases h.form with ⟨rfl,rfl⟩|⟨g,c,rfl,_,_,h3,h4,hat,_⟩
 ·exact⟨_,_,rfl,by simp,by simp,RdY.nil w⟩
 ·exact⟨_,_,rfl,h3,h4,hl,.inr ⟨g,0,rfl,fun k x hk=>by rw[Nat.zero_add];exact hat k x hk⟩⟩
theorem RdY.source {w:World} {a:Option Addr} {l:List UInt8} (h:RdY w a l):w.source 1 a l.length (l.map byV):=by
 refine⟨by simp,fun u hu=>by obtain⟨x,_,rfl⟩:=List.mem_map.1 hu;rfl,?_⟩;rcases h.2 with rfl|⟨b,o,rfl,hat⟩
 ·cases a with
  |none=>exact .inl ⟨rfl,rfl⟩
  |some ad=>exact .inr ⟨ad,rfl,fun j u hu=>by simp at hu⟩
 ·refine .inr ⟨_,rfl,fun j u hu=> ?_⟩;rw[List.getElem?_map]at hu;obtain⟨x,hx,rfl⟩:=Option.map_eq_some_iff.1 hu;have:=hat j x hx;by_cases hj0:j=0
  ·subst hj0;simpa [Addr.add]using this
  ·simpa [Addr.add,hj0]using this
theorem jC.empty (w:World) (B:Nat) (hB:B<=w.heap.size):jC (w.alloc (.cells #[] 5)) B (.slice (some ⟨w.heap.size,0,none⟩) 0 0) []:=
 World.ownsRow_lit w #[] 0 hB (by simp) rfl
theorem jC.append {w:World} {B n:Nat} {v:Value} {l r:List UInt8} (h:w.ownsRow B 5 1 v n (l.map byV++r.map byV)) (hn:n=l.length+r.length):jC w B v (l++r):=by
 subst hn;unfold jC;rw[List.map_append,List.length_append];exact h
theorem RdY.drop {w:World} {b o:Nat} {l:List UInt8} (h:RdY w (some ⟨b,o,none⟩) l) (k:Nat):RdY w (some ⟨b,o+k,none⟩) (l.drop k):=by
 refine⟨by rw[List.length_drop];have:=h.1;omega,?_⟩;rcases h.2 with rfl|⟨b',o',e,hat⟩
 ·exact .inl (by simp)
 ·injection e with e;injection e with e1 e2;subst e1 e2;refine .inr ⟨b,o+k,rfl,fun j c hj=> ?_⟩;rw[List.getElem?_drop]at hj;have:=hat (k+j) c hj
  rwa [show o+k+j=o+(k+j) by omega]
theorem RdY.take {w:World} {a:Option Addr} {l:List UInt8} (h:RdY w a l) (k:Nat):RdY w a (l.take k):=by
 refine⟨by rw[List.length_take];have:=h.1;omega,?_⟩;rcases h.2 with rfl|⟨b,o,ha,hat⟩
 ·exact .inl (by simp)
 ·refine .inr ⟨b,o,ha,fun j c hj=>hat j c ?_⟩;rw[List.getElem?_take]at hj
  split at hj
  ·exact hj
  ·cases hj
open Go.RowKit Go.Maps
open Go.Lib (uvarint uvarint_small uvarint_big uvarint_pos uvarint_length64)
theorem jC.away {w:World} {B:Nat} {v:Value} {l:List UInt8} (h:jC w B v l) (a:Addr) (u:Value) (hne:v.ownBlock≠some a.block):jC (w.setCell a u) B v l:=
 h.other (bV w a u) (.inr hne)
theorem aId (nm:List UInt8) (w:World):∃ cap W1,(convert 9 23 (nmV nm)).run Tryz.prog w= .ok (.slice (some ⟨w.heap.size,0,none⟩) nm.length cap) W1/\
  (∀k (h:k<nm.length),W1.cell? ⟨w.heap.size,k,none⟩=some (.int .u8 (nm[k].toNat:Int)))/\Below w.heap.size w W1:=by
 have h:=run_bytes_of_string (P:=Tryz.prog) w 9 23 5 ⟨nm.toArray⟩ Tryz.underlying9 Tryz.underlying23 Tryz.underlying5;have hsz:(ByteArray.mk nm.toArray).size=nm.length:=by simp[ByteArray.size]
 rw [hsz]at h;refine⟨_,_,h,fun k hk=> ?_,Below.bMq (Below.drew (Below.refl _ _)) _⟩;have h1:∀ (C:Array Value) (e:TypeId) (fr:Nat × Nat),(w.drew.alloc (.cells C e fr)).cell? ⟨w.heap.size,k,none⟩=C[k]? :=fun C e fr=>by
  have:(w.drew.alloc (.cells C e fr)).heap[w.heap.size]? =some (.cells C e fr):=World.alloc_heap_new w.drew _;unfold World.cell?;rw[this];rfl
 rw[h1];unfold bytesRow;rw[Array.getElem?_append_left (by simp;exact hk)];simp[hk]
theorem wQ (nm:List UInt8) (w:World) (h:nm.length<=1000000000):∃ cap W1,(convert 9 23 (nmV nm)).run Tryz.prog w= .ok (.slice (some ⟨w.heap.size,0,none⟩) nm.length cap) W1/\
  RdY W1 (some ⟨w.heap.size,0,none⟩) nm/\Below w.heap.size w W1:=by
 obtain⟨cap,W1,h1,h2,h3⟩:=aId nm w;refine⟨cap,W1,h1,⟨h,.inr ⟨_,_,rfl,fun k c hk=> ?_⟩⟩,h3⟩;obtain⟨hk1,hk2⟩:=List.getElem?_eq_some_iff.1 hk;rw[Nat.zero_add,h2 k hk1,hk2]
theorem aFb (l:List UInt8) (a:Option Addr) (c:Nat) (w:World) (hr:RdY w a l):
  Calls Tryz.prog 79 #[.slice a l.length c] w fun e w'=>∃ v,e= .returned v/\jC w' w.heap.size v l/\Below w.heap.size w w':=by
 obtain⟨i0,hi,hz0,hz1,hz2⟩:=info_parts aQz;have hl:=hr.1;have q22:∀ (w:World) (a:Option Addr) (n c n' c':Nat),(binOp .eql 23 (.slice a n c) (.slice none n' c')).run Tryz.prog w= .ok (.bool a.isNone) w:=fun w a n c n' c'=>Lib.run_eql_slice_nil w _ _ a n c n' c' Tryz.underlying23
 cases a with
 | none=>
  have h0:l=[]:=by
   rcases hr.2 with h|⟨b,o,h,_⟩
   ·exact h
   ·cases h
  subst h0;go_enter Tryz.func79,Tryz.ntmps79;go_wp2_with fail;go_ret;exact⟨_,rfl,jC.nil _ _,Below.refl _ _⟩
 | some ad=>
  have H0:=hid (jC.empty w w.heap.size (Nat.le_refl _));have HS:=hid ((hr.keep ((Below.refl _ _).bMq (.cells #[] 5))).source);go_enter Tryz.func79,Tryz.ntmps79
  go_wp2_with (at_builtin;refine dB _ rfl _ _ 23 rfl w.heap.size 5 i0 (.int .u8 0) 1 1 Tryz.underlying23 hi hz0 hz1 hz2 rfl (by decide) _ _ _ rfl H0.o _ _ _ _ rfl HS.o (by simp;omega) (by simp[maxLen];omega) (by simp) ?_;intro v1 w1 hown1 hgrow1 hwhere1)
  go_ret;refine⟨_,rfl,?_,((Below.refl _ _).bMq _).bMu hgrow1 fun j hj=>(H0.o.lt j hj).1⟩;exact jC.append (l:=[]) hown1 (by simp)
open Go.RowKit Go.Maps
structure Odd (W:World) (X:Nat):Prop where
 two:∀ i,2<=i->W.cell? ⟨X,i,none⟩=none
 ty:∃ t,3≠t/\pO W X t
 nob:∀ i c,W.cell? ⟨X,i,none⟩≠some (byV c)
theorem Odd.lt {W:World} {X:Nat} (h:Odd W X):X<W.heap.size:=by
 obtain⟨t,_,cs,s,h⟩:=h.ty;exact(Array.getElem?_eq_some_iff.1 h).1
theorem Bx.odd {W:World} {T:Nat} {t:TypeId} {u v:Value} (h:Bx W T t u v) (ht:3≠t) (hu:∀ c,u≠byV c) (hv:∀ c,v≠byV c):Odd W T:=by
 refine⟨h.c2,⟨t,ht,h.ty⟩,fun i c=> ?_⟩
 match i with
 |0=>rw[h.c0];intro e;exact hu c (Option.some.inj e)
 |1=>rw[h.c1];intro e;exact hv c (Option.some.inj e)
 |i+2=>rw[h.c2 _ (by omega)];intro e;cases e
section
variable {W W':World} {X:Nat}
theorem aZ (hg:W.grownBy W' (some X)) {a:Addr} {v:Value} (h:W.cell? a=some v) (hne:a.block≠X):W'.cell? a=some v:=
 hg.cell h (fun e=>hne (Option.some.inj e))
theorem RdY.grown (hX:Odd W X) (hg:W.grownBy W' (some X)) {a:Option Addr} {l:List UInt8} (h:RdY W a l):RdY W' a l:=
 ⟨h.1,h.2.imp id fun⟨b,o,ha,hat⟩=>⟨b,o,ha,fun k c hk=>aZ hg (hat k c hk) fun e=>by
  have:=hat k c hk;simp only at e;subst e
  exact hX.nob _ _ this⟩⟩
theorem pO.grown (hg:W.grownBy W' (some X)) {b:Nat} {t:TypeId} (h:pO W b t) (hne:b≠X):pO W' b t:=by
 obtain⟨cs,s,h⟩:=h;exact⟨cs,s,(hg.block b (Array.getElem?_eq_some_iff.1 h).1 (fun e=>hne (Option.some.inj e))).trans h⟩
theorem RdI.grown (hX:Odd W X) (hg:W.grownBy W' (some X)) {a:Option Addr} {C:List Int} (h:RdI W a C):RdI W' a C:=by
 refine ⟨h.1,h.2.imp id fun⟨b,o,ha,ht,hat⟩=> ?_⟩;have hne:b≠X:=by
  obtain⟨t,h1,h2⟩:=hX.ty;exact ht.ne h2 h1
 exact⟨b,o,ha,ht.grown hg hne,fun k c hk=>aZ hg (hat k c hk) hne⟩
theorem aF.grown (hX:Odd W X) (hg:W.grownBy W' (some X)) (t:Tr):∀ {v:Value},aF W v t->aF W' v t:=by
 induction t with
 |nil=>exact fun hv=>hv
 | node l x r ihl ihr=>
  rintro v ⟨b,vl,vr,hv,hn,hl,hr⟩;have hne:b≠X:=fun e=>by
   subst e;have:=hn.m;rw[hX.two 7 (by omega)]at this;cases this
  have k:∀ {j u},W.cell? ⟨b,j,none⟩=some u->W'.cell? ⟨b,j,none⟩=some u:=fun h=>aZ hg h hne;exact⟨b,vl,vr,hv,⟨k hn.a,k hn.n,k hn.s,k hn.l,k hn.r,k hn.d,k hn.c,k hn.m⟩,ihl hl,ihr hr⟩
theorem bA.grown (hX:Odd W X) (hg:W.grownBy W' (some X)) {fv:Value} {F:Fam} (hf:bA W fv F):bA W' fv F:=by
 obtain⟨a,c,mb,h1,h2,ts,h3,h4,h5⟩:=hf;refine⟨a,c,mb,h1,h2.grown hX hg,ts,h3,fun p hp=>(h4 p hp).grown hX hg,h5.elim .inl fun⟨b,q1,q2⟩=> .inr ⟨b,q1,?_⟩⟩;refine World.ownsMap.kept q2 hg ?_;obtain⟨es,clock,hb,r⟩:=q2;obtain⟨t,_,cs,s,hty⟩:=hX.ty;intro e;injection e with e;subst e;rw[hb]at hty;cases hty
theorem Rd.grown (hX:Odd W X) (hg:W.grownBy W' (some X)) {a:Option Addr} {l:List E} (h:Rd W a l):Rd W' a l:=by
 refine ⟨h.1,h.2.imp id fun⟨b,o,ha,hat⟩=>⟨b,o,ha,fun k z hk=> ?_⟩⟩;have q:=hat k z hk;have hne:b≠X:=fun e=>by
  subst e;have h1:=q.s;rw[hX.two _ (by omega)]at h1;cases h1
 exact⟨aZ hg q.a hne,aZ hg q.n hne,aZ hg q.s hne⟩
theorem jM (hg:W.grownBy W' (some X)) {b i:Nat} {v:Value} (h:W.cell? ⟨b,i,none⟩=some v) (hne:b≠X):W'.cell? ⟨b,i,none⟩=some v:=aZ hg h hne
theorem oK (hg:W.grownBy W' (some X)) {b i:Nat} {v:Value} (h:W.cell? ⟨b,i,none⟩=some v) {q:Bool} (hf:W.frozen? ⟨b,i,none⟩=q) (hne:b≠X):W'.frozen? ⟨b,i,none⟩=q:=
 zB hg h hf (fun e=>hne (Option.some.inj e))
end
structure gG (W:World) (X:Nat) (l:List UInt8):Prop where
 bx:∃ a c,Bx W X 163 (.slice a l.length c) (.bool false)/\RdY W a l/\l.length<=c/\c<=maxLen
theorem bMd:3≠163:=by decide
theorem Bx.oddR {W:World} {X:Nat} {a:Option Addr} {n c:Nat} {b:Bool} (h:Bx W X 163 (.slice a n c) (.bool b)):Odd W X:=h.odd bMd (fun c e=>by cases e) (fun c e=>by cases e)
theorem gG.odd {W:World} {X:Nat} {l:List UInt8} (h:gG W X l):Odd W X:=by
 obtain⟨a,c,h,_⟩:=h.bx;exact h.oddR
theorem gG.later {W W':World} {X:Nat} {l:List UInt8} (h:gG W X l) (hb:Below W.heap.size W W'):gG W' X l:=by
 obtain⟨a,c,h1,h2,h3⟩:=h.bx;exact⟨a,c,h1.later hb,h2.keep hb,h3⟩
theorem gG.other {W W':World} {X Y:Nat} {l:List UInt8} (h:gG W X l) (hY:Odd W Y) (hg:W.grownBy W' (some Y)) (hne:X≠Y):gG W' X l:=by
 obtain⟨a,c,h1,h2,h3⟩:=h.bx;exact⟨a,c,h1.grown hg (fun e=>hne (Option.some.inj e).symm),h2.grown hY hg,h3⟩
theorem gY (W:World) (X:Nat) (u v:Value):W.grownBy (dN W X u v) (some X):=
 World.grownBy.next (bV W ⟨X,0,none⟩ u) (bV _ ⟨X,1,none⟩ v)
open Go.RowKit
open Go.Lib (uvarint uvarint_small uvarint_big uvarint_pos uvarint_length64 u8_or128_any)
theorem newY (W:World) (n:Nat) (hn:n=W.heap.size) (x:Value) (t:TypeId):∀ j u,([x]:List Value)[j]? =some u->(W.alloc (.cells #[x] t)).cell? ((⟨n,0,none⟩:Addr).add j)=some u:=by
 subst hn;intro j u hj
 cases j with
 |zero=>simp at hj;subst hj;simp[Addr.add]
 |succ j=>simp at hj
theorem aIf (n:Nat) (l:List UInt8) (a:Option Addr) (c:Nat) (w:World) (hr:RdY w a l) (hn:n<18446744073709551616) (hl:l.length<=900000000):
  Calls Tryz.prog 57 #[.slice a l.length c,.int .u64 n] w fun e w'=>∃ v,e= .returned v/\jC w' w.heap.size v (l++uvarint n)/\Below w.heap.size w w':=by
 obtain⟨i0,hi,hz0,hz1,hz2⟩:=info_parts aQz;go_enter Tryz.func57,Tryz.ntmps57;go_wp2_with fail;refine(aFb l a c w hr).mono ?_;rintro e w1 ⟨v,rfl,ho,hb⟩;have HO:=hid ho;have HB:=hid hb;have HU:Hid ((uvarint n).length<=10):=hid (uvarint_length64 hn);have HN:=hid hn;clear ho hb hn hr;go_wp2_with fail;go_loopw [1,5] (fun x o wr=>∃ (m:Nat) (pre:List UInt8),Hid (m<18446744073709551616)/\x= .int .u64 m/\jC wr w.heap.size o (l++pre)/\Hid (pre++uvarint m=uvarint n)/\Below w.heap.size w wr) (fun x _ _=>(intOf x).toNat)
 case atStart=>exact⟨n,[],HN,rfl,by rw[List.append_nil];exact HO.o,hid rfl,HB.o⟩
 case round=>
  obtain ⟨m,pre,hm,rfl,ho,hp,hB⟩:=hrel;have hpl:pre.length+1<=10:=by
   have h1:=congrArg List.length hp.o;rw[List.length_append]at h1;have h2:=uvarint_pos m;have h3:=HU.o;omega
  have HO:=hid ho;clear ho;by_cases hlt:128<=m
  ·have HC:Hid (Value.int .u8 (bits .or .u8 ((m:Int)%256) 128)=byV (m%128+128).toUInt8):=hid (by
    have h1:=u8_or128_any ((m:Int)%256) (by omega) (by omega);rw[h1];show Value.int .u8 _=Value.int .u8 _;rw[jD (by omega)];congr 1
    omega)
   go_wp2_with (at_builtin;refine aM _ rfl _ _ 23 rfl w.heap.size 5 i0 (.int .u8 0) 1 1 Tryz.underlying23 hi hz0 hz1 hz2 rfl (by decide) _ _ _ rfl (World.ownsRow.alloc HO.o _) ⟨wr.heap.size,0,none⟩ 1 1 [_] rfl rfl (newY _ _ rfl _ _) (by intro u hu;simp at hu;subst hu;rfl) (by simp;omega) (by simp[maxLen];omega) (by have h9:=hB.size;simp only[World.size_alloc];omega) ?_;intro v1 w2 hown1 hgrow1 hwhere1)
   rw[HC.o]at hown1;have ho:=jC.append (r:=[(m%128+128).toUInt8]) hown1 rfl;have HB2:=hid ((hB.bMq _).bMu hgrow1 fun j hj=>(HO.o.lt j hj).1);have HO2:=hid ho;clear hown1 hgrow1 hwhere1 ho;go_wp2;go_roundw
   case rel=>exact⟨m/128,pre++[(m%128+128).toUInt8],hid (by have:=hm.o;omega),by first|rfl|go_num,by rw[<-List.append_assoc];exact HO2.o,hid (by rw[<-hp.o,uvarint_big hlt];simp),HB2.o⟩
   case measure=>simp[intOf];omega
  ·have HC:Hid (Value.int .u8 (m:Int)=byV m.toUInt8):=hid (by
    show Value.int .u8 _=Value.int .u8 _
    rw[jD (by omega)])
   go_wp2_with (at_builtin;refine aM _ rfl _ _ 23 rfl w.heap.size 5 i0 (.int .u8 0) 1 1 Tryz.underlying23 hi hz0 hz1 hz2 rfl (by decide) _ _ _ rfl (World.ownsRow.alloc HO.o _) ⟨wr.heap.size,0,none⟩ 1 1 [_] rfl rfl (newY _ _ rfl _ _) (by intro u hu;simp at hu;subst hu;rfl) (by simp;omega) (by simp[maxLen];omega) (by have h9:=hB.size;simp only[World.size_alloc];omega) ?_;intro v1 w2 hown1 hgrow1 hwhere1)
   rw[HC.o]at hown1;have ho:=jC.append (r:=[m.toUInt8]) hown1 rfl;have HB2:=hid ((hB.bMq _).bMu hgrow1 fun j hj=>(HO.o.lt j hj).1);have HO2:=hid ho;clear hown1 hgrow1 hwhere1 ho;go_wp2;go_ret;exact⟨_,rfl,by rw[<-hp.o,uvarint_small (by omega),<-List.append_assoc];exact HO2.o,HB2.o⟩
theorem bKa (x:Int) (l:List UInt8) (a:Option Addr) (c:Nat) (w:World) (hr:RdY w a l) (hl:l.length<=900000000):
  Calls Tryz.prog 57 #[.slice a l.length c,.int .u64 (x%18446744073709551616)] w fun e w'=>∃ v,e= .returned v/\jC w' w.heap.size v (l++encI x)/\Below w.heap.size w w':=by
 have h:=aIf (x%18446744073709551616).toNat l a c w hr (by omega) hl;rw[Int.toNat_of_nonneg (by omega)]at h;exact h
theorem wM (x:Int):1<=(encI x).length/\(encI x).length<=10:=⟨uvarint_pos _,uvarint_length64 (by omega)⟩
theorem xG (l:List Int):(numsL l).length<=10*l.length:=by
 induction l with
 |nil=>simp[numsL]
 | cons x r ih=>
  unfold numsL at *;rw[List.flatMap_cons,List.length_append,List.length_cons];have:=(wM x).2;omega
theorem aUz (l:List Int) (k:Nat) (h:k<l.length):numsL (l.take (k+1))=numsL (l.take k)++encI l[k]:=by
 unfold numsL;rw[List.take_succ_eq_append_getElem h,List.flatMap_append];simp
theorem sV (x:List UInt8) (h:x.length<18446744073709551616):(wN x).length<=x.length+10:=by
 unfold wN;rw[List.length_append];have:=uvarint_length64 h;omega
theorem yC (x l:List UInt8) (a ax:Option Addr) (c cx:Nat) (w:World) (hr:RdY w a l) (hx:RdY w ax x) (hl:l.length<=800000000) (hxl:x.length<=100000000):
  Calls Tryz.prog 21 #[.slice a l.length c,.slice ax x.length cx] w fun e w'=>∃ v,e= .returned v/\jC w' w.heap.size v (l++wN x)/\Below w.heap.size w w':=by
 obtain⟨i0,hi,hz0,hz1,hz2⟩:=info_parts aQz;have HU:Hid ((uvarint x.length).length<=10):=hid (uvarint_length64 (by omega));go_enter Tryz.func21,Tryz.ntmps21;go_wp2_with fail;refine(aIf x.length l a c w hr (by omega) (by omega)).mono ?_;rintro e w1 ⟨v,rfl,ho,hb⟩;have HO:=hid ho;have HB:=hid hb;have HX:=hid (hx.keep hb);have hub:=HU.o;clear ho hb hr hx
 go_wp2_with (at_builtin;refine dB _ rfl _ _ 23 rfl w.heap.size 5 i0 (.int .u8 0) 1 1 Tryz.underlying23 hi hz0 hz1 hz2 rfl (by decide) _ _ _ rfl HO.o _ _ _ _ rfl HX.o.source (by simp only[List.length_append];omega) (by simp only[List.length_append,maxLen];omega) (by have:=HB.o.size;omega) ?_;intro v1 w2 hown1 hgrow1 hwhere1)
 go_ret;refine⟨_,rfl,?_,HB.o.bMu hgrow1 fun j hj=>(HO.o.lt j hj).1⟩;have:=jC.append hown1 rfl;unfold wN;rw[<-List.append_assoc];exact this
theorem nL (k:Nat) (nm:List UInt8) (w:World) (hk:k<128) (hn:nm.length<=1000000):
  Calls Tryz.prog 31 #[.int .u64 k,nmV nm] w fun e w'=>∃ v,e= .returned v/\jC w' w.heap.size v (pG k nm)/\Below w.heap.size w w':=by
 go_enter Tryz.func31,Tryz.ntmps31;go_wp2_with fail;refine(aIf k [] none 0 w (RdY.nil w) (by omega) (by simp)).mono ?_;rintro e w1 ⟨v,rfl,ho,hb⟩;have hul:(uvarint k).length<=10:=uvarint_length64 (by omega);obtain⟨va,vc,rfl,_,_,hrd⟩:=ho.rd (by simp;omega);obtain⟨cap,W1,hconv,hcell,hbel⟩:=wQ nm w1 (by omega);have HA:=hid (yC nm ([]++uvarint k) va _ vc cap W1 (hrd.keep hbel) hcell (by simp;omega) (by omega));have HB:=hid (hb.on hbel);clear ho hb hrd hcell hbel;go_wp2_with fail;refine HA.o.mono ?_;rintro e w2 ⟨v2,rfl,ho,hb⟩;have HO:=hid ho;have HB2:=hid (HB.o.on hb);have hle:=HB.o.size;clear ho hb;go_wp2_with fail;go_ret;exact⟨_,rfl,HO.o.mono hle,HB2.o⟩
theorem numbers_cap (L:List Int) (l:List UInt8) (a al:Option Addr) (c0 cl:Nat) (w:World) (hr:RdY w a l) (hL:RdI w al L) (hl:l.length<=800000000) (hLl:L.length<=100):
  Calls Tryz.prog 18 #[.slice a l.length c0,.slice al L.length cl] w fun e w'=>∃ v,e= .returned v/\(∃a c,v= .slice a (l++numsL L).length c/\RdY w' a (l++numsL L)/\(l.length<=c0->(l++numsL L).length<=c))/\Below w.heap.size w w':=by
 have HL:=hid hL;have HR:=hid hr;clear hL hr;go_enter Tryz.func18,Tryz.ntmps18;go_wp2_with fail;go_loopw [0,9] (fun b i wr=>∃ (k:Nat) (ab:Option Addr) (cb:Nat) (P:List UInt8),k<=L.length/\i= .int .i64 k/\b= .slice ab P.length cb/\Hid (P=l++numsL (L.take k))/\Hid (RdY wr ab P)/\Hid (l.length<=c0->P.length<=cb)/\Below w.heap.size w wr) (fun _ i _=>L.length-(intOf i).toNat)
 case atStart=>exact⟨0,a,c0,l,Nat.zero_le _,rfl,rfl,hid (by simp[numsL]),HR,hid id,Below.refl _ _⟩
 case round=>
  obtain⟨k,ab,cb,P,hk,rfl,rfl,hP,hY,hQ,hB⟩:=hrel;by_cases hlt:k<L.length
  ·obtain ⟨b,o,rfl,hat⟩:=(HL.o.keep hB).at (by omega);have h1:=hat k _ (List.getElem?_eq_getElem hlt);have hk0:(0:Int)<=k:=by omega
   have hk1:(k:Int)<L.length:=by omega
   have HE:=hid (aUz L k hlt);have hT:P.length<=900000000:=by
    have hq:=xG (L.take k);have hq2:=List.length_take_le k L;have:=congrArg List.length hP.o;rw[List.length_append]at this;omega
   have HA:=hid (fun W (h:RdY W ab P)=>bKa L[k] P ab cb W h hT);have HB:=hid hB;generalize L[k]=x at *;clear hat hB;go_wp2_with fail;refine(HA.o _ hY.o).mono ?_;rintro e w2 ⟨v2,rfl,ho,hb⟩;obtain⟨va,vc,rfl,hvc,_,hrd⟩:=ho.rd (by have:=(wM x).2;rw[List.length_append];omega);have HY:=hid hrd;have HVC:=hid hvc;have HB2:=hid (HB.o.on hb);clear ho hb hrd hvc;go_wp2_with fail;go_roundw
   case rel=>exact⟨k+1,va,vc,P++encI x,by omega,by go_num,by rw[List.length_append],hid (by rw[HE.o,hP.o,List.append_assoc]),HY,hid fun _=>HVC.o,HB2.o⟩
   case measure=>simp[intOf];omega
  ·obtain rfl:k=L.length:=by omega
   have HB:=hid hB;have hP2:=hP.o;rw[List.take_length]at hP2;have HP:=hid hP2;clear hB hP2 hP;go_wp2_with fail;go_ret;exact⟨.slice ab P.length cb,rfl,⟨ab,cb,by rw[HP.o],by rw[<-HP.o];exact hY.o,by rw[<-HP.o];exact hQ.o⟩,HB.o⟩
theorem tV (L:List Int) (l:List UInt8) (a al:Option Addr) (c cl:Nat) (w:World) (hr:RdY w a l) (hL:RdI w al L) (hl:l.length<=800000000) (hLl:L.length<=100):
  Calls Tryz.prog 18 #[.slice a l.length c,.slice al L.length cl] w fun e w'=>∃ v,e= .returned v/\(∃a c,v= .slice a (l++numsL L).length c/\RdY w' a (l++numsL L))/\Below w.heap.size w w':=
 (numbers_cap L l a al c cl w hr hL hl hLl).mono fun _ _ ⟨v,h1,⟨a,c,h2,h3,_⟩,h4⟩=>⟨v,h1,⟨a,c,h2,h3⟩,h4⟩
theorem aQd (v:Value) (w:World):Calls Tryz.prog 30 #[v,.int .i64 0] w fun e w'=>e= .returned (.tuple #[v,.int .i64 0])/\w=w':=by
 go_enter Tryz.func30,Tryz.ntmps30;go_wp2;go_ret2;exact⟨rfl,rfl⟩
theorem bIk (v:Value) (x:Int) (hx:(x==0)=false) (w:World):Calls Tryz.prog 30 #[v,.int .i64 x] w fun e w'=>e= .returned (.tuple #[.slice none 0 0,.int .i64 x])/\w=w':=by
 have hx2:(x != 0)=true:=by simp[bne,hx]
 go_enter Tryz.func30,Tryz.ntmps30;go_wp2;go_ret2;exact⟨rfl,rfl⟩
end Go.Proofs.YtaiklhbakldfhaaGreat
