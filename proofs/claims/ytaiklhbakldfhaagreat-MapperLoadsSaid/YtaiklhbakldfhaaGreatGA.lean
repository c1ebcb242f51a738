/-
  The world after more memory was made: 'w.next u'. A region whose operations read old memory and call functions that only make memory: one walk of the text's order serves every order, and a forced tail follows it.
  Plain mathematics of lists of extents: validity, normal forms. No program in sight.
  Plain mathematics: the blocks of a list, finding a block, parts of extents.
  Plain mathematics: what Cut leaves and removes, as the normal forms of the parts of a list.
  Plain mathematics: what a list maps, unchanged by joining; divided and changed extents.
  Plain mathematics: what Put leaves.
  Plain mathematics: a normal form is told by the slots alone; what Put and Cut map.
  Plain mathematics: the runs of the slots of extents.
  Plain laws on counts of slots: what Add and Drop make of them, and the runs of single slots.
  Plain laws on how many slots a test picks, and on the sizes of runs.
  Plain laws on slots that were listed: marks as a function, what is seen behind some rounds.
  Plain laws on extent trees: what a division leaves, normal lists.
  Plain laws: how often a slot is listed, over parts, joins, Put and Cut; lists inside a volume.
  Plain laws: families of volumes, their counts, what a change frees; a family stays sound.
  Conditions: as each theorem says.
-/
import Derived.WalkKit
import Derived.WalkSpells
import Derived.WalkLawsBesides
import Derived.Deep.Quiet
import Derived.BigQuiet
import Derived.StillTailTactics
import Derived.WideShapes
namespace Go
set_option linter.unusedSimpArgs false
set_option linter.unusedVariables false
set_option maxRecDepth 100000
set_option maxHeartbeats 16000000
theorem RowKit.Hid.o {p:Prop} (h:RowKit.Hid p):p:=h
open Go.RowKit
open Classical in
noncomputable def World.next (w u:World):World:=if Below w.heap.size w u then u else w
theorem World.bMr (w u:World):Below w.heap.size w (w.next u):=by
 unfold World.next
 split
 ·assumption
 ·exact Below.refl _ _
theorem World.bMv {w w':World} (h:Below w.heap.size w w'):w.next w'=w':=by
 unfold World.next;rw[if_pos h]
theorem World.is_next {w w':World} (h:Below w.heap.size w w'):∃ u,w'=w.next u:=⟨w',(World.bMv h).symm⟩
section
variable (w u:World) (a:Addr)
theorem World.size_next:w.heap.size<=(w.next u).heap.size:=(World.bMr w u).size
theorem World.cell?_next_lt (h:a.block<w.heap.size):(w.next u).cell? a=w.cell? a:=(World.bMr w u).cell h
theorem World.frozen?_next_lt (h:a.block<w.heap.size):(w.next u).frozen? a=w.frozen? a:=(World.bMr w u).frozen h
@[simp,go_sem] theorem World.cell?_next (h:(w.cell? a).isSome=true):(w.next u).cell? a=w.cell? a:=by
 obtain⟨v,hv⟩:=Option.isSome_iff_exists.1 h;exact World.cell?_next_lt _ _ _ (World.block_lt_of_cell? w a hv)
@[simp,go_sem] theorem World.frozen?_next (h:(w.cell? a).isSome=true):(w.next u).frozen? a=w.frozen? a:=by
 obtain⟨v,hv⟩:=Option.isSome_iff_exists.1 h;exact World.frozen?_next_lt _ _ _ (World.block_lt_of_cell? w a hv)
@[simp,go_sem] theorem World.tape_next:(w.next u).tape=w.tape:=(World.bMr w u).tape
@[simp,go_sem] theorem World.cell?_alloc_is (o:Obj) (h:(w.cell? a).isSome=true):(w.alloc o).cell? a=w.cell? a:=by
 obtain⟨v,hv⟩:=Option.isSome_iff_exists.1 h;exact World.cell?_alloc_lt _ _ _ (World.block_lt_of_cell? w a hv)
@[simp,go_sem] theorem World.frozen?_alloc_is (o:Obj) (h:(w.cell? a).isSome=true):(w.alloc o).frozen? a=w.frozen? a:=by
 obtain⟨v,hv⟩:=Option.isSome_iff_exists.1 h;exact World.frozen?_alloc_old _ _ _ (Nat.ne_of_lt (World.block_lt_of_cell? w a hv))
end
theorem RowKit.Below.keep {w w':World} (h:Below w.heap.size w w') {a:Addr} {v:Value} (hc:w.cell? a=some v):w'.cell? a=some v:=by
 rw[h.cell (World.block_lt_of_cell? w a hc)];exact hc
theorem RowKit.Below.bMw {w w':World} (h:Below w.heap.size w w') {a:Addr} {v:Value} (hc:w.cell? a=some v) {b:Bool} (hf:w.frozen? a=b):w'.frozen? a=b:=by
 rw[h.frozen (World.block_lt_of_cell? w a hc)];exact hf
theorem RowKit.Below.on {a w w':World} (h:Below a.heap.size a w) (h':Below w.heap.size w w'):Below a.heap.size a w':=h.trans (h'.mono h.size)
theorem RowKit.Below.bMq {a w:World} (h:Below a.heap.size a w) (o:Obj):Below a.heap.size a (w.alloc o):=h.alloc h.size o
theorem RowKit.Below.bMt {a w:World} (h:Below a.heap.size a w) (u:World):Below a.heap.size a (w.next u):=h.on (World.bMr w u)
theorem RowKit.Below.grow {w W w1:World} {row:Option Nat} (h:Below w.heap.size w W) (hg:W.grownBy w1 row):w.grownBy w1 row:=
 ⟨hg.os.trans h.os,hg.tape.trans h.tape,hg.output.trans h.output,Nat.le_trans h.size hg.size,fun k hk hne=>(hg.block k (Nat.lt_of_lt_of_le hk h.size) hne).trans (h.block k hk)⟩
theorem RowKit.Below.bMu {a w w':World} {row:Option Nat} (h:Below a.heap.size a w) (hg:w.grownBy w' row) (hr:∀ k,row=some k->a.heap.size<=k):Below a.heap.size a w':=
 h.grown hg h.size hr
theorem World.drew_next (w:World):∃ x,w.drew=w.next x:=World.is_next ((Below.refl _ _).drew)
section
variable {P:Program} {w:World}
theorem aC {id:Nat} {Q:Exit->Act->World->Prop} {a:Act} {l:List Oper} (hm:P.follows .mixedOrders=true) (hB:Region.lexB .any l.toArray=true)
  (h:wpQuiet P l.toArray (fun w'=>∃ n,w'=w.next n) (fun a'=>∀ w',(∃n,w'=w.next n)->Q .normal a' w') l a):(Code.region id l.toArray true).wp P Q a w:=
 wp_region_quiet (C:=fun w'=>∃ n,w'=w.next n) hm hB (World.drew_next w) h
theorem Calls.bMv {f:FuncId} {args:Array Value} {n:World} {v:Value}
  (h:Calls P f args (w.next n) fun e w'=>e= .returned v/\Below (w.next n).heap.size (w.next n) w'):Calls P f args (w.next n) fun e w''=>e= .returned v/\ ∃m,w''=w.next m:=
 h.mono fun _ _ ⟨he,hb⟩=>⟨he,World.is_next ((World.bMr w n).trans (hb.mono (World.size_next w n)))⟩
end
section
variable {P:Program} {ops:Array Oper} {md:Region.Mode} {C:World->Prop}
def zN (P:Program) (md:Region.Mode) (ops:Array Oper) (C:World->Prop) (n:Nat) (L:Array Bool->Act->Prop):Nat->Array Bool->Act->Prop
 |0,listed,a=>L listed a
 | f+1,listed,a=>
  Region.ready md ops listed≠ []/\ ∀i∈Region.ready md ops listed,i<n/\qOp P ops C i (zN P md ops C n L f (listed.setIfInBounds i true)) a
theorem uZ {n g:Nat} {L:Array Bool->Act->Prop} {Q':Exit->Act->World->Prop} (hL:∀ listed a w,C w->L listed a->wpAny P md ops Q' g listed a w):
  ∀(f:Nat) (listed:Array Bool) (a:Act) (w:World),C w->zN P md ops C n L f listed a->wpAny P md ops Q' (f+g) listed a w
 |0,listed,a,w,hw,h=>by rw[Nat.zero_add];exact hL _ _ _ hw h
 | f+1,listed,a,w,hw,h=>by
  rw[show f+1+g=(f+g)+1 by omega];exact⟨fun h0=>absurd h0 h.1,fun i hi=>wpOp_of_qOp hw (fun a' w' hw' h'=>uZ hL f _ a' w' hw' h') (h.2 i hi).2⟩
theorem aIr {n i:Nat} {oi:Oper} {v:Value} {L:Array Bool->Act->Prop} (hi:ops[i]? =some oi) (hsel:∀ (j:Nat) (o:Oper) cs b,ops[j]? =some o->o.op≠ .select cs b)
    (hs:Region.sinkB md ops n=true) (hc:Region.chainB md ops n=true) (hn:n<ops.size) (hin:i<n)
    (hdone:∀ listed a,L listed a-> ∀j∈Region.ready md ops listed,n<=j):
    ∀ (f:Nat) (listed:Array Bool) (a:Act),HeadInv md ops n listed->
      (∀j oj,ops[j]? =some oj->j≠i->listed.getD j true=false->(∀e∈oj.after,Region.binds md e=true->e.on≠i)->oi.apart ops oj=true)->
      i∈Region.ready md ops listed->YieldsIn P ops C oi v a->
      zN P md ops C n L f (listed.setIfInBounds i true) (a.put oi.dst v)->zN P md ops C n L (f+1) listed a:=by
  intro f
  induction f with
  | zero=>
    intro listed a inv _ hr hy H;have hun:=(mem_ready.1 hr).1;refine⟨fun h=>(by rw[h]at hr;cases hr),fun j hj=> ?_⟩;have hjn:j<n:=by
      rcases Nat.lt_or_ge j n with h|h
      · exact h
      · exact absurd hj (tail_waits hs hc hn inv _ i rfl hin hun j h)
    refine⟨hjn,?_⟩;by_cases hji:j=i
    · subst hji;exact hy.qOp hi H
    · have:=hdone _ _ H j (ready_mono hj hji);omega
  | succ f ih=>
    intro listed a inv hfree hr hy H;have hun:=(mem_ready.1 hr).1;refine⟨fun h=>(by rw[h]at hr;cases hr),fun j hj=> ?_⟩;have hjn:j<n:=by
      rcases Nat.lt_or_ge j n with h|h
      · exact h
      · exact absurd hj (tail_waits hs hc hn inv _ i rfl hin hun j h)
    refine⟨hjn,?_⟩;by_cases hji:j=i
    · subst hji;exact hy.qOp hi H
    · have h1:=(H.2 j (ready_mono hj hji)).2;obtain⟨hjun,oj,hoj,hall⟩:=mem_ready.1 hj;have hnot:∀ e∈oj.after,Region.binds md e=true->e.on≠i:=fun e he hb heq=>by
        have h1:=hall e he hb;rw[heq,getD_both hun]at h1;cases h1
      have h2:=qOp_put hoj (hfree j oj hoj hji hjun hnot) (fun cs b=>hsel i oi cs b hi) (fun cs b=>hsel j oj cs b hoj) hy h1;have hfree':∀ k ok,ops[k]? =some ok->k≠i->(listed.setIfInBounds j true).getD k true=false->
          (∀e∈ok.after,Region.binds md e=true->e.on≠i)->oi.apart ops ok=true:=fun k ok hk hki hun hno=>by
        refine hfree k ok hk hki ?_ hno;by_cases hjk:j=k
        · subst hjk;exact hjun
        · rw[getD_set_ne true hjk]at hun;exact hun
      refine qOp_mono (fun a' h3=>ih (listed.setIfInBounds j true) a' (inv.set hj hjn) hfree' (ready_mono hr (Ne.symm hji)) h3.1 ?_) h2;rw[Array.setIfInBounds_comm _ _ hji];exact h3.2
theorem aCw {n g:Nat} {Lq:Act->Prop} (hsel:Region.noSelect ops=true) (hs:Region.sinkB md ops n=true) (hc:Region.chainB md ops n=true) (hn:n<ops.size):
  ∀(l:List Oper) (k:Nat) (listed:Array Bool) (a:Act),(∀j,j<l.length->l[j]? =ops[k+j]?)->k+l.length=n->HeadInv md ops n listed->
  Region.lexHead md ops g l.length k listed=true->wpQuiet P ops C Lq l a->
  zN P md ops C n (fun listed' a'=>Region.seqB md ops g n listed'=true/\Lq a') l.length listed a
 | [],k,listed,a,_,hk,_,hB,h=>by
  have:k=n:=by simpa using hk
  subst this;exact⟨by simpa [Region.lexHead]using hB,h⟩
 | o::l,k,listed,a,hl,hk,inv,hB,h=>by
  have h0:ops[k]? =some o:=by simpa using (hl 0 (by simp)).symm
  simp only[List.length_cons,Region.lexHead,Bool.and_eq_true]at hB;obtain⟨⟨hr,hf⟩,hB'⟩:=hB;have hkn:k<n:=by simp only[List.length_cons]at hk;omega
  have hr':k∈Region.ready md ops listed:=by simpa using hr
  have hst:qOp P ops C k (wpQuiet P ops C Lq l) a:=by unfold qOp;simp only[h0];exact h
  obtain ⟨v,hy,hK⟩:=yieldsIn_of_qOp h0 hst;exact aIr h0 (Region.noSelect_spec hsel) hs hc hn hkn (fun listed' a' hL=>seqB_ready hL.1) l.length listed a inv (Region.free_spec h0 hf) hr' hy
   (aCw hsel hs hc hn l (k+1) _ _ (fun j hj=>by have:=hl (j+1) (by simp;omega);simpa [Nat.add_assoc,Nat.add_comm 1 j]using this) (by simp only[List.length_cons]at hk;omega) (inv.set hr' hkn) hB' hK)
theorem uY {id:Nat} {Q:Exit->Act->World->Prop} {a:Act} {w:World} {l:List Oper} (n:Nat) (hm:P.follows .mixedOrders=true) (hB:Region.lexTailB .any l.toArray n=true)
  (hC:C {w with drawn:=w.drawn+1})
  (h:wpQuiet P l.toArray C (fun a'=>∀ w',C w'->wpList P l.toArray Q (l.drop n) a' w') (l.take n) a):(Code.region id l.toArray true).wp P Q a w:=by
 simp only[Region.lexTailB,Bool.and_eq_true,decide_eq_true_eq]at hB;obtain⟨⟨⟨⟨hsel,hn⟩,hs⟩,hc⟩,hlex⟩:=hB;have hn':n<l.length:=by simpa using hn
 have htl:(l.take n).length=n:=by simp;omega
 have hdl:(l.drop n).length=l.toArray.size-n:=by simp
 have inv0:HeadInv .any l.toArray n (Array.replicate l.toArray.size false):=
  ⟨by simp,fun j oj _ hl=>(by rw[getD_replicate_false]at hl;cases hl),fun t _ ht=>getD_in (by simpa using ht) (getD_replicate_false _ _)⟩
 have H:=aCw (C:=C) (md:= .any) (g:=l.toArray.size-n) hsel hs hc hn (l.take n) 0 _ a (fun j hj=>by
  have hj':j<n:=by rw[htl]at hj;exact hj
  simp[hj']) (by simpa using htl) inv0 (by rw[htl];exact hlex) h
 refine wp_region_any hm ?_;have:=uZ (Q':=Q) (g:=l.toArray.size-n) (fun listed a' w' hw' hL=>by
  have:=wpAny_of_seq (md:= .any) (Q':=Q) (l.drop n) n listed a' w' (fun j=>by simp[List.getElem?_drop]) (by rw[hdl];exact hL.1) (hL.2 w' hw')
  rwa [hdl]at this) _ _ _ _ hC H
 rw[htl,show n+(l.toArray.size-n)=l.toArray.size by omega]at this;exact this
theorem iM {id:Nat} {Q:Exit->Act->World->Prop} {a:Act} {w:World} {l:List Oper} (n:Nat) (hm:P.follows .mixedOrders=true) (hB:Region.lexTailB .any l.toArray n=true)
  (h:wpQuiet P l.toArray (fun w'=>∃ n,w'=w.next n) (fun a'=>∀ w',(∃n,w'=w.next n)->wpList P l.toArray Q (l.drop n) a' w') (l.take n) a):(Code.region id l.toArray true).wp P Q a w:=
 uY n hm hB (World.drew_next w) h
end
section
variable {P:Program} (w:World)
theorem zY (base:Nat) (t ty e:TypeId) (i:TypeInfo) (z:Value) (size bytes:Nat) (ht:P.underlying t=some (.slice e)) (hi:P.info? e=some i) (hz:i.zero=some z)
  (hsize:i.size=size) (hby:i.bytes=bytes) (hzs:z.cells.size=size) (hsz:0<size)
  (v:Value) (n:Nat) (xs:List Value) (hown:w.ownsRow base e size v n xs)
  (a:Addr) (m c:Nat) (news:List Value) (hl:news.length=m*size) (hnews:∀ j u,news[j]? =some u->w.cell? (a.add j)=some u) (h1:∀ u∈news,u.oneCell'=true)
  (hbytes:(n+m)*bytes<=140737488355328) (h63:n+m<=maxLen) (hbase:base<=w.heap.size):
  ∃ v' w',(Builtin.append_ #[t,t] ty #[v,.slice (some a) m c]).run P w= .ok v' w'/\w'.ownsRow base e size v' (n+m) (xs++news)/\w.grownBy w' v.ownBlock/\
   (v'.ownBlock=v.ownBlock∨v'.ownBlock=some w.heap.size):=by
 obtain⟨v',w',hr,h2,h3,_⟩:=run_append_own (P:=P) w base t ty e i z size bytes ht hi hz hsize hby hzs hsz v n xs hown a m c news hl hnews h1 h63 hbytes hbase;refine⟨v',w',hr,h2,h3,?_⟩;have hsmall:n+m<=9223372036854775807:=by simp only[maxLen]at h63;omega
 rcases hown.2 with ⟨rfl,rfl⟩|⟨g,cap,cur,rfl,hbg,hg,hnc,hcm,hcs,htake⟩
 ·by_cases hm:m=0
  ·subst hm;rcases h2.2 with ⟨rfl,_⟩|⟨g,cap,cur,rfl,hbg,hg,hnc,hcm,hcs,htake⟩
   ·exact .inl rfl
   ·have hn:news=[]:=List.eq_nil_of_length_eq_zero (by simpa using hl);subst hn;have:(Builtin.append_ #[t,t] ty #[.slice none 0 0,.slice (some a) 0 c]).run P w= .ok (.slice none 0 0) w:=by
     simp[Builtin.append_,run_underlying ht,sizeOf,typeInfo,hi,Builtin.lenOf,Builtin.firstCells,loadCells,loadCellsFrom]
    rw[this]at hr;simp at hr
  ·have hr2:=run_append_nil (P:=P) w t ty e i z ht hi hz a m c news (by rw[hsize];exact hl) hnews (by omega) (by omega) (by rw[hby];have hb:=hbytes;simp only[Nat.zero_add]at hb;omega);rw[hr]at hr2;injection hr2 with e1 e2;rw[e1];exact .inr rfl
 ·by_cases hroom:n+m<=cap
  ·obtain⟨w2,hr2,_⟩:=run_append_fits (P:=P) w base t ty e i size ht hi hsize g n cap xs hown a m c news hl hnews h1 hroom;rw[hr]at hr2;injection hr2 with e1 e2;rw[e1];exact .inl rfl
  ·have holds:∀ j u,xs[j]? =some u->w.cell? ((⟨g,0,none⟩:Addr).add j)=some u:=hown.cells (g:=g) rfl;have hr2:=run_append_grow (P:=P) w t ty e i z ht hi hz ⟨g,0,none⟩ n cap xs (by rw[hsize];exact hown.1) holds a m c news (by rw[hsize];exact hl) hnews (by omega) (by omega) (growslice_fits (by omega) (by rw[hby];exact hbytes));rw[hr]at hr2;injection hr2 with e1 e2;rw[e1];exact .inr rfl
theorem aM {ops:Array Oper} {rest:List Oper} {o:Oper} {a:Act} {Q:Exit->Act->World->Prop} (hgd:o.guard=none) (s x:Operand) (t:TypeId)
  (ho:o.op= .call {callee:= .builtin .append,args:= #[s,x],argTypes:= #[t,t]})
  (base:Nat) (e:TypeId) (i:TypeInfo) (z:Value) (size bytes:Nat) (ht:P.underlying t=some (.slice e)) (hi:P.info? e=some i) (hz:i.zero=some z)
  (hsize:i.size=size) (hby:i.bytes=bytes) (hzs:z.cells.size=size) (hsz:0<size)
  (v:Value) (n:Nat) (xs:List Value) (hs:a.eval s=v) (hown:w.ownsRow base e size v n xs)
  (ad:Addr) (m c:Nat) (news:List Value) (hx:a.eval x= .slice (some ad) m c) (hl:news.length=m*size) (hnews:∀ j u,news[j]? =some u->w.cell? (ad.add j)=some u) (h1:∀ u∈news,u.oneCell'=true)
  (hbytes:(n+m)*bytes<=140737488355328) (h63:n+m<=maxLen) (hbase:base<=w.heap.size)
  (h:∀ v' w',w'.ownsRow base e size v' (n+m) (xs++news)->w.grownBy w' v.ownBlock->(v'.ownBlock=v.ownBlock∨v'.ownBlock=some w.heap.size)->wpList P ops Q rest (a.put o.dst v') w'):wpList P ops Q (o::rest) a w:=by
 refine wpList_plain hgd fun K hK=> ?_;obtain⟨v',w',hr,h2,h3,h4⟩:=zY (P:=P) w base t o.type e i z size bytes ht hi hz hsize hby hzs hsz v n xs hown ad m c news hl hnews h1 hbytes h63 hbase;unfold Oper.wp execOp;simp only[ho,resolve,invoke,builtin,Sem.run_bind,Sem.run_pure,Result.andThen_ok,List.map_toArray,List.map_cons,List.map_nil,hs,hx,hr];exact hK _ _ (h v' w' h2 h3 h4)
end
def World.source (w:World) (size:Nat) (a:Option Addr) (m:Nat) (ys:List Value):Prop:=
 ys.length=m*size/\(∀u∈ys,u.oneCell'=true)/\((a=none/\m=0)∨ ∃ad,a=some ad/\ ∀j u,ys[j]? =some u->w.cell? (ad.add j)=some u)
section
variable {P:Program} (w:World)
theorem aEb (base:Nat) (t ty e:TypeId) (i:TypeInfo) (size c:Nat) (ht:P.underlying t=some (.slice e)) (hi:P.info? e=some i)
  (v:Value) (n:Nat) (xs:List Value) (hown:w.ownsRow base e size v n xs):
  (Builtin.append_ #[t,t] ty #[v,.slice none 0 c]).run P w= .ok v w:=by
 rcases hown.2 with ⟨rfl,rfl⟩|⟨g,cap,cur,rfl,_,_,hnc,_⟩
 ·simp[Builtin.append_,run_underlying ht,sizeOf,typeInfo,hi,Builtin.lenOf,Builtin.firstCells]
 ·simp[Builtin.append_,run_underlying ht,sizeOf,typeInfo,hi,Builtin.lenOf,Builtin.firstCells,hnc,storeCells]
theorem dB {ops:Array Oper} {rest:List Oper} {o:Oper} {a:Act} {Q:Exit->Act->World->Prop} (hgd:o.guard=none) (s x:Operand) (t:TypeId)
  (ho:o.op= .call {callee:= .builtin .append,args:= #[s,x],argTypes:= #[t,t]})
  (base:Nat) (e:TypeId) (i:TypeInfo) (z:Value) (size bytes:Nat) (ht:P.underlying t=some (.slice e)) (hi:P.info? e=some i) (hz:i.zero=some z)
  (hsize:i.size=size) (hby:i.bytes=bytes) (hzs:z.cells.size=size) (hsz:0<size)
  (v:Value) (n:Nat) (xs:List Value) (hs:a.eval s=v) (hown:w.ownsRow base e size v n xs)
  (ad:Option Addr) (m c:Nat) (news:List Value) (hx:a.eval x= .slice ad m c) (hsrc:w.source size ad m news)
  (hbytes:(n+m)*bytes<=140737488355328) (h63:n+m<=maxLen) (hbase:base<=w.heap.size)
  (h:∀ v' w',w'.ownsRow base e size v' (n+m) (xs++news)->w.grownBy w' v.ownBlock->(v'.ownBlock=v.ownBlock∨v'.ownBlock=some w.heap.size)->wpList P ops Q rest (a.put o.dst v') w'):wpList P ops Q (o::rest) a w:=by
 obtain⟨hl,h1,⟨rfl,rfl⟩|⟨ad,rfl,hnews⟩⟩:=hsrc
 ·refine wpList_plain hgd fun K hK=> ?_;have hr:=aEb (P:=P) w base t o.type e i size c ht hi v n xs hown;have hn:news=[]:=List.eq_nil_of_length_eq_zero (by simpa using hl);subst hn;unfold Oper.wp execOp;simp only[ho,resolve,invoke,builtin,Sem.run_bind,Sem.run_pure,Result.andThen_ok,List.map_toArray,List.map_cons,List.map_nil,hs,hx,hr];exact hK _ _ (h v w (by simpa using hown) ⟨rfl,rfl,rfl,Nat.le_refl _,fun _ _ _=>rfl⟩ (.inl rfl))
 ·exact aM w hgd s x t ho base e i z size bytes ht hi hz hsize hby hzs hsz v n xs hs hown ad m c news hx hl hnews h1 hbytes h63 hbase h
end
end Go
namespace Go.Proofs.YtaiklhbakldfhaaGreat
set_option linter.unusedSimpArgs false
set_option linter.unusedVariables false
set_option maxRecDepth 100000
def dW (a n s:Int):Bool:=decide (0<=a/\0<=n/\a<=s/\n<=s-a)
def kK (a n s:Int):Bool:=decide (1<=n)&&(dW a n 65536&&dW s n 65536)
theorem vN (a n s:Int):kK a n s=true↔1<=n/\0<=a/\0<=s/\a+n<=65536/\s+n<=65536:=by
 simp only[kK,dW,Bool.and_eq_true,decide_eq_true_eq];omega
structure E where
 a:Int
 n:Int
 s:Int
def E.wf (x:E):Prop:=(-9223372036854775808<=x.a/\x.a<=9223372036854775807)/\(-9223372036854775808<=x.n/\x.n<=9223372036854775807)/\(-9223372036854775808<=x.s/\x.s<=9223372036854775807)
def wfL (l:List E):Prop:= ∀x∈l,x.wf
def okB (x:E):Bool:=kK x.a x.n x.s
def bG:Int->List E->Bool
 |_,[]=>true
 |e,x::r=>okB x&&(decide (e<=x.a)&&bG (x.a+x.n) r)
def aI (l:List E):Bool:=bG 0 l
theorem aFe (l:List E) (x:E):∀ e,bG e (l++[x])=(bG e l&&(okB x&&decide ((l.getLast?.map fun y=>y.a+y.n).getD e<=x.a))):=by
 induction l with
 |nil=>intro e;simp[bG];rfl
 | cons y r ih=>
  intro e;simp only[List.cons_append,bG,ih,Bool.and_assoc]
  cases r with
  |nil=>simp[bG];rfl
  |cons z r=>simp[List.getLast?_cons]
theorem aCx (l:List E) (k:Nat) (h:k<l.length):aI (l.take (k+1))=(aI (l.take k)&&(okB l[k]&&decide (((l.take k).getLast?.map fun y=>y.a+y.n).getD 0<=l[k].a))):=by
 rw[List.take_succ_eq_append_getElem h];exact aFe _ _ _
theorem aOe (l:List E) (h:0<l.length):aI (l.take (0+1))=okB l[0]:=by
 rw[aCx l 0 h,Bool.eq_iff_iff];generalize l[0]=x;simp only[List.take_zero,aI,bG,okB,vN,Bool.and_eq_true,Bool.true_and,List.getLast?_nil,Option.map_none,Option.getD_none]
 constructor
 ·exact fun h=>h.1
 ·exact fun h=>⟨h,decide_eq_true h.2.1⟩
theorem zQ (l:List E) (k:Nat) (h0:k<=0) (h:k<l.length):aI (l.take (k+1))=okB l[k]:=by
 obtain rfl:k=0:=by omega
 exact aOe l h
theorem aCy (l:List E) (k:Nat) (h:k<l.length) (h0:0<k):aI (l.take (k+1))=(aI (l.take k)&&(okB l[k]&&decide (l[k-1].a+l[k-1].n<=l[k].a))):=by
 rw [aCx l k h];have:(l.take k).getLast? =some l[k-1]:=by
  rw[List.getLast?_eq_getElem?,List.length_take,Nat.min_eq_left (Nat.le_of_lt h),List.getElem?_take,if_pos (by omega),List.getElem?_eq_getElem (by omega)]
 rw[this];rfl
theorem vB (l:List E):∀ k,aI l=true->aI (l.take k)=true:=by
 have key:∀ (l:List E) k e,bG e l=true->bG e (l.take k)=true:=by
  intro l
  induction l with
  |nil=>intro k e;simp
  | cons x r ih=>
   intro k e h
   cases k with
   |zero=>simp[bG]
   | succ k=>
    simp only[List.take_succ_cons,bG,Bool.and_eq_true]at h ⊢;exact⟨h.1,h.2.1,ih _ _ h.2.2⟩
 exact fun k h=>key l k 0 h
theorem kI (l:List E) (k:Nat) (h:aI (l.take k)=false):aI l=false:=by
 cases hv:aI l with
 |false=>rfl
 |true=>rw[vB l k hv]at h;exact h
theorem aMa (l:List E):∀ e,bG e l=true-> ∀x∈l,okB x=true:=by
 induction l with
 |nil=>intro e _ x hx;cases hx
 | cons y r ih=>
  intro e h x hx;simp only[bG,Bool.and_eq_true]at h;rcases List.mem_cons.1 hx with rfl|hx
  ·exact h.1
  ·exact ih _ h.2.2 x hx
theorem aK {l:List E} (h:aI l=true):∀ x∈l,okB x=true:=aMa l 0 h
theorem aD (x:E):okB x=true↔1<=x.n/\0<=x.a/\0<=x.s/\x.a+x.n<=65536/\x.s+x.n<=65536:=vN _ _ _
theorem aXi {l:List E} {k j:Nat} (h:aI (l.take k)=true) (hj:j<k) (hl:j<l.length):okB l[j]=true:=by
 refine aK h _ ?_;rw[List.mem_iff_getElem?];exact⟨j,by rw[List.getElem?_take,if_pos hj];exact List.getElem?_eq_getElem hl⟩
def meets (y x:E):Bool:=decide (y.a+y.n=x.a)&&decide (y.s+y.n=x.s)
def E.longer (y:E) (n:Int):E:=⟨y.a,y.n+n,y.s⟩
def fD (l:List E) (x:E):List E:=
 match l.getLast? with
 |some y=>if meets y x then l.dropLast++[y.longer x.n]else l++[x]
 |none=>[x]
def joinL (l:List E):List E:=l.foldl fD []
theorem nE (x:E):fD [] x=[x]:=rfl
theorem dG (l:List E) (y x:E) (h:meets y x=true):fD (l++[y]) x=l++[y.longer x.n]:=by
 simp[fD,h]
theorem eD (l:List E) (y x:E) (h:meets y x=false):fD (l++[y]) x=l++[y]++[x]:=by
 simp[fD,h]
theorem fC (l:List E) (h:l≠ []):∃ l' y,l=l'++[y]:=⟨l.dropLast,l.getLast h,(List.dropLast_concat_getLast h).symm⟩
theorem tN (l:List E) (x:E):(fD l x).length<=l.length+1:=by
 by_cases h:l=[]
 ·subst h;simp[fD]
 ·obtain⟨l',y,rfl⟩:=fC l h;cases hm:meets y x
  ·rw[eD _ _ _ hm];simp
  ·rw[dG _ _ _ hm];simp
theorem aPn (l:List E) (x:E) (hl:∀ y∈l,okB y=true) (hx:okB x=true):∀ y∈fD l x,okB y=true:=by
 by_cases h:l=[]
 ·subst h;intro y hy;simp[fD]at hy;rw[hy];exact hx
 ·obtain ⟨l',z,rfl⟩:=fC l h;intro y hy;cases hm:meets z x
  ·rw[eD _ _ _ hm]at hy;rcases List.mem_append.1 hy with hy|hy
   ·exact hl y hy
   ·simp at hy;rw[hy];exact hx
  ·rw[dG _ _ _ hm]at hy;rcases List.mem_append.1 hy with hy|hy
   ·exact hl y (List.mem_append_left _ hy)
   ·simp at hy;rw[hy];have h1:=hl z (by simp);simp only[meets,Bool.and_eq_true,decide_eq_true_eq]at hm;rw[aD]at h1 hx ⊢;simp only[E.longer];omega
theorem dP (l:List E) (x:E):joinL (l++[x])=fD (joinL l) x:=by simp[joinL]
theorem aGt (l:List E) (k:Nat) (h:k<l.length):joinL (l.take (k+1))=fD (joinL (l.take k)) l[k]:=by
 rw[List.take_succ_eq_append_getElem h,dP]
theorem gJ {P:List E->Prop} (h0:P []) (h1:∀ l x,P l->P (l++[x])) (l:List E):P l:=by
 have:∀ n (l:List E),l.length=n->P l:=by
  intro n
  induction n with
  |zero=>intro l hl;rw[List.eq_nil_of_length_eq_zero hl];exact h0
  | succ n ih=>
   intro l hl;obtain⟨l',y,rfl⟩:=fC l (by intro e;rw[e]at hl;simp at hl);exact h1 _ _ (ih _ (by simp at hl;omega))
 exact this _ l rfl
theorem jL (l:List E):(joinL l).length<=l.length:=by
 induction l using gJ with
 |h0=>simp[joinL]
 | h1 l x ih=>
  rw[dP];have:=tN (joinL l) x;simp;omega
theorem aGu (l:List E):(∀x∈l,okB x=true)-> ∀x∈joinL l,okB x=true:=by
 induction l using gJ with
 |h0=>intro _ x hx;simp[joinL]at hx
 | h1 l x ih=>
  intro h;rw[dP];exact aPn _ _ (ih fun y hy=>h y (List.mem_append_left _ hy)) (h x (by simp))
def aT (l:List E):Int:=(l.map E.n).sum
theorem aCc (l:List E) (k:Nat) (h:k<l.length):aT (l.take (k+1))=aT (l.take k)+l[k].n:=by
 rw[List.take_succ_eq_append_getElem h];unfold aT;rw[List.map_append,List.sum_append];simp
theorem yZ (l:List E) (h:∀ x∈l,okB x=true):0<=aT l/\aT l<=65536*l.length:=by
 induction l with
 |nil=>simp[aT]
 | cons x r ih=>
  have h1:=(aD x).1 (h x (by simp));have h2:=ih fun y hy=>h y (by simp[hy]);have e:aT (x::r)=x.n+aT r:=by simp[aT]
  rw[e];simp only[List.length_cons];omega
def hits (p:Int) (x:E):Bool:=decide (x.a<=p)&&decide (p<x.a+x.n)
def fK (l:List E) (p:Int):Int:=((l.find? (hits p)).map fun x=>x.s+p-x.a).getD 0
def fH (l:List E) (p:Int):Bool:=(l.find? (hits p)).isSome
theorem bBq (l:List E) (p:Int) (k:Nat) (h:k<l.length) (h0:(l.take k).find? (hits p)=none):(hits p l[k]=false->(l.take (k+1)).find? (hits p)=none)/\(hits p l[k]=true->l.find? (hits p)=some l[k]):=by
 refine⟨fun h1=> ?_,fun h1=> ?_⟩
 ·rw[List.take_succ_eq_append_getElem h,List.find?_append,h0];simp[h1]
 ·have:l.find? (hits p)=(l.take k++l[k]::l.drop (k+1)).find? (hits p):=by rw[<-List.drop_eq_getElem_cons h,List.take_append_drop]
  rw[this,List.find?_append,h0,Option.none_or,List.find?_cons_of_pos h1]
def xX (l:List E):Int:=if aI l then aT l else 0
def aRo (l:List E) (p:Int):Int:=if aI l then fK l p else 0
def aRn (l:List E) (p:Int):Bool:=aI l&&fH l p
theorem aWw {l:List E} (h:aI l=false):xX l=0:=by simp[xX,h]
theorem aDx {l:List E} (h:aI l=true):xX l=aT l:=by simp[xX,h]
theorem bGi {l:List E} (p:Int) (h:aI l=false):aRo l p=0:=by simp[aRo,h]
theorem aLe {l:List E} (p:Int) (h:aI l=true):aRo l p=fK l p:=by simp[aRo,h]
theorem bGh {l:List E} (p:Int) (h:aI l=false):aRn l p=false:=by simp[aRn,h]
theorem aLd {l:List E} (p:Int) (h:aI l=true):aRn l p=fH l p:=by simp[aRn,h]
def bN (x:E) (f t:Int):E:=⟨max x.a f,min (x.a+x.n) t-max x.a f,x.s+max x.a f-x.a⟩
def bR (x:E) (f t:Int):Bool:=decide (max x.a f<min (x.a+x.n) t)
theorem aPu (x:E) (f t:Int) (hx:okB x=true) (hp:bR x f t=true):okB (bN x f t)=true:=by
 rw[aD]at *;simp only[bR,decide_eq_true_eq,bN]at *;omega
def tO (b:Bool) (l:List E) (x:E):List E:=if b then fD l x else l
def aNl (p n:Int) (acc:List E) (x:E):List E:=tO (bR x (p+n) 65536) (tO (bR x 0 p) acc (bN x 0 p)) (bN x (p+n) 65536)
def aGz (p n:Int) (acc:List E) (x:E):List E:=tO (bR x p (p+n)) acc (bN x p (p+n))
def fV (l:List E) (p n:Int):List E:=l.foldl (aNl p n) []
def inL (l:List E) (p n:Int):List E:=l.foldl (aGz p n) []
theorem aIv (b:Bool) (l:List E) (x:E):(tO b l x).length<=l.length+1:=by
 unfold tO
 split
 ·exact tN l x
 ·omega
theorem bAh (b:Bool) (l:List E) (x:E) (hl:∀ y∈l,okB y=true) (hx:b=true->okB x=true):∀ y∈tO b l x,okB y=true:=by
 unfold tO
 split
 ·rename_i h;exact aPn l x hl (hx h)
 ·exact hl
theorem nK (l:List E) (p n:Int):(∀x∈l,okB x=true)->(inL l p n).length<=l.length/\ ∀x∈inL l p n,okB x=true:=by
 induction l using gJ with
 |h0=>simp[inL]
 | h1 l x ih=>
  intro h;obtain⟨h1,h2⟩:=ih fun y hy=>h y (List.mem_append_left _ hy);have hx:=h x (by simp);have e:inL (l++[x]) p n=aGz p n (inL l p n) x:=by simp[inL]
  rw[e];refine⟨?_,?_⟩
  ·unfold aGz;have a1:=aIv (bR x p (p+n)) (inL l p n) (bN x p (p+n));simp;omega
  ·exact bAh _ _ _ h2 fun hp=>aPu _ _ _ hx hp
def aJ (l:List E) (f t:Int):List E:=(l.filter fun x=>bR x f t).map fun x=>bN x f t
theorem rM (l:List E) (x:E) (f t:Int):aJ (l++[x]) f t=if bR x f t then aJ l f t++[bN x f t]else aJ l f t:=by
 unfold aJ;rw[List.filter_append,List.map_append];cases h:bR x f t <;> simp[h]
theorem aPt (l:List E) (f t:Int) (k:Nat) (h:k<l.length):aJ (l.take (k+1)) f t=if bR l[k] f t then aJ (l.take k) f t++[bN l[k] f t]else aJ (l.take k) f t:=by
 rw[List.take_succ_eq_append_getElem h,rM]
theorem bU (l:List E) (f t:Int):(aJ l f t).length<=l.length:=by
 unfold aJ;rw[List.length_map];exact List.length_filter_le _ _
theorem dH (l:List E) (f t:Int) (h:∀ x∈l,okB x=true):∀ x∈aJ l f t,okB x=true:=by
 intro x hx;unfold aJ at hx;obtain⟨y,hy,rfl⟩:=List.mem_map.1 hx;obtain⟨h1,h2⟩:=List.mem_filter.1 hy;exact aPu _ _ _ (h y h1) h2
theorem E.ext' {x y:E} (h1:x.a=y.a) (h2:x.n=y.n) (h3:x.s=y.s):x=y:=by
 cases x;cases y;simp_all
def eqE (x y:E):Bool:=decide (x.a=y.a)&&(decide (x.n=y.n)&&decide (x.s=y.s))
theorem aNi (x y:E):eqE x y=true↔x=y:=by
 simp only[eqE,Bool.and_eq_true,decide_eq_true_eq];exact⟨fun⟨h1,h2,h3⟩=>E.ext' h1 h2 h3,fun h=>by rw[h];exact⟨rfl,rfl,rfl⟩⟩
def uT:List E->List E->Bool
 | [],[]=>true
 |x::l,y::r=>eqE x y&&uT l r
 |_,_=>false
theorem aBn (l r:List E):uT l r=true↔l=r:=by
 induction l generalizing r with
 |nil=>cases r <;> simp[uT]
 | cons x l ih=>cases r with
  |nil=>simp[uT]
  |cons y r=>simp[uT,ih,aNi]
theorem aFq (l:List E):uT l l=true:=(aBn l l).2 rfl
theorem nX (l:List E):∀ e,bG e l=true↔(∀x∈l,okB x=true)/\l.Pairwise (fun x y=>x.a+x.n<=y.a)/\ ∀x∈l,e<=x.a:=by
 induction l with
 |nil=>intro e;simp[bG]
 | cons x r ih=>
  intro e;simp only[bG,Bool.and_eq_true,decide_eq_true_eq,ih,List.pairwise_cons,List.mem_cons,forall_eq_or_imp]
  constructor
  ·rintro⟨h1,h2,h3,h4,h5⟩;have:=(aD x).1 h1;exact⟨⟨h1,h3⟩,⟨h5,h4⟩,h2,fun y hy=>by have:=h5 y hy;omega⟩
  ·rintro⟨⟨h1,h3⟩,⟨h5,h4⟩,h2,_⟩;exact⟨h1,h2,h3,h4,h5⟩
theorem bQ (l:List E):aI l=true↔(∀x∈l,okB x=true)/\l.Pairwise (fun x y=>x.a+x.n<=y.a):=by
 unfold aI;rw[nX]
 constructor
 ·exact fun h=>⟨h.1,h.2.1⟩
 ·exact fun h=>⟨h.1,h.2,fun x hx=>((aD x).1 (h.1 x hx)).2.1⟩
theorem gV (l:List E) (f t:Int) (h:aI l=true):aI (aJ l f t)=true:=by
 rw[bQ]at h ⊢;refine⟨dH l f t h.1,?_⟩;unfold aJ;rw[List.pairwise_map];have h2:(l.filter fun x=>bR x f t).Pairwise (fun x y=>x.a+x.n<=y.a):=h.2.sublist List.filter_sublist;refine h2.imp_of_mem ?_;intro x y hx hy hxy;have k1:=(List.mem_filter.1 hx).2;have k2:=(List.mem_filter.1 hy).2;simp only[bR,decide_eq_true_eq,bN]at *;omega
theorem iH (l:List E) (f t:Int):∀ x∈aJ l f t,f<=x.a/\x.a+x.n<=t:=by
 intro x hx;unfold aJ at hx;obtain⟨y,hy,rfl⟩:=List.mem_map.1 hx;have k:=(List.mem_filter.1 hy).2;simp only[bR,decide_eq_true_eq,bN]at *;omega
theorem jI (l:List E) (f t g u:Int) (h:aI l=true) (htg:t<=g):aI (aJ l f t++aJ l g u)=true:=by
 have h1:=(bQ _).1 (gV l f t h);have h2:=(bQ _).1 (gV l g u h);rw[bQ];refine⟨fun x hx=> ?_,?_⟩
 ·rcases List.mem_append.1 hx with hx|hx
  ·exact h1.1 x hx
  ·exact h2.1 x hx
 ·rw[List.pairwise_append];refine⟨h1.2,h2.2,fun x hx y hy=> ?_⟩;have a:=iH l f t x hx;have b:=iH l g u y hy;omega
theorem wE (l:List E) (p n:Int):inL l p n=joinL (aJ l p (p+n)):=by
 induction l using gJ with
 |h0=>rfl
 | h1 l x ih=>
  have e:inL (l++[x]) p n=aGz p n (inL l p n) x:=by simp[inL]
  rw[e,rM,ih];unfold aGz tO;cases bR x p (p+n)
  ·rfl
  ·simp[dP]
theorem aMq (l:List E) (f t:Int) (h:∀ x∈l,x.a+x.n<=f):aJ l f t=[]:=by
 unfold aJ;rw[List.map_eq_nil_iff,List.filter_eq_nil_iff];intro x hx;have:=h x hx;simp only[bR,decide_eq_true_eq];omega
theorem nY (l:List E) (p n:Int) (hn:0<=n):aI l=true->fV l p n=joinL (aJ l 0 p++aJ l (p+n) 65536):=by
 induction l using gJ with
 |h0=>intro _;rfl
 | h1 l x ih=>
  intro h;rw[bQ]at h;have hp:=List.pairwise_append.1 h.2;have hv:aI l=true:=(bQ l).2 ⟨fun y hy=>h.1 y (List.mem_append_left _ hy),hp.1⟩;have e:fV (l++[x]) p n=aNl p n (fV l p n) x:=by simp[fV]
  rw[e,rM,rM,ih hv];unfold aNl tO;cases h1:bR x 0 p
  ·cases h2:bR x (p+n) 65536
   ·simp
   ·simp only[Bool.false_eq_true,if_false,if_true];rw[<-List.append_assoc,dP]
  ·have hr:aJ l (p+n) 65536=[]:=aMq l _ _ fun y hy=>by
    have:=hp.2.2 y hy x (by simp);simp only[bR,decide_eq_true_eq]at h1;omega
   rw[hr];cases h2:bR x (p+n) 65536
   ·simp[dP]
   ·simp only[if_true,List.append_nil,List.nil_append];rw[dP,dP]
theorem eG (p:Int) (x:E):hits p x=true↔x.a<=p/\p<x.a+x.n:=by
 simp only[hits,Bool.and_eq_true,decide_eq_true_eq]
theorem iD (y x:E):meets y x=true↔y.a+y.n=x.a/\y.s+y.n=x.s:=by
 simp only[meets,Bool.and_eq_true,decide_eq_true_eq]
def aR (l:List E) (p:Int):Option Int:=(l.find? (hits p)).map fun x=>x.s+p-x.a
theorem dJ (l r:List E) (p:Int):aR (l++r) p=(aR l p).or (aR r p):=by
 unfold aR;rw[List.find?_append];cases l.find? (hits p) <;> simp
theorem iK (x:E) (p:Int):aR [x] p=if hits p x then some (x.s+p-x.a)else none:=by
 unfold aR;cases h:hits p x <;> simp[h]
theorem aIt (y x:E) (p:Int) (hy:0<=y.n) (hx:0<=x.n) (hm:meets y x=true):aR [y.longer x.n] p=(aR [y] p).or (aR [x] p):=by
 simp only[meets,Bool.and_eq_true,decide_eq_true_eq]at hm;obtain⟨h1,h2⟩:=hm;rw[iK,iK,iK];have e1:hits p (y.longer x.n)=(hits p y||hits p x):=by
  rw[Bool.eq_iff_iff];rw[Bool.or_eq_true,eG,eG,eG];simp only[E.longer];omega
 have e2:y.s+p-y.a=x.s+p-x.a:=by omega
 rw[e1];cases hy':hits p y
 ·cases hx':hits p x
  ·simp
  ·simp[E.longer,e2]
 ·simp[E.longer]
theorem aOt (l:List E) (x:E) (p:Int) (hl:∀ y∈l,0<=y.n) (hx:0<=x.n):aR (fD l x) p=(aR l p).or (aR [x] p):=by
 by_cases h:l=[]
 ·subst h;simp[fD,aR]
 ·obtain⟨l',y,rfl⟩:=fC l h;cases hm:meets y x
  ·rw[eD _ _ _ hm,dJ]
  ·rw[dG _ _ _ hm,dJ,aIt y x p (hl y (by simp)) hx hm,dJ,Option.or_assoc]
theorem aAs (l:List E) (h:∀ x∈l,okB x=true):∀ x∈joinL l,0<=x.n:=fun x hx=>by
 have:=(aD x).1 (aGu l h x hx);omega
theorem oF (l:List E) (p:Int):(∀x∈l,okB x=true)->aR (joinL l) p=aR l p:=by
 induction l using gJ with
 |h0=>intro _;rfl
 | h1 l x ih=>
  intro h;have hl:∀ y∈l,okB y=true:=fun y hy=>h y (List.mem_append_left _ hy);have hx:=(aD x).1 (h x (by simp));rw[dP,aOt _ _ _ (aAs l hl) (by omega),ih hl,dJ]
theorem yR (l:List E) (h:aI l=true) (x:E) (hx:x∈l) (p:Int) (hp:hits p x=true):aR l p=some (x.s+p-x.a):=by
 rw[bQ]at h;obtain⟨hok,hpw⟩:=h
 induction l with
 |nil=>cases hx
 | cons y r ih=>
  have hpw':=List.pairwise_cons.1 hpw;rcases List.mem_cons.1 hx with rfl|hx
  ·show aR ([x]++r) p=_;rw[dJ,iK];simp[hp]
  ·show aR ([y]++r) p=_;rw[dJ,iK];have h1:=hpw'.1 x hx;have h2:=(aD y).1 (hok y (by simp));have hn:hits p y=false:=by
    simp only[hits,Bool.and_eq_true,decide_eq_true_eq]at hp
    cases hh:hits p y with
    |false=>rfl
    |true=>simp only[hits,Bool.and_eq_true,decide_eq_true_eq]at hh;omega
   simp[hn];exact ih hx (fun z hz=>hok z (by simp[hz])) hpw'.2
theorem aJp (l:List E) (k:Nat) (h:k<l.length) (y:E):l.set k y=l.take k++y::l.drop (k+1):=by
 rw[List.set_eq_take_append_cons_drop,if_pos h]
theorem aOq (l:List E) (k:Nat) (h:k<l.length):l=l.take k++l[k]::l.drop (k+1):=by
 rw[<-List.drop_eq_getElem_cons h,List.take_append_drop]
def E.fst (x:E) (n:Int):E:=⟨x.a,n,x.s⟩
def E.snd (x:E) (n:Int):E:=⟨x.a+n,x.n-n,x.s+n⟩
theorem aAb (R:List E) (x:E) (n:Int):fD (fD R (x.fst n)) (x.snd n)=fD R x:=by
 have hm:meets (x.fst n) (x.snd n)=true:=by simp[meets,E.fst,E.snd]
 have hl:(x.fst n).longer (x.snd n).n=x:=E.ext' rfl (by simp only[E.fst,E.snd,E.longer];omega) rfl;by_cases h:R=[]
 ·subst h;rw[nE,nE];have:=dG [] (x.fst n) (x.snd n) hm;rw[hl]at this;exact this
 ·obtain ⟨R',y,rfl⟩:=fC R h;have e:meets y (x.fst n)=meets y x:=rfl;cases hy:meets y x
  ·rw[eD R' y x hy,eD R' y _ (e.trans hy),dG _ _ _ hm,hl]
  ·rw [dG R' y x hy,dG R' y _ (e.trans hy)];simp only[meets,Bool.and_eq_true,decide_eq_true_eq]at hy;have hm2:meets (y.longer (x.fst n).n) (x.snd n)=true:=by
    rw[iD];simp only[E.longer,E.fst,E.snd];omega
   rw[dG _ _ _ hm2];congr 2;simp only[E.longer,E.fst,E.snd];congr 1;omega
def bM (R l:List E):List E:=l.foldl fD R
theorem aAt (A B:List E):joinL (A++B)=bM (joinL A) B:=by simp[joinL,bM]
theorem aPk (R:List E) (y b:E) (h:meets y b=true):fD (fD R y) b=fD R (y.longer b.n):=by
 rw[iD]at h;have h1:(y.longer b.n).fst y.n=y:=rfl;have h2:(y.longer b.n).snd y.n=b:=E.ext' (by simp only[E.snd,E.longer];omega) (by simp only[E.snd,E.longer];omega) (by simp only[E.snd,E.longer];omega);have:=aAb R (y.longer b.n) y.n;rw[h1,h2]at this;exact this
theorem aMn (R B:List E):bM R (joinL B)=bM R B:=by
 induction B using gJ with
 |h0=>rfl
 | h1 B b ih=>
  have e:bM R (B++[b])=fD (bM R B) b:=by simp[bM]
  rw[e,dP];by_cases h:joinL B=[]
  ·rw[h]at ih ⊢;rw[<-ih];rfl
  ·obtain⟨C,y,hc⟩:=fC _ h;rw[hc]at ih ⊢;have e2:bM R (C++[y])=fD (bM R C) y:=by simp[bM]
   rw[e2]at ih;cases hm:meets y b
   ·rw[eD _ _ _ hm,<-ih];simp[bM]
   ·rw[dG _ _ _ hm,<-ih,aPk _ _ _ hm];simp[bM]
theorem aGv (B:List E):joinL (joinL B)=joinL B:=aMn [] B
theorem aVk (l:List E) (lo hi:Int):(∀x∈l,0<=x.n)->(∀x∈l,lo<=x.a/\x.a+x.n<=hi)-> ∀x∈joinL l,lo<=x.a/\x.a+x.n<=hi:=by
 induction l using gJ with
 |h0=>intro _ _ x hx;simp[joinL]at hx
 | h1 l x ih=>
  intro hn h y hy;have ih':=ih (fun z hz=>hn z (List.mem_append_left _ hz)) (fun z hz=>h z (List.mem_append_left _ hz));rw[dP]at hy;by_cases h0:joinL l=[]
  ·rw[h0,nE]at hy;simp at hy;subst hy;exact h y (by simp)
  ·obtain ⟨C,z,hc⟩:=fC _ h0;rw[hc]at hy ih';cases hm:meets z x
   ·rw[eD _ _ _ hm]at hy;rcases List.mem_append.1 hy with hy|hy
    ·exact ih' y hy
    ·simp at hy;subst hy;exact h y (by simp)
   ·rw[dG _ _ _ hm]at hy;rcases List.mem_append.1 hy with hy|hy
    ·exact ih' y (List.mem_append_left _ hy)
    ·simp at hy;subst hy;have h1:=ih' z (by simp);have h2:=h x (by simp);rw[iD]at hm;simp only[E.longer];omega
theorem aUn (R:List E) (x:E) (h:aI (R++[x])=true):aI (fD R x)=true:=by
 by_cases h0:R=[]
 ·subst h0;exact h
 ·obtain ⟨C,y,rfl⟩:=fC _ h0;cases hm:meets y x
  ·rw[eD _ _ _ hm];exact h
  ·rw [dG _ _ _ hm];have hok:=aK h;have hy:=(aD y).1 (hok y (by simp));have hx:=(aD x).1 (hok x (by simp));rw[bQ]at h ⊢;obtain⟨h1,h2⟩:=h;rw[iD]at hm;refine⟨fun z hz=> ?_,?_⟩
   ·rcases List.mem_append.1 hz with hz|hz
    ·exact h1 z (by simp[hz])
    ·simp at hz;subst hz;rw[aD];simp only[E.longer];omega
   ·have p:=List.pairwise_append.1 h2;have q:=List.pairwise_append.1 p.1;refine List.pairwise_append.2 ⟨q.1,by simp,fun z hz w hw=> ?_⟩;simp at hw;subst hw;exact q.2.2 z hz y (by simp)
theorem aAr (A B:List E):aI (A++B)=true->aI (joinL A++B)=true:=by
 induction A using gJ generalizing B with
 |h0=>exact id
 | h1 A a ih=>
  intro h;rw[dP];have h1:=ih ([a]++B) (by simpa using h);have h2:aI ((joinL A++[a])++B)=true:=by simpa using h1
  by_cases h0:joinL A=[]
  ·rw[h0]at h2 ⊢;exact h2
  ·obtain ⟨C,y,hc⟩:=fC _ h0;rw[hc]at h2 ⊢;cases hm:meets y a
   ·rw[eD _ _ _ hm];exact h2
   ·rw [dG _ _ _ hm];have hv:aI (C++[y]++[a])=true:=by
     have:=vB _ (C++[y]++[a]).length h2;rw[List.take_left]at this;exact this
    have hpv:=aUn (C++[y]) a hv;rw[dG _ _ _ hm]at hpv;rw[bQ]at h2 hpv ⊢;have p:=List.pairwise_append.1 h2.2;refine⟨fun z hz=> ?_,List.pairwise_append.2 ⟨hpv.2,p.2.1,fun z hz w hw=> ?_⟩⟩
    ·rcases List.mem_append.1 hz with hz|hz
     ·exact hpv.1 z hz
     ·exact h2.1 z (List.mem_append_right _ hz)
    ·rcases List.mem_append.1 hz with hz|hz
     ·exact p.2.2 z (by simp[hz]) w hw
     ·simp at hz;subst hz;have:=p.2.2 a (by simp) w hw;rw[iD]at hm;simp only[E.longer];omega
theorem zA (l:List E) (h:aI l=true):aI (joinL l)=true:=by
 have:=aAr l [] (by simpa using h)
 simpa using this
theorem aIx (R l:List E) (hR:∀ y∈R,∀x∈l,y.a+y.n<x.a):bM R l=R++joinL l:=by
 induction l using gJ with
 |h0=>simp[bM,joinL]
 | h1 l x ih=>
  have e:bM R (l++[x])=fD (bM R l) x:=by simp[bM]
  rw[e,dP,ih fun y hy z hz=>hR y hy z (List.mem_append_left _ hz)];by_cases h0:joinL l=[]
  ·rw [h0,nE,List.append_nil];by_cases hr:R=[]
   ·subst hr;rfl
   ·obtain⟨C,y,rfl⟩:=fC R hr;refine eD _ _ _ ?_;have:=hR y (by simp) x (by simp)
    cases hm:meets y x with
    |false=>rfl
    |true=>rw[iD]at hm;omega
  ·obtain⟨C,y,hc⟩:=fC _ h0;rw[hc,<-List.append_assoc];cases hm:meets y x
   ·rw[eD _ _ _ hm,eD _ _ _ hm,<-List.append_assoc,<-List.append_assoc]
   ·rw[dG _ _ _ hm,dG _ _ _ hm,<-List.append_assoc]
def bK (l:List E) (x:E):List E:=joinL (aJ l 0 x.a++([x]++aJ l (x.a+x.n) 65536))
theorem aBq (l:List E) (x:E) (hx:okB x=true) (hv:aI l=true):aI (aJ l 0 x.a++([x]++aJ l (x.a+x.n) 65536))=true:=by
 have hx':=(aD x).1 hx;rw[bQ];have v1:=(bQ _).1 (gV l 0 x.a hv);have v2:=(bQ _).1 (gV l (x.a+x.n) 65536 hv);have r1:=iH l 0 x.a;have r2:=iH l (x.a+x.n) 65536;refine⟨fun y hy=> ?_,List.pairwise_append.2 ⟨v1.2,List.pairwise_append.2 ⟨by simp,v2.2,fun y hy z hz=> ?_⟩,fun y hy z hz=> ?_⟩⟩
 ·rcases List.mem_append.1 hy with hy|hy
  ·exact v1.1 y hy
  ·rcases List.mem_append.1 hy with hy|hy
   ·simp at hy;subst hy;exact hx
   ·exact v2.1 y hy
 ·simp at hy;subst hy;have:=r2 z hz;omega
 ·have a1:=r1 y hy;rcases List.mem_append.1 hz with hz|hz
  ·simp at hz;subst hz;omega
  ·have:=r2 z hz;omega
def aIy (l:List E) (f:E->Bool):Int:=match l.findIdx? f with|some i=>(i:Int)|none=> -1
theorem xR (l:List E) (f:E->Bool) (h:∀ x∈l,f x=false):aIy l f= -1:=by
 unfold aIy;rw[List.findIdx?_eq_none_iff.2 h]
theorem aEs (l:List E) (f:E->Bool) (k:Nat) (hk:k<l.length) (h:∀ x∈l.take k,f x=false) (hf:f l[k]=true):aIy l f=k:=by
 unfold aIy;have e:l.findIdx? f=(l.take k++l[k]::l.drop (k+1)).findIdx? f:=by rw[<-aOq l k hk]
 rw[e,List.findIdx?_append,List.findIdx?_eq_none_iff.2 h,List.findIdx?_cons,if_pos hf];simp only[Option.none_or,Option.map_some,List.length_take];omega
theorem uS (l:List E) (f:E->Bool) (k:Nat) (hk:k<l.length) (h:∀ x∈l.take k,f x=false) (hf:f l[k]=false):∀ x∈l.take (k+1),f x=false:=by
 intro x hx;rw[List.take_succ_eq_append_getElem hk]at hx;rcases List.mem_append.1 hx with hx|hx
 ·exact h x hx
 ·simp at hx;rw[hx];exact hf
def E.cell (x:E) (i:Nat):E:=⟨x.a+i,1,x.s+i⟩
def E.all (x:E):List E:=(List.range x.n.toNat).map x.cell
theorem aFz (R A B:List E):bM R (A++B)=bM (bM R A) B:=by simp[bM]
theorem aIw (R:List E) (x:E) (k:Nat):bM R ((List.range (k+1)).map x.cell)=fD R ⟨x.a,k+1,x.s⟩:=by
 induction k with
 |zero=>simp[bM,E.cell]
 | succ k ih=>
  rw[List.range_succ,List.map_append,aFz,ih];have h:=aAb R ⟨x.a,((k+1:Nat):Int)+1,x.s⟩ ((k:Int)+1);have e1:(⟨x.a,((k+1:Nat):Int)+1,x.s⟩:E).fst ((k:Int)+1)=⟨x.a,(k:Int)+1,x.s⟩:=rfl;have e2:(⟨x.a,((k+1:Nat):Int)+1,x.s⟩:E).snd ((k:Int)+1)=x.cell (k+1):=E.ext' (by simp[E.snd,E.cell]) (by simp only[E.snd,E.cell];omega) (by simp[E.snd,E.cell]);rw[e1,e2]at h;rw[<-h];simp[bM]
theorem aPo (R:List E) (x:E) (h:1<=x.n):bM R x.all=fD R x:=by
 obtain⟨k,hk⟩:∃ k:Nat,x.n=(k:Int)+1:=⟨(x.n-1).toNat,by omega⟩;have h1:=aIw R x k;have e1:x.n.toNat=k+1:=by omega
 have e2:(⟨x.a,(k:Int)+1,x.s⟩:E)=x:=E.ext' rfl hk.symm rfl;rw[e2]at h1;unfold E.all;rw[e1];exact h1
theorem aQw (l:List E):(∀x∈l,okB x=true)->joinL (l.flatMap E.all)=joinL l:=by
 induction l using gJ with
 |h0=>intro _;rfl
 | h1 l x ih=>
  intro h;have hx:=(aD x).1 (h x (by simp));rw[List.flatMap_append,aAt,ih (fun y hy=>h y (List.mem_append_left _ hy)),dP];have:List.flatMap E.all [x]=x.all:=by simp
  rw[this];exact aPo _ x (by omega)
theorem aXk (l:List E) (h:aI l=true) (e:E):e∈l.flatMap E.all↔e.n=1/\aR l e.a=some e.s:=by
 constructor
 ·intro he;obtain⟨x,hx,he⟩:=List.mem_flatMap.1 he;obtain⟨i,hi,rfl⟩:=List.mem_map.1 he;have hi':=List.mem_range.1 hi;refine⟨rfl,?_⟩;rw[yR l h x hx _ (by rw[eG];simp only[E.cell];omega)];simp only[E.cell,Option.some.injEq];omega
 ·rintro⟨h1,h2⟩;unfold aR at h2;obtain⟨x,hx,hs⟩:=Option.map_eq_some_iff.1 h2;have hm:=List.mem_of_find?_eq_some hx;have hh:=(eG _ _).1 (List.find?_some hx);refine List.mem_flatMap.2 ⟨x,hm,List.mem_map.2 ⟨(e.a-x.a).toNat,List.mem_range.2 (by omega),?_⟩⟩;exact E.ext' (by simp only[E.cell];omega) (by simp only[E.cell];omega) (by simp only[E.cell];omega)
theorem aFo (l:List E) (h:aI l=true):(l.flatMap E.all).Pairwise (fun x y=>x.a<y.a):=by
 rw[bQ]at h;rw[List.pairwise_flatMap];refine⟨fun x hx=> ?_,h.2.imp_of_mem ?_⟩
 ·unfold E.all;rw[List.pairwise_map];refine(List.pairwise_lt_range).imp ?_;intro i j hij;simp only[E.cell];omega
 ·intro x y hx hy hxy a ha b hb;obtain⟨i,hi,rfl⟩:=List.mem_map.1 ha;obtain⟨j,hj,rfl⟩:=List.mem_map.1 hb;have:=List.mem_range.1 hi;simp only[E.cell];omega
theorem aTr (A:List E):∀ B:List E,A.Pairwise (fun x y=>x.a<y.a)->B.Pairwise (fun x y=>x.a<y.a)->(∀e,e∈A↔e∈B)->A=B:=by
 induction A with
 | nil=>
  intro B _ _ h
  cases B with
  |nil=>rfl
  |cons y B=>exact absurd ((h y).2 (by simp)) (by simp)
 | cons x A ih=>
  intro B hA hB h
  cases B with
  |nil=>exact absurd ((h x).1 (by simp)) (by simp)
  | cons y B=>
   obtain ⟨a1,a2⟩:=List.pairwise_cons.1 hA;obtain⟨b1,b2⟩:=List.pairwise_cons.1 hB;have hxy:x=y:=by
    rcases List.mem_cons.1 ((h x).1 (by simp))with e|e
    ·exact e
    ·rcases List.mem_cons.1 ((h y).2 (by simp))with e2|e2
     ·exact e2.symm
     ·have:=a1 y e2;have:=b1 x e;omega
   subst hxy;congr 1;refine ih B a2 b2 fun e=>⟨fun he=> ?_,fun he=> ?_⟩
   ·rcases List.mem_cons.1 ((h e).1 (by simp[he]))with e2|e2
    ·subst e2;have:=a1 e he;omega
    ·exact e2
   ·rcases List.mem_cons.1 ((h e).2 (by simp[he]))with e2|e2
    ·subst e2;have:=b1 e he;omega
    ·exact e2
theorem wC (A B:List E) (hA:aI A=true) (hB:aI B=true) (h:∀ p,aR A p=aR B p):joinL A=joinL B:=by
 rw[<-aQw A (aK hA),<-aQw B (aK hB)];congr 1;refine aTr _ _ (aFo A hA) (aFo B hB) fun e=> ?_;rw[aXk A hA,aXk B hB,h]
theorem lN (l:List E) (p:Int) (h:∀ x∈l,hits p x=false):aR l p=none:=by
 unfold aR;rw[List.find?_eq_none.2 fun x hx=>by simp[h x hx]];rfl
theorem jH (l:List E) (f t p:Int):aR (aJ l f t) p=if f<=p/\p<t then aR l p else none:=by
 split
 ·rename_i hp
  induction l with
  |nil=>rfl
  | cons x r ih=>
   have e:aR (x::r) p=(aR [x] p).or (aR r p):=dJ [x] r p;have e2:aJ (x::r) f t=aJ [x] f t++aJ r f t:=by
    unfold aJ;rw[<-List.map_append,<-List.filter_append];rfl
   rw[e,e2,dJ,ih];congr 1;unfold aJ;cases hb:bR x f t
   ·simp only[List.filter_cons,hb,List.filter_nil,List.map_nil,if_false,Bool.false_eq_true];rw[iK];rw[if_neg]
    ·rfl
    ·rw[eG];simp only[bR,decide_eq_false_iff_not]at hb;omega
   ·simp only[List.filter_cons,hb,List.filter_nil,List.map_nil,if_true,List.map_cons];rw[iK,iK];have e3:hits p (bN x f t)=hits p x:=by
     rw[Bool.eq_iff_iff,eG,eG];simp only[bN];omega
    rw[e3];congr 1;simp only[bN,Option.some.injEq];omega
 ·rename_i hp
  refine lN _ _ fun x hx=> ?_;have:=iH l f t x hx
  cases hh:hits p x with
  |false=>rfl
  |true=>rw[eG]at hh;omega
theorem pR (l:List E) (h:aI l=true) (p:Int) (hp:p<0∨65536<=p):aR l p=none:=
 lN _ _ fun x hx=>by
  have:=(aD x).1 (aK h x hx)
  cases hh:hits p x with
  |false=>rfl
  |true=>rw[eG]at hh;omega
theorem aFp (l:List E) (p n q:Int) (hp:dW p n 65536=true) (hv:aI l=true):aR (fV l p n) q=if p<=q/\q<p+n then none else aR l q:=by
 have hp':0<=p/\0<=n/\p<=65536/\n<=65536-p:=by simpa [dW]using hp
 rw[nY l p n (by omega) hv,oF _ _ (aK (jI l 0 p (p+n) 65536 hv (by omega))),dJ,jH,jH];by_cases h1:q<0∨65536<=q
 ·rw[pR l hv q h1];simp
 ·by_cases h2:q<p
  ·rw[if_pos (by omega),if_neg (by omega),if_neg (by omega)];simp
  ·by_cases h3:q<p+n
   ·rw[if_neg (by omega),if_neg (by omega),if_pos (by omega)];rfl
   ·rw[if_neg (by omega),if_pos (by omega),if_neg (by omega)];simp
theorem aZf (l:List E) (p n q:Int) (hv:aI l=true):aR (inL l p n) q=if p<=q/\q<p+n then aR l q else none:=by
 rw[wE,oF _ _ (aK (gV l p (p+n) hv)),jH]
theorem tK (l:List E) (x:E) (q:Int) (hx:okB x=true) (hv:aI l=true):aR (bK l x) q=if x.a<=q/\q<x.a+x.n then some (x.s+q-x.a)else aR l q:=by
 have hx':=(aD x).1 hx;unfold bK;rw[oF _ _ (aK (aBq l x hx hv)),dJ,dJ,jH,jH,iK];by_cases h1:q<0∨65536<=q
 ·have hh:hits q x=false:=by
   cases hh:hits q x with
   |false=>rfl
   |true=>rw[eG]at hh;omega
  rw[pR l hv q h1,if_neg (show ¬(x.a<=q/\q<x.a+x.n) by omega),hh];simp
 ·by_cases h2:q<x.a
  ·have hh:hits q x=false:=by
    cases hh:hits q x with
    |false=>rfl
    |true=>rw[eG]at hh;omega
   rw[if_pos (by omega),hh,if_neg (show ¬(x.a+x.n<=q/\q<65536) by omega),if_neg (show ¬(x.a<=q/\q<x.a+x.n) by omega)];simp
  ·by_cases h3:q<x.a+x.n
   ·have hh:hits q x=true:=by rw[eG];omega
    rw[if_neg (by omega),hh,if_pos (show x.a<=q/\q<x.a+x.n by omega)];simp
   ·have hh:hits q x=false:=by
     cases hh:hits q x with
     |false=>rfl
     |true=>rw[eG]at hh;omega
    rw[if_neg (show ¬(0<=q/\q<x.a) by omega),hh,if_pos (show x.a+x.n<=q/\q<65536 by omega),if_neg (show ¬(x.a<=q/\q<x.a+x.n) by omega)];simp
theorem aFy (l:List E) (x:E) (hx:okB x=true) (hv:aI l=true):aI (bK l x)=true:=zA _ (aBq l x hx hv)
theorem aWf (l:List E) (p n:Int) (hn:0<=n) (hv:aI l=true):aI (fV l p n)=true:=by
 rw[nY l p n hn hv];exact zA _ (jI l 0 p (p+n) 65536 hv (by omega))
theorem xQ (l:List E) (p n:Int) (hv:aI l=true):aI (inL l p n)=true:=by
 rw[wE];exact zA _ (gV l p (p+n) hv)
theorem aEa (l:List E):∀ e,0<=e->e<=65536->bG e l=true->(l.length:Int)+e<=65536:=by
 induction l with
 |nil=>intro e _ h _;simpa using h
 | cons x r ih=>
  intro e h0 _ h;simp only[bG,Bool.and_eq_true,decide_eq_true_eq]at h;have hx:=(aD x).1 h.1;have:=ih (x.a+x.n) (by omega) (by omega) h.2.2;simp only[List.length_cons];omega
theorem oD {l:List E} (h:aI l=true):l.length<=65536:=by
 have:=aEa l 0 (by omega) (by omega) h;omega
def Has (l:List E) (s:Int):Prop:= ∃x∈l,okB x=true/\x.s<=s/\s<x.s+x.n
def Canon (R:List E):Prop:=(∀x∈R,x.a=0/\okB x=true)/\R.Pairwise (fun x y=>x.s+x.n<y.s)
def E.plain (x:E):E:=⟨x.s,x.n,x.s⟩
theorem lI (A B:List E) (s:Int):Has (A++B) s↔Has A s∨Has B s:=by
 unfold Has
 constructor
 ·rintro⟨x,hx,h⟩;rcases List.mem_append.1 hx with hx|hx
  ·exact .inl ⟨x,hx,h⟩
  ·exact .inr ⟨x,hx,h⟩
 ·rintro(⟨x,hx,h⟩|⟨x,hx,h⟩)
  ·exact⟨x,List.mem_append_left _ hx,h⟩
  ·exact⟨x,List.mem_append_right _ hx,h⟩
theorem aAu (x:E) (s:Int):Has [x] s↔okB x=true/\x.s<=s/\s<x.s+x.n:=by
 unfold Has;simp
theorem wG (x:E) (s:Int) (h:okB x=true):Has [x] s↔x.s<=s/\s<x.s+x.n:=by
 rw[aAu];exact⟨fun h=>h.2,fun g=>⟨h,g⟩⟩
theorem aNe (s:Int):¬ Has [] s:=by unfold Has;simp
theorem bFh (l:List E):l.Pairwise (fun x y=>x.a+x.n<y.a)->joinL l=l:=by
 induction l with
 |nil=>intro _;rfl
 | cons x r ih=>
  intro h;obtain⟨h1,h2⟩:=List.pairwise_cons.1 h;have e:joinL (x::r)=bM [x] r:=rfl;rw[e,aIx [x] r (fun y hy z hz=>by simp at hy;subst hy;exact h1 z hz),ih h2];rfl
theorem rJ {R:List E} (h:Canon R):aI (R.map E.plain)=true:=by
 rw[bQ];refine⟨fun y hy=> ?_,?_⟩
 ·obtain⟨x,hx,rfl⟩:=List.mem_map.1 hy;have:=(aD x).1 (h.1 x hx).2;rw[aD];simp only[E.plain];omega
 ·rw[List.pairwise_map];refine h.2.imp ?_;intro x y hxy;simp only[E.plain];omega
theorem tQ {R:List E} (h:Canon R) (p:Int):(Has R p->aR (R.map E.plain) p=some p)/\(¬Has R p->aR (R.map E.plain) p=none):=by
 refine⟨?_,fun hn=> ?_⟩
 ·rintro⟨x,hx,h1,h2⟩;rw[yR _ (rJ h) x.plain (List.mem_map.2 ⟨x,hx,rfl⟩) p ((eG _ _).2 (by simp only[E.plain];omega))];simp only[E.plain,Option.some.injEq];omega
 ·refine lN _ _ fun y hy=> ?_;obtain⟨x,hx,rfl⟩:=List.mem_map.1 hy
  cases hh:hits p x.plain with
  |false=>rfl
  | true=>
   rw[eG]at hh;simp only[E.plain]at hh;exact absurd ⟨x,hx,(h.1 x hx).2,hh.1,hh.2⟩ hn
theorem aBb (A B:List E) (hA:Canon A) (hB:Canon B) (h:∀ s,Has A s↔Has B s):A=B:=by
 have e:∀ R:List E,Canon R->joinL (R.map E.plain)=R.map E.plain:=fun R hR=>bFh _ (by
  rw[List.pairwise_map]
  exact hR.2.imp fun hxy=>by simp only[E.plain];exact hxy)
 have hm:A.map E.plain=B.map E.plain:=by
  rw[<-e A hA,<-e B hB];refine wC _ _ (rJ hA) (rJ hB) fun p=> ?_;by_cases hp:Has A p
  ·rw[(tQ hA p).1 hp,(tQ hB p).1 ((h p).1 hp)]
  ·rw[(tQ hA p).2 hp,(tQ hB p).2 (fun c=>hp ((h p).2 c))]
 have back:∀ R:List E,Canon R->(R.map E.plain).map (fun x=>(⟨0,x.n,x.s⟩:E))=R:=fun R hR=>by
  rw[List.map_map]
  conv=>rhs;rw[<-List.map_id R]
  refine List.map_congr_left fun x hx=> ?_;exact E.ext' (hR.1 x hx).1.symm rfl rfl
 rw[<-back A hA,<-back B hB,hm]
def E.upto (y:E) (t:Int):E:=⟨y.a,max y.n (t-y.s),y.s⟩
def vL (R:List E) (x:E):List E:=
 match R.getLast? with
 |some y=>if decide (x.s<=y.s+y.n)then R.dropLast++[y.upto (x.s+x.n)]else R++[⟨0,x.n,x.s⟩]
 |none=>[⟨0,x.n,x.s⟩]
def kS (l:List E):List E:=l.foldl vL []
theorem bAg (x:E):vL [] x=[⟨0,x.n,x.s⟩]:=rfl
theorem aJx (l:List E) (y x:E) (h:x.s<=y.s+y.n):vL (l++[y]) x=l++[y.upto (x.s+x.n)]:=by
 simp[vL,h]
theorem aPl (l:List E) (y x:E) (h:¬ x.s<=y.s+y.n):vL (l++[y]) x=l++[y]++[⟨0,x.n,x.s⟩]:=by
 simp[vL,h]
theorem aDl (l:List E) (x:E):kS (l++[x])=vL (kS l) x:=by simp[kS]
theorem aQi (l:List E) (k:Nat) (h:k<l.length):kS (l.take (k+1))=vL (kS (l.take k)) l[k]:=by
 rw[List.take_succ_eq_append_getElem h,aDl]
theorem aPm (R:List E) (x:E) (hR:Canon R) (hx:okB x=true) (hs:∀ y∈R,y.s<=x.s):
  Canon (vL R x)/\(∀s,Has (vL R x) s↔Has R s∨(x.s<=s/\s<x.s+x.n))/\ ∀y∈vL R x,y.s<=x.s:=by
 have hx':=(aD x).1 hx;have hz:okB (⟨0,x.n,x.s⟩:E)=true:=by rw[aD];simp only;omega
 have hone:∀ s,Has [(⟨0,x.n,x.s⟩:E)] s↔(x.s<=s/\s<x.s+x.n):=fun s=>by
  rw[aAu];exact⟨fun h=>h.2,fun h=>⟨hz,h⟩⟩
 by_cases h:R=[]
 ·subst h;rw[bAg];refine⟨⟨fun y hy=> ?_,by simp⟩,fun s=> ?_,fun y hy=> ?_⟩
  ·simp at hy;subst hy;exact⟨rfl,hz⟩
  ·rw[hone];exact⟨.inr,fun h=>h.resolve_left (aNe s)⟩
  ·simp at hy;subst hy;exact Int.le_refl _
 ·obtain ⟨C,y,rfl⟩:=fC R h;obtain⟨c1,c2⟩:=hR;obtain⟨p1,p2,p3⟩:=List.pairwise_append.1 c2;have hy:=c1 y (by simp);have hy':=(aD y).1 hy.2;have hys:=hs y (by simp);by_cases hm:x.s<=y.s+y.n
  ·rw [aJx _ _ _ hm];have hu:okB (y.upto (x.s+x.n))=true:=by
    rw[aD];have:=hy.1;simp only[E.upto];omega
   refine⟨⟨fun z hzz=> ?_,?_⟩,fun s=> ?_,fun z hzz=> ?_⟩
   ·rcases List.mem_append.1 hzz with hzz|hzz
    ·exact c1 z (by simp[hzz])
    ·simp at hzz;subst hzz;exact⟨hy.1,hu⟩
   ·refine List.pairwise_append.2 ⟨p1,by simp,fun z hzz v hv=> ?_⟩;simp at hv;subst hv;exact p3 z hzz y (by simp)
   ·rw [lI,lI,wG _ _ hu,wG _ _ hy.2];show(Has C s∨y.s<=s/\s<y.s+max y.n (x.s+x.n-y.s))↔_
    constructor
    ·rintro (h|h)
     ·exact .inl (.inl h)
     ·by_cases h2:s<y.s+y.n
      ·exact .inl (.inr ⟨h.1,h2⟩)
      ·exact .inr (by omega)
    ·rintro((h|h)|h)
     ·exact .inl h
     ·exact .inr (by omega)
     ·exact .inr (by omega)
   ·rcases List.mem_append.1 hzz with hzz|hzz
    ·exact hs z (by simp[hzz])
    ·simp at hzz;subst hzz;exact hys
  ·rw [aPl _ _ _ hm];refine⟨⟨fun z hzz=> ?_,?_⟩,fun s=> ?_,fun z hzz=> ?_⟩
   ·rcases List.mem_append.1 hzz with hzz|hzz
    ·exact c1 z hzz
    ·simp at hzz;subst hzz;exact⟨rfl,hz⟩
   ·refine List.pairwise_append.2 ⟨c2,by simp,fun z hzz v hv=> ?_⟩;simp at hv;subst hv;rcases List.mem_append.1 hzz with hzz|hzz
    ·have:=p3 z hzz y (by simp);simp only;omega
    ·simp at hzz;subst hzz;simp only;omega
   ·rw[lI,hone]
   ·rcases List.mem_append.1 hzz with hzz|hzz
    ·exact hs z hzz
    ·simp at hzz;subst hzz;exact Int.le_refl _
theorem tY (l:List E):(∀x∈l,okB x=true)->l.Pairwise (fun x y=>x.s<=y.s)->Canon (kS l)/\(∀s,Has (kS l) s↔Has l s)/\ ∀t,(∀x∈l,x.s<=t)-> ∀y∈kS l,y.s<=t:=by
 induction l using gJ with
 |h0=>intro _ _;exact⟨⟨by simp[kS],by simp[kS]⟩,fun s=>Iff.rfl,by simp[kS]⟩
 | h1 l x ih=>
  intro h1 h2;obtain⟨p1,_,p3⟩:=List.pairwise_append.1 h2;obtain⟨i1,i2,i3⟩:=ih (fun y hy=>h1 y (by simp[hy])) p1;obtain⟨f1,f2,f3⟩:=aPm (kS l) x i1 (h1 x (by simp)) (i3 x.s fun y hy=>p3 y hy x (by simp));rw[aDl];refine⟨f1,fun s=> ?_,fun t ht y hy=> ?_⟩
  ·rw[f2,i2,lI,aAu];simp only[h1 x (by simp),true_and]
  ·exact Int.le_trans (f3 y hy) (ht x (by simp))
def bT (l:List E):List E:=kS ((l.filter okB).mergeSort fun x y=>decide (x.s<=y.s))
theorem aHb (l:List E) (s:Int):Has (l.filter okB) s↔Has l s:=by
 unfold Has
 constructor
 ·rintro⟨x,hx,h⟩;exact⟨x,(List.mem_filter.1 hx).1,h⟩
 ·rintro⟨x,hx,h⟩;exact⟨x,List.mem_filter.2 ⟨hx,h.1⟩,h⟩
theorem aNf {A B:List E} (h:∀ x,x∈A↔x∈B) (s:Int):Has A s↔Has B s:=by
 unfold Has
 constructor
 ·rintro⟨x,hx,h2⟩;exact⟨x,(h x).1 hx,h2⟩
 ·rintro⟨x,hx,h2⟩;exact⟨x,(h x).2 hx,h2⟩
theorem dV (l:List E):Canon (bT l)/\ ∀s,Has (bT l) s↔Has l s:=by
 have hp:=List.mergeSort_perm (l.filter okB) (fun x y=>decide (x.s<=y.s));have hs:((l.filter okB).mergeSort fun x y=>decide (x.s<=y.s)).Pairwise (fun x y=>decide (x.s<=y.s)=true):=
  List.pairwise_mergeSort (fun x y z h1 h2=>by simp only[decide_eq_true_eq]at *;omega) (fun x y=>by simp only[Bool.or_eq_true,decide_eq_true_eq];omega) _
 obtain⟨f1,f2,_⟩:=tY _ (fun x hx=>(List.mem_filter.1 (hp.mem_iff.1 hx)).2) (hs.imp fun h=>of_decide_eq_true h);exact⟨f1,fun s=>(f2 s).trans ((aNf (fun x=>hp.mem_iff) s).trans (aHb l s))⟩
theorem zW (l R:List E) (h1:Canon R) (h2:∀ s,Has R s↔Has l s):R=bT l:=by
 obtain⟨f1,f2⟩:=dV l;exact aBb _ _ h1 f1 fun s=>(h2 s).trans (f2 s).symm
theorem aOv (l d:List E) (h1:∀ x,x∈d↔x∈l.filter okB) (h2:d.Pairwise (fun x y=>x.s<=y.s)):kS d=bT l:=by
 obtain⟨f1,f2,_⟩:=tY d (fun x hx=>(List.mem_filter.1 ((h1 x).1 hx)).2) h2;exact zW _ _ f1 fun s=>(f2 s).trans ((aNf h1 s).trans (aHb l s))
theorem bDk {A B:List E} (h:∀ x,x∈A↔x∈B):bT A=bT B:=by
 obtain⟨f1,f2⟩:=dV A;exact zW _ _ f1 fun s=>(f2 s).trans (aNf h s)
theorem bE {R:List E} (h:Canon R):R.length<=65536:=by
 have:=oD (rJ h)
 simpa using this
structure aCv (l R:List E) (e:Int):Prop where
 canon:Canon R
 e0:0<=e
 e1:e<=65536
 ends:∀ y∈R,y.s+y.n<=e
 has:∀ s,Has R s↔Has l s/\s<e
def rE (l:List E) (e next:Int) (found:Bool):Prop:=
 (found=false/\ ∀x∈l,okB x=true->x.s+x.n<=e)∨
 (found=true/\(∃x∈l,okB x=true/\e<x.s+x.n/\next=max x.s e)/\ ∀x∈l,okB x=true->e<x.s+x.n->next<=max x.s e)
def kY (l:List E) (next t:Int):Prop:=
 next<=t/\(t=next∨ ∃x∈l,okB x=true/\x.s<=next/\t=x.s+x.n)/\ ∀x∈l,okB x=true->x.s<=next->x.s+x.n<=t
def grow (R:List E) (next t:Int):List E:=
 match R.getLast? with
 |some y=>if decide (y.s+y.n=next)then R.dropLast++[y.longer (t-next)]else R++[⟨0,t-next,next⟩]
 |none=>[⟨0,t-next,next⟩]
theorem bFu (next t:Int):grow [] next t=[⟨0,t-next,next⟩]:=rfl
theorem aRd (l:List E) (y:E) (next t:Int) (h:y.s+y.n=next):grow (l++[y]) next t=l++[y.longer (t-next)]:=by simp[grow,h]
theorem aXo (l:List E) (y:E) (next t:Int) (h:¬ y.s+y.n=next):grow (l++[y]) next t=l++[y]++[⟨0,t-next,next⟩]:=by simp[grow,h]
theorem bCg (l:List E):aCv l [] 0:=by
 refine⟨⟨by simp,by simp⟩,by omega,by omega,by simp,fun s=>⟨fun h=>absurd h (aNe s),fun⟨⟨x,hx,h1,h2⟩,h3⟩=> ?_⟩⟩;have:=(aD x).1 h1;omega
theorem bCh {l R:List E} {e next:Int} (h:aCv l R e) (hf:rE l e next false):R=bT l:=by
 refine zW l R h.canon fun s=> ?_;rw[h.has];refine⟨fun h=>h.1,fun hs=>⟨hs,?_⟩⟩;obtain⟨x,hx,h1,h2⟩:=hs;rcases hf with ⟨_,hf⟩|⟨hf,_⟩
 ·have:=hf x hx h1;omega
 ·cases hf
theorem aMz {l R:List E} {e next:Int} (h:aCv l R e) (hf:rE l e next true):e<=next/\next<65536:=by
 rcases hf with ⟨hf,_⟩|⟨_,⟨x,hx,h1,h2,h3⟩,_⟩
 ·cases hf
 ·have:=(aD x).1 h1;omega
theorem aWx {l R:List E} {e next t:Int} (h:aCv l R e) (hf:rE l e next true) (hg:kY l next t):aCv l (grow R next t) t/\next<t/\t<=65536:=by
 rcases hf with ⟨hf,_⟩|⟨_,⟨x,hx,x1,x2,x3⟩,hmin⟩
 ·cases hf
 ·obtain ⟨g1,g2,g3⟩:=hg;have hx':=(aD x).1 x1;have hxt:=g3 x hx x1 (by omega);have hnt:next<t:=by omega
  have ht:t<=65536:=by
   rcases g2 with rfl|⟨z,hz,z1,z2,z3⟩
   ·omega
   ·have:=(aD z).1 z1;omega
  have e0:=h.e0;have en:e<=next:=by omega
  have hnew:∀ s,(next<=s/\s<t)->Has l s:=fun s hs=>by
   rcases g2 with rfl|⟨z,hz,z1,z2,z3⟩
   ·omega
   ·exact⟨z,hz,z1,by omega,by omega⟩
  have hgap:∀ s,e<=s->s<next-> ¬Has l s:=fun s h1 h2 ⟨z,hz,z1,z2,z3⟩=>by
   have:=hmin z hz z1 (by omega);omega
  have hok:okB (⟨0,t-next,next⟩:E)=true:=by rw[aD];simp only;omega
  have key:∀ s,(Has R s∨(next<=s/\s<t))↔(Has l s/\s<t):=fun s=>by
   rw[h.has]
   constructor
   ·rintro(⟨h1,h2⟩|h1)
    ·exact⟨h1,by omega⟩
    ·exact⟨hnew s h1,h1.2⟩
   ·rintro ⟨h1,h2⟩;by_cases h3:s<e
    ·exact .inl ⟨h1,h3⟩
    ·by_cases h4:s<next
     ·exact absurd h1 (hgap s (by omega) h4)
     ·exact .inr ⟨by omega,h2⟩
  refine⟨?_,hnt,ht⟩;by_cases hR:R=[]
  ·subst hR;rw[bFu];refine⟨⟨fun y hy=> ?_,by simp⟩,by omega,ht,fun y hy=> ?_,fun s=> ?_⟩
   ·simp at hy;subst hy;exact⟨rfl,hok⟩
   ·simp at hy;subst hy;simp only;omega
   ·rw [<-key s,aAu];simp only[hok,true_and]
    constructor
    ·intro hh;exact .inr (by omega)
    ·rintro(hh|hh)
     ·exact absurd hh (aNe s)
     ·omega
  ·obtain ⟨C,y,rfl⟩:=fC R hR;obtain⟨c1,c2⟩:=h.canon;obtain⟨p1,p2,p3⟩:=List.pairwise_append.1 c2;have hy:=c1 y (by simp);have hy':=(aD y).1 hy.2;have hye:=h.ends y (by simp);by_cases hm:y.s+y.n=next
   ·rw [aRd _ _ _ _ hm];have hu:okB (y.longer (t-next))=true:=by
     rw[aD];have:=hy.1;simp only[E.longer];omega
    refine⟨⟨fun z hz=> ?_,?_⟩,by omega,ht,fun z hz=> ?_,fun s=> ?_⟩
    ·rcases List.mem_append.1 hz with hz|hz
     ·exact c1 z (by simp[hz])
     ·simp at hz;subst hz;exact⟨hy.1,hu⟩
    ·refine List.pairwise_append.2 ⟨p1,by simp,fun z hz v hv=> ?_⟩;simp at hv;subst hv;exact p3 z hz y (by simp)
    ·rcases List.mem_append.1 hz with hz|hz
     ·have:=h.ends z (by simp[hz]);omega
     ·simp at hz;subst hz;simp only[E.longer];omega
    ·rw [<-key s,lI,lI,wG _ _ hu,wG _ _ hy.2];show(Has C s∨y.s<=s/\s<y.s+(y.n+(t-next)))↔_
     constructor
     ·rintro (h1|h1)
      ·exact .inl (.inl h1)
      ·by_cases h2:s<next
       ·exact .inl (.inr (by omega))
       ·exact .inr (by omega)
     ·rintro((h1|h1)|h1)
      ·exact .inl h1
      ·exact .inr (by omega)
      ·exact .inr (by omega)
   ·rw [aXo _ _ _ _ hm];refine⟨⟨fun z hz=> ?_,?_⟩,by omega,ht,fun z hz=> ?_,fun s=> ?_⟩
    ·rcases List.mem_append.1 hz with hz|hz
     ·exact c1 z hz
     ·simp at hz;subst hz;exact⟨rfl,hok⟩
    ·refine List.pairwise_append.2 ⟨c2,by simp,fun z hz v hv=> ?_⟩;simp at hv;subst hv;have:=h.ends z hz;rcases List.mem_append.1 hz with hz|hz
     ·have:=p3 z hz y (by simp);simp only;omega
     ·simp at hz;subst hz;simp only;omega
    ·rcases List.mem_append.1 hz with hz|hz
     ·have:=h.ends z hz;omega
     ·simp at hz;subst hz;simp only;omega
    ·rw [<-key s,lI,aAu];simp only[hok,true_and]
     constructor
     ·rintro(h1|h1)
      ·exact .inl h1
      ·exact .inr (by omega)
     ·rintro(h1|h1)
      ·exact .inl h1
      ·exact .inr (by omega)
theorem bBb (e:Int):rE [] e 0 false:= .inl ⟨rfl,by simp⟩
theorem aVj {l:List E} {k:Nat} {e next:Int} {found:Bool} (hk:k<l.length) (h:rE (l.take k) e next found) (hs:okB l[k]=false∨l[k].s+l[k].n<=e):rE (l.take (k+1)) e next found:=by
 rw[List.take_succ_eq_append_getElem hk];generalize l[k]=x at *;rcases h with ⟨rfl,h⟩|⟨rfl,⟨y,hy,h1⟩,h2⟩
 ·refine .inl ⟨rfl,fun z hz hzo=> ?_⟩;rcases List.mem_append.1 hz with hz|hz
  ·exact h z hz hzo
  ·simp at hz;subst hz;rcases hs with hs|hs
   ·rw[hzo]at hs;cases hs
   ·exact hs
 ·refine .inr ⟨rfl,⟨y,List.mem_append_left _ hy,h1⟩,fun z hz hzo hze=> ?_⟩;rcases List.mem_append.1 hz with hz|hz
  ·exact h2 z hz hzo hze
  ·simp at hz;subst hz;rcases hs with hs|hs
   ·rw[hzo]at hs;cases hs
   ·omega
theorem aVh {l:List E} {k:Nat} {e next:Int} {found:Bool} (hk:k<l.length) (h:rE (l.take k) e next found) (h1:okB l[k]=true) (h2:e<l[k].s+l[k].n) (h3:found=false∨max l[k].s e<next):rE (l.take (k+1)) e (max l[k].s e) true:=by
 rw[List.take_succ_eq_append_getElem hk];generalize l[k]=x at *;refine .inr ⟨rfl,⟨x,by simp,h1,h2,rfl⟩,fun z hz hzo hze=> ?_⟩;rcases List.mem_append.1 hz with hz|hz
 ·rcases h with ⟨rfl,h⟩|⟨rfl,_,h⟩
  ·have:=h z hz hzo;omega
  ·have:=h z hz hzo hze;rcases h3 with h3|h3
   ·cases h3
   ·omega
 ·simp at hz;subst hz;exact Int.le_refl _
theorem aVi {l:List E} {k:Nat} {e next:Int} (hk:k<l.length) (h:rE (l.take k) e next true) (h3:next<=max l[k].s e):rE (l.take (k+1)) e next true:=by
 rw[List.take_succ_eq_append_getElem hk];generalize l[k]=x at *;rcases h with ⟨h,_⟩|⟨_,⟨y,hy,h1⟩,h2⟩
 ·cases h
 ·refine .inr ⟨rfl,⟨y,List.mem_append_left _ hy,h1⟩,fun z hz hzo hze=> ?_⟩;rcases List.mem_append.1 hz with hz|hz
  ·exact h2 z hz hzo hze
  ·simp at hz;subst hz;exact h3
theorem aNg (next:Int):kY [] next next:=⟨Int.le_refl _,.inl rfl,by simp⟩
theorem aJa {l:List E} {k:Nat} {next t:Int} (hk:k<l.length) (h:kY (l.take k) next t) (hs:okB l[k]=false∨next<l[k].s∨l[k].s+l[k].n<=t):kY (l.take (k+1)) next t:=by
 rw[List.take_succ_eq_append_getElem hk];generalize l[k]=x at *;obtain⟨h1,h2,h3⟩:=h;refine⟨h1,h2.imp id fun⟨y,hy,r⟩=>⟨y,List.mem_append_left _ hy,r⟩,fun z hz hzo hzn=> ?_⟩;rcases List.mem_append.1 hz with hz|hz
 ·exact h3 z hz hzo hzn
 ·simp at hz;subst hz;rcases hs with hs|hs|hs
  ·rw[hzo]at hs;cases hs
  ·omega
  ·exact hs
theorem aIz {l:List E} {k:Nat} {next t:Int} (hk:k<l.length) (h:kY (l.take k) next t) (h1:okB l[k]=true) (h2:l[k].s<=next) (h3:t<l[k].s+l[k].n):kY (l.take (k+1)) next (l[k].s+l[k].n):=by
 rw[List.take_succ_eq_append_getElem hk];generalize l[k]=x at *;obtain⟨g1,g2,g3⟩:=h;refine⟨by omega,.inr ⟨x,by simp,h1,h2,rfl⟩,fun z hz hzo hzn=> ?_⟩;rcases List.mem_append.1 hz with hz|hz
 ·have:=g3 z hz hzo hzn;omega
 ·simp at hz;subst hz;exact Int.le_refl _
def aS (N:Nat) (l:List E):Bool:=l.all fun x=>decide (1<=x.n/\0<=x.s/\x.s+x.n<=N)
theorem aO (N:Nat) (l:List E):aS N l=true↔ ∀x∈l,1<=x.n/\0<=x.s/\x.s+x.n<=N:=by simp[aS]
theorem aUu (N:Nat) (l:List E) (x:E):aS N (l++[x])=(aS N l&&decide (1<=x.n/\0<=x.s/\x.s+x.n<=N)):=by simp[aS]
theorem aUt (N:Nat) (l:List E) (k:Nat) (h:k<l.length):aS N (l.take (k+1))=(aS N (l.take k)&&decide (1<=l[k].n/\0<=l[k].s/\l[k].s+l[k].n<=N)):=by
 rw[List.take_succ_eq_append_getElem h,aUu]
def oW (C:List Int) (s:Nat) (d:Int):Nat->List Int
 |0=>C
 |k+1=>(oW C s d k).set (s+k) ((oW C s d k).getD (s+k) 0+d)
theorem kH (C:List Int) (s:Nat) (d:Int) (k:Nat):(oW C s d k).length=C.length:=by
 induction k with
 |zero=>rfl
 |succ k ih=>simp[oW,ih]
theorem aBh (C:List Int) (s:Nat) (d:Int) (k:Nat) (i:Nat) (hi:i<C.length):(oW C s d k).getD i 0=C.getD i 0+if s<=i/\i<s+k then d else 0:=by
 induction k with
 |zero=>simp[oW];omega
 | succ k ih=>
  simp only[oW];by_cases he:s+k=i
  ·subst he;rw[List.getD_eq_getElem?_getD,List.getElem?_set_self (by rw[kH];omega)];simp only[Option.getD_some];rw[ih,if_neg (by omega),if_pos (by omega)];omega
  ·rw[List.getD_eq_getElem?_getD,List.getElem?_set_ne he,<-List.getD_eq_getElem?_getD,ih];by_cases h1:s<=i/\i<s+k
   ·rw[if_pos h1,if_pos (by omega)]
   ·rw[if_neg h1,if_neg (by omega)]
def eZ (C:List Int) (l:List E) (d:Int):List Int:=l.foldl (fun C x=>oW C x.s.toNat d x.n.toNat) C
theorem aLn (C:List Int) (l:List E) (d:Int) (k:Nat) (h:k<l.length):eZ C (l.take (k+1)) d=oW (eZ C (l.take k) d) l[k].s.toNat d l[k].n.toNat:=by
 rw[List.take_succ_eq_append_getElem h];simp only[eZ,List.foldl_append,List.foldl_cons,List.foldl_nil]
theorem eY (C:List Int) (l:List E) (d:Int):(eZ C l d).length=C.length:=by
 unfold eZ
 induction l generalizing C with
 |nil=>rfl
 |cons x r ih=>rw[List.foldl_cons,ih,kH]
def cnt (l:List E) (i:Nat):Int:=match l with
 | []=>0
 |x::r=>(if x.s<=(i:Int)/\(i:Int)<x.s+x.n then 1 else 0)+cnt r i
theorem bZ (l:List E) (i:Nat):0<=cnt l i/\cnt l i<=l.length:=by
 induction l with
 |nil=>simp[cnt]
 | cons x r ih=>
  simp only[cnt,List.length_cons]
  split <;> omega
theorem aNo (l:List E) (i:Nat):0<cnt l i↔ ∃x∈l,x.s<=(i:Int)/\(i:Int)<x.s+x.n:=by
 induction l with
 |nil=>simp[cnt]
 | cons x r ih=>
  have hb:=(bZ r i).1;simp only[cnt,List.mem_cons,exists_eq_or_imp];rw[<-ih]
  split
  ·rename_i h;exact⟨fun _=> .inl h,fun _=>by omega⟩
  ·rename_i h;exact⟨fun h'=> .inr (by omega),fun h'=>by rcases h' with h'|h';exact absurd h' h;omega⟩
theorem mM (l:List E) (d:Int):∀ (C:List Int),aS C.length l=true-> ∀i,i<C.length->(eZ C l d).getD i 0=C.getD i 0+d*cnt l i:=by
 induction l with
 |nil=>intro C _ i _;simp[eZ,cnt]
 | cons x r ih=>
  intro C hp i hi;have hp':=(aO _ _).1 hp;obtain⟨h1,h2,h3⟩:=hp' x (by simp);have hr:aS (oW C x.s.toNat d x.n.toNat).length r=true:=by
   rw[kH];exact(aO _ _).2 fun y hy=>hp' y (by simp[hy])
  have:=ih (oW C x.s.toNat d x.n.toNat) hr i (by rw[kH];exact hi);simp only[eZ,List.foldl_cons]at this ⊢;rw[this,aBh _ _ _ _ _ hi];simp only[cnt];rw[Int.mul_add,<-Int.add_assoc];congr 1;congr 1;by_cases hc:x.s.toNat<=i/\i<x.s.toNat+x.n.toNat
  ·rw[if_pos hc,if_pos (by omega)];omega
  ·rw[if_neg hc,if_neg (by omega)];omega
theorem aWg {A B:List Int} (hl:A.length=B.length) (h:∀ i,i<A.length->A.getD i 0=B.getD i 0):A=B:=by
 apply List.ext_getElem hl
 intro i h1 h2;have:=h i h1
 simpa [List.getD_eq_getElem?_getD,List.getElem?_eq_getElem h1,List.getElem?_eq_getElem h2]using this
def inR (lo hi:Int) (C:List Int):Prop:= ∀x∈C,lo<=x/\x<=hi
theorem pY {lo hi:Int} {C:List Int}:inR lo hi C↔ ∀i,i<C.length->lo<=C.getD i 0/\C.getD i 0<=hi:=by
 constructor
 ·intro h i hi;rw[List.getD_eq_getElem?_getD,List.getElem?_eq_getElem hi];exact h _ (List.getElem_mem hi)
 ·intro h x hx;obtain⟨i,hi,rfl⟩:=List.mem_iff_getElem.1 hx;have:=h i hi
  rwa [List.getD_eq_getElem?_getD,List.getElem?_eq_getElem hi]at this
theorem gN {lo hi lo' hi':Int} {C:List Int} (h:inR lo hi C) (h1:lo'<=lo) (h2:hi<=hi'):inR lo' hi' C:=fun x hx=>⟨by have:=(h x hx).1;omega,by have:=(h x hx).2;omega⟩
theorem aXd (C:List Int) (s:Nat) (d:Int) (k:Nat) (lo hi:Int) (h:inR lo hi C):inR (lo-1) (hi+1) (oW C s d k)∨(d< -1∨1<d):=by
 by_cases hd: -1<=d/\d<=1
 ·refine .inl (pY.2 fun i hi=> ?_);rw[kH]at hi;rw[aBh _ _ _ _ _ hi];have:=pY.1 h i hi
  split <;> omega
 ·exact .inr (by omega)
theorem aHw (l:List E) (d:Int) (hd: -1<=d/\d<=1):∀ (C:List Int) (lo hi:Int),inR lo hi C->inR (lo-l.length) (hi+l.length) (eZ C l d):=by
 induction l with
 |nil=>intro C lo hi h;simpa [eZ]using h
 | cons x r ih=>
  intro C lo hi h;have h1:=(aXd C x.s.toNat d x.n.toNat lo hi h).resolve_right (by omega);have:=ih _ _ _ h1;simp only[eZ,List.foldl_cons,List.length_cons]at this ⊢;exact gN this (by push_cast;omega) (by push_cast;omega)
def pJ (C:List Int):Int:=(C.map fun x=>min x 1).sum
theorem aFh (C:List Int) (k:Nat) (h:k<C.length):pJ (C.take (k+1))=pJ (C.take k)+min C[k] 1:=by
 rw[List.take_succ_eq_append_getElem h];simp only[pJ,List.map_append,List.map_cons,List.map_nil,List.sum_append,List.sum_cons,List.sum_nil,Int.add_zero]
theorem aYx (C:List Int) (lo hi:Int) (h:inR lo hi C):lo*C.length<=C.sum/\C.sum<=hi*C.length:=by
 induction C with
 |nil=>simp
 | cons x r ih=>
  have h1:=h x (by simp);have h2:=ih fun y hy=>h y (by simp[hy]);simp only[List.sum_cons,List.length_cons];rw[show((r.length+1:Nat):Int)=r.length+1 by omega,Int.mul_add,Int.mul_add];omega
theorem aTj {lo hi:Int} {C:List Int} (h:inR lo hi C) (k:Nat):inR lo hi (C.take k):=fun x hx=>h x (List.mem_of_mem_take hx)
theorem aTd {hi:Int} {C:List Int} (h:inR 0 hi C):inR 0 1 (C.map fun x=>min x 1):=fun y hy=>by
 obtain⟨x,hx,rfl⟩:=List.mem_map.1 hy;have:=(h x hx).1;omega
theorem aOg {C:List Int} {hi:Int} (h:inR 0 hi C):0<=pJ C/\pJ C<=C.length:=by
 have:=aYx _ 0 1 (aTd h);simp only[Int.zero_mul,List.length_map,Int.one_mul]at this;exact this
def single (i:Nat):E:=⟨0,1,i⟩
def picks (f:Nat->Bool) (k:Nat):List E:=((List.range k).filter f).map single
theorem aJy (f:Nat->Bool) (k:Nat) (h:f k=true):picks f (k+1)=picks f k++[single k]:=by simp[picks,List.range_succ,h]
theorem aGb (f:Nat->Bool) (k:Nat) (h:f k=false):picks f (k+1)=picks f k:=by simp[picks,List.range_succ,h]
theorem pV (f:Nat->Bool) (k:Nat):(picks f k).length<=k:=by
 unfold picks;rw[List.length_map];exact Nat.le_trans (List.length_filter_le _ _) (by simp)
theorem vO (f g:Nat->Bool) (k:Nat) (h:∀ i,i<k->f i=g i):picks f k=picks g k:=by
 unfold picks;rw[List.filter_congr fun i hi=>h i (List.mem_range.1 hi)]
theorem aPq (f:Nat->Bool) (k:Nat) (hk:k<=65536):wfL (picks f k):=by
 intro x hx;obtain⟨i,hi,rfl⟩:=List.mem_map.1 hx;have:=List.mem_range.1 (List.mem_filter.1 hi).1;exact⟨by simp[single],by simp[single],by simp only[single];omega⟩
theorem aZg (i:Nat):okB (single i)=decide (i<65536):=by
 rw[Bool.eq_iff_iff,aD];simp only[single,decide_eq_true_eq];omega
theorem aKv (f:Nat->Bool) (k:Nat) (hk:k<=65536) (s:Int):Has (picks f k) s↔0<=s/\s<k/\f s.toNat=true:=by
 constructor
 ·rintro⟨x,hx,_,h1,h2⟩;obtain⟨i,hi,rfl⟩:=List.mem_map.1 hx;obtain⟨h3,h4⟩:=List.mem_filter.1 hi;have h3:=List.mem_range.1 h3;simp only[single]at h1 h2;obtain rfl:s=i:=by omega
  exact⟨by omega,by omega,by simpa using h4⟩
 ·rintro⟨h1,h2,h3⟩;refine⟨single s.toNat,List.mem_map.2 ⟨_,List.mem_filter.2 ⟨List.mem_range.2 (by omega),h3⟩,rfl⟩,?_,?_,?_⟩
  ·rw[aZg];simp;omega
  ·simp only[single];omega
  ·simp only[single];omega
def bS (C:List Int) (i:Nat):Bool:=decide (C.getD i 0=0)
def jQ (C:List Int):List E:=bT (picks (bS C) C.length)
def jX (D:List Int) (s:Nat) (k:Nat):List E:=((List.range k).filter fun j=>bS D (s+j)).map fun j=>single (s+j)
theorem aRg (D:List Int) (s:Nat):jX D s 0=[]:=rfl
theorem aVu (D:List Int) (s k:Nat) (h:bS D (s+k)=true):jX D s (k+1)=jX D s k++[single (s+k)]:=by simp[jX,List.range_succ,h]
theorem bBk (D:List Int) (s k:Nat) (h:bS D (s+k)=false):jX D s (k+1)=jX D s k:=by simp[jX,List.range_succ,h]
theorem yJ (D:List Int) (s k:Nat):(jX D s k).length<=k:=by
 unfold jX;rw[List.length_map];exact Nat.le_trans (List.length_filter_le _ _) (by simp)
def gZ (D:List Int) (l:List E):List E:=l.flatMap fun x=>jX D x.s.toNat x.n.toNat
theorem aRi (D:List Int) (l:List E) (k:Nat) (h:k<l.length):gZ D (l.take (k+1))=gZ D (l.take k)++jX D l[k].s.toNat l[k].n.toNat:=by
 rw[List.take_succ_eq_append_getElem h];simp only[gZ,List.flatMap_append,List.flatMap_cons,List.flatMap_nil,List.append_nil]
theorem aJb (D:List Int) (N:Nat) (l:List E) (h:aS N l=true):(gZ D l).length<=N*l.length:=by
 induction l with
 |nil=>simp[gZ]
 | cons x r ih=>
  have h':=(aO _ _).1 h;have h1:=h' x (by simp);have h2:=ih ((aO _ _).2 fun y hy=>h' y (by simp[hy]));have h3:=yJ D x.s.toNat x.n.toNat;simp only[gZ,List.flatMap_cons,List.length_append,List.length_cons]at h2 ⊢;rw[Nat.mul_add];omega
theorem aKl (D:List Int) (l:List E) (N:Nat) (h:aS N l=true) (e:E):e∈gZ D l↔ ∃i,e=single i/\bS D i=true/\0<cnt l i/\i<N:=by
 have h':=(aO _ _).1 h;unfold gZ;rw[List.mem_flatMap]
 constructor
 ·rintro⟨x,hx,he⟩;obtain⟨j,hj,rfl⟩:=List.mem_map.1 he;obtain⟨h1,h2⟩:=List.mem_filter.1 hj;have h1:=List.mem_range.1 h1;have h3:=h' x hx;exact⟨_,rfl,h2,(aNo _ _).2 ⟨x,hx,by omega,by omega⟩,by omega⟩
 ·rintro⟨i,rfl,h1,h2,h3⟩;obtain⟨x,hx,h4,h5⟩:=(aNo _ _).1 h2;have h6:=h' x hx;refine⟨x,hx,List.mem_map.2 ⟨i-x.s.toNat,List.mem_filter.2 ⟨List.mem_range.2 (by omega),?_⟩,?_⟩⟩
  ·rw[show x.s.toNat+(i-x.s.toNat)=i by omega];exact h1
  ·rw[show x.s.toNat+(i-x.s.toNat)=i by omega]
theorem bGa (D:List Int) (l:List E) (N:Nat) (hN:N<=65536) (h:aS N l=true):wfL (gZ D l):=by
 intro x hx;obtain⟨i,rfl,_,_,hi⟩:=(aKl D l N h x).1 hx;exact⟨by simp[single],by simp[single],by simp only[single];omega⟩
def mW (C D:List Int) (i:Nat):Bool:=decide (D.getD i 0=0)&&decide (0<C.getD i 0)
theorem aRf (C:List Int) (l:List E) (hN:C.length<=65536) (h:aS C.length l=true) (hC:∀ i,i<C.length->0<=C.getD i 0):
  bT (gZ (eZ C l (-1)) l)=bT (picks (mW C (eZ C l (-1))) C.length):=by
 refine bDk fun e=> ?_;rw[aKl _ _ _ h];unfold picks;rw[List.mem_map]
 constructor
 ·rintro⟨i,rfl,h1,h2,h3⟩;refine⟨i,List.mem_filter.2 ⟨List.mem_range.2 h3,?_⟩,rfl⟩;have hg:=mM l (-1) C h i h3;simp only[bS,decide_eq_true_eq]at h1;simp only[mW,Bool.and_eq_true,decide_eq_true_eq];exact⟨h1,by omega⟩
 ·rintro⟨i,hi,rfl⟩;obtain⟨h3,h4⟩:=List.mem_filter.1 hi;have h3:=List.mem_range.1 h3;have hg:=mM l (-1) C h i h3;simp only[mW,Bool.and_eq_true,decide_eq_true_eq]at h4;exact⟨i,rfl,decide_eq_true h4.1,by omega,h3⟩
def aL (f:Nat->Bool):Nat->Nat
 |0=>0
 |n+1=>aL f n+if f n=true then 1 else 0
theorem iP (f:Nat->Bool) (n:Nat):aL f n<=n:=by
 induction n with
 |zero=>simp[aL]
 |succ n ih=>simp only[aL];split <;> omega
theorem aN (f g:Nat->Bool) (n:Nat) (h:∀ i,i<n->f i=g i):aL f n=aL g n:=by
 induction n with
 |zero=>rfl
 | succ n ih=>
  simp only[aL];rw[ih fun i hi=>h i (by omega),h n (by omega)]
theorem xZ (a b n:Nat) (hab:a<=b):aL (fun i=>decide (a<=i)&&decide (i<b)) n=min b n-min a n:=by
 induction n with
 |zero=>simp[aL]
 | succ n ih=>
  simp only[aL];rw[ih];simp only[Bool.and_eq_true,decide_eq_true_eq]
  split <;> omega
theorem rU (f g:Nat->Bool) (n:Nat) (h:∀ i,i<n->f i=true->g i=true->False):aL (fun i=>f i||g i) n=aL f n+aL g n:=by
 induction n with
 |zero=>rfl
 | succ n ih=>
  simp only[aL];rw[ih fun i hi=>h i (by omega)];have:=h n (by omega);rcases Bool.eq_false_or_eq_true (f n)with hf|hf <;> rcases Bool.eq_false_or_eq_true (g n)with hg|hg <;> simp_all <;> omega
theorem dL (f:Nat->Bool) (n:Nat) (h:∀ i,i<n->f i=false):aL f n=0:=by
 induction n with
 |zero=>rfl
 | succ n ih=>
  simp only[aL];rw[ih fun i hi=>h i (by omega),h n (by omega)];rfl
theorem kG (f:Nat->Bool) (n m:Nat) (hn:n<=m) (h:∀ i,n<=i->i<m->f i=false):aL f m=aL f n:=by
  induction m with
  | zero => obtain rfl:n=0:=by omega
            rfl
  | succ m ih=>
    by_cases he:n=m+1
    · subst he;rfl
    · simp only[aL];rw[ih (by omega) fun i h1 h2=>h i h1 (by omega),h m (by omega) (by omega)];simp
theorem qM (f g:Nat->Bool) (n:Nat) (h:∀ i,i<n->f i=true->g i=true):aL f n<=aL g n:=by
 induction n with
 |zero=>exact Nat.le_refl _
 | succ n ih=>
  simp only[aL];have:=ih fun i hi=>h i (by omega);have:=h n (by omega);rcases Bool.eq_false_or_eq_true (f n)with hf|hf <;> rcases Bool.eq_false_or_eq_true (g n)with hg|hg <;> simp_all <;> omega
theorem uQ (f g:Nat->Bool) (n:Nat):aL f n=aL (fun i=>f i&&g i) n+aL (fun i=>f i&& !g i) n:=by
 induction n with
 |zero=>rfl
 | succ n ih=>
  simp only[aL];rw[ih];rcases Bool.eq_false_or_eq_true (f n)with hf|hf <;> rcases Bool.eq_false_or_eq_true (g n)with hg|hg <;> simp[hf,hg] <;> omega
theorem wU (f g:Nat->Bool) (n:Nat):aL (fun i=>f i||g i) n+aL (fun i=>f i&&g i) n=aL f n+aL g n:=by
 induction n with
 |zero=>rfl
 | succ n ih=>
  simp only[aL];rcases Bool.eq_false_or_eq_true (f n)with hf|hf <;> rcases Bool.eq_false_or_eq_true (g n)with hg|hg <;> simp[hf,hg] <;> omega
theorem bHg (f:Nat->Bool) (n:Nat):aL f n+aL (fun i=> !f i) n=n:=by
 induction n with
 |zero=>rfl
 | succ n ih=>
  simp only[aL];rcases Bool.eq_false_or_eq_true (f n)with hf|hf <;> simp[hf] <;> omega
theorem kX (f:Nat->Bool) (n:Nat):aL f n=0↔ ∀i,i<n->f i=false:=by
 constructor
 ·induction n with
  |zero=>intro _ i hi;omega
  | succ n ih=>
   intro h i hi;simp only[aL]at h;have h1:=ih (by omega);by_cases he:i=n
   ·subst he;cases hf:f i
    ·rfl
    ·rw[if_pos hf]at h;omega
   ·exact h1 i (by omega)
 ·exact dL f n
def inX (x:E) (i:Nat):Bool:=decide (x.s<=(i:Int))&&decide ((i:Int)<x.s+x.n)
theorem fJ (x:E) (i:Nat):inX x i=true↔x.s<=(i:Int)/\(i:Int)<x.s+x.n:=by simp[inX]
def hasB (R:List E) (i:Nat):Bool:=R.any fun x=>okB x&&inX x i
theorem iW (R:List E) (i:Nat):hasB R i=true↔Has R (i:Int):=by
 unfold hasB Has;rw[List.any_eq_true]
 constructor
 ·rintro⟨x,hx,h⟩;simp only[Bool.and_eq_true,fJ]at h;exact⟨x,hx,h.1,h.2.1,h.2.2⟩
 ·rintro⟨x,hx,h1,h2,h3⟩;exact⟨x,hx,by simp only[Bool.and_eq_true,fJ];exact⟨h1,h2,h3⟩⟩
theorem aSq (x:E) (n:Nat) (h0:0<=x.s) (h1:0<=x.n) (h2:x.s+x.n<=n):aL (inX x) n=x.n.toNat:=by
 rw [aN (inX x) (fun i=>decide (x.s.toNat<=i)&&decide (i<x.s.toNat+x.n.toNat)) n fun i _=>by
  rw[Bool.eq_iff_iff,fJ];simp only[Bool.and_eq_true,decide_eq_true_eq];omega]
 rw[xZ _ _ _ (by omega)];omega
theorem bFs {R:List E} {s:Int} (h:Has R s):0<=s/\s<65536:=by
 obtain⟨x,_,h1,h2,h3⟩:=h;have:=(aD x).1 h1;omega
theorem xP (x:E) (r:List E):aT (x::r)=x.n+aT r:=by simp[aT]
theorem fE (R:List E):Canon R->aT R=aL (hasB R) 65536:=by
 induction R with
 | nil=>
  intro _;rw[dL _ _ fun i _=>by simp[hasB]];rfl
 | cons x r ih=>
  rintro⟨h1,h2⟩;rw[List.pairwise_cons]at h2;have h3:=ih ⟨fun y hy=>h1 y (by simp[hy]),h2.2⟩;have hx:=(h1 x (by simp)).2;obtain⟨e1,e2,e3,e4,e5⟩:=(aD x).1 hx;rw[xP,h3];rw[aN (hasB (x::r)) (fun i=>inX x i||hasB r i) _ fun i _=>by simp[hasB,hx]];rw[rU _ _ _ (fun i _ ha hb=> ?_),aSq x _ e3 (by omega) (by omega)]
  ·omega
  ·obtain⟨y,hy,_,h5,_⟩:=(iW _ _).1 hb;have:=h2.1 y hy;have:=(fJ _ _).1 ha;omega
theorem aHc (f:Nat->Bool) (k:Nat) (hk:k<=65536) (i:Nat):hasB (picks f k) i=(decide (i<k)&&f i):=by
 rw[Bool.eq_iff_iff,iW,aKv f k hk];simp only[Bool.and_eq_true,decide_eq_true_eq,Int.toNat_natCast];exact⟨fun h=>⟨by omega,h.2.2⟩,fun h=>⟨by omega,by omega,h.2⟩⟩
theorem qJ (l:List E) (i:Nat):hasB (bT l) i=hasB l i:=by
 rw[Bool.eq_iff_iff,iW,iW];exact(dV l).2 i
theorem aGs (f:Nat->Bool) (k:Nat) (hk:k<=65536):aT (bT (picks f k))=aL f k:=by
 rw[fE _ (dV _).1];rw[aN _ (fun i=>decide (i<k)&&f i) _ fun i _=>by rw[qJ,aHc f k hk]];rw[kG _ k 65536 hk fun i h1 _=>by simp;omega];rw[aN _ f k fun i hi=>by simp[hi]]
theorem aOw {A B:List E} (hA:Canon A) (hB:Canon B) (h:∀ i,i<65536->hasB A i=hasB B i):A=B:=by
 refine aBb A B hA hB fun s=> ?_
 constructor
 ·intro hs;have:=bFs hs;obtain⟨i,rfl⟩:∃ i:Nat,s=i:=⟨s.toNat,by omega⟩;rw[<-iW,<-h i (by omega),iW];exact hs
 ·intro hs;have:=bFs hs;obtain⟨i,rfl⟩:∃ i:Nat,s=i:=⟨s.toNat,by omega⟩;rw[<-iW,h i (by omega),iW];exact hs
theorem aYs (C:List Int) (hi:Int) (h:inR 0 hi C) (k:Nat):k<=C.length->pJ (C.take k)+aL (bS C) k=k:=by
 induction k with
 |zero=>intro _;simp[pJ,aL]
 | succ k ih=>
  intro hk;have hlt:k<C.length:=by omega
  rw[aFh C k hlt];have h1:=ih (by omega);have h2:=(h C[k] (List.getElem_mem hlt)).1;simp only[aL,bS,decide_eq_true_eq];rw[List.getD_eq_getElem?_getD,List.getElem?_eq_getElem hlt];simp only[Option.getD_some]
  split <;> omega
theorem aYr (C:List Int) (hi:Int) (h:inR 0 hi C):pJ C+aL (bS C) C.length=C.length:=by
 have:=aYs C hi h C.length (Nat.le_refl _)
 rwa [List.take_length]at this
theorem bBa (C:List Int) (hN:C.length<=65536):aT (jQ C)=aL (bS C) C.length:=aGs _ _ hN
theorem bGx {C:List Int} {l:List E} {hi:Int} (h:aS C.length l=true) (hC:inR 0 hi C):inR 0 (hi+l.length) (eZ C l 1):=by
 refine pY.2 fun i hlt=> ?_;rw[eY]at hlt;rw[mM l 1 _ h i hlt];have:=pY.1 hC i hlt;have:=bZ l i;omega
def aQm (x:E) (i:Nat):Bool:=decide (1<=x.n)&&inX x i
def iV (l:List E) (i:Nat):Bool:=l.any fun x=>aQm x i
theorem aVg (l:List E) (k:Nat) (h:k<l.length) (i:Nat):iV (l.take (k+1)) i=(iV (l.take k) i||aQm l[k] i):=by
 rw[List.take_succ_eq_append_getElem h];simp only[iV,List.any_append,List.any_cons,List.any_nil,Bool.or_false]
def bB (C:List Int) (i:Nat):Bool:=decide (C.getD i 0=1)
def bF (C:List Int) (l:List E):Int:=aL (fun i=>iV l i&&bB C i) C.length
def mk (f:Nat->Bool) (n:Nat):List Bool:=(List.range n).map f
theorem xM (f:Nat->Bool) (n:Nat):(mk f n).length=n:=by simp[mk]
theorem aQh (n:Nat):mk (fun _=>false) n=List.replicate n false:=by
 apply List.ext_getElem
 ·simp[mk]
 ·intro i h1 h2;simp[mk]
theorem aMx (f:Nat->Bool) (n i:Nat) (h:i<n):(mk f n).getD i false=f i:=by
 rw[List.getD_eq_getElem?_getD];simp[mk,h]
theorem gL (f g:Nat->Bool) (n:Nat) (h:∀ i,i<n->f i=g i):mk f n=mk g n:=by
 unfold mk;exact List.map_congr_left fun i hi=>h i (List.mem_range.1 hi)
theorem bLf (f:Nat->Bool) (p n:Nat) (b:Bool):(mk f n).set p b=mk (fun i=>if i=p then b else f i) n:=by
 apply List.ext_getElem
 ·simp[mk]
 ·intro i h1 h2;simp only[mk,List.getElem_set,List.getElem_map,List.getElem_range];by_cases h:p=i
  ·subst h;simp
  ·rw[if_neg h,if_neg (fun e=>h e.symm)]
theorem bHh (f g:Nat->Bool) (p n:Nat) (hp:p<n) (h:∀ i,i<n->i≠p->f i=g i) (h1:f p=false) (h2:g p=true):aL g n=aL f n+1:=by
 induction n with
 |zero=>omega
 | succ n ih=>
  simp only[aL];by_cases he:p=n
  ·subst he;rw[aN g f p fun i hi=>(h i (by omega) (by omega)).symm,h1,h2];simp
  ·rw[ih (by omega) fun i hi hne=>h i (by omega) hne,h n (by omega) (fun e=>he e.symm)];omega
def bL (L:Nat->Bool) (s p:Nat) (i:Nat):Bool:=L i||(decide (s<=i)&&decide (i<p))
theorem gD (L:Nat->Bool) (s p:Nat) (h:p<=s) (i:Nat):bL L s p i=L i:=by
 unfold bL;have:(decide (s<=i)&&decide (i<p))=false:=by simp;omega
 rw[this,Bool.or_false]
theorem aJq (L:Nat->Bool) (s p n:Nat) (h:s<=p):(mk (bL L s p) n).set p true=mk (bL L s (p+1)) n:=by
 rw[bLf];refine gL _ _ _ fun i _=> ?_;unfold bL;by_cases hi:i=p
 ·subst hi;simp[h]
 ·rw[if_neg hi];congr 1;rw[Bool.eq_iff_iff];simp only[Bool.and_eq_true,decide_eq_true_eq];omega
theorem aJr (L:Nat->Bool) (C:List Int) (s p n:Nat) (hs:s<=p) (h:(!bL L s p p&&bB C p)=false):aL (fun i=>bL L s (p+1) i&&bB C i) n=aL (fun i=>bL L s p i&&bB C i) n:=by
 refine aN _ _ _ fun i _=> ?_;by_cases hi:i=p
 ·subst hi;cases ho:bB C i
  ·simp
  ·rw[ho]at h;have h1:bL L s i i=true:=by simpa using h
   rw[h1];have h2:bL L s (i+1) i=true:=by unfold bL;simp[hs]
   rw[h2]
 ·congr 1;unfold bL;congr 1;rw[Bool.eq_iff_iff];simp only[Bool.and_eq_true,decide_eq_true_eq];omega
theorem aJs (L:Nat->Bool) (C:List Int) (s p n:Nat) (hs:s<=p) (hp:p<n) (h1:bL L s p p=false) (h2:bB C p=true):aL (fun i=>bL L s (p+1) i&&bB C i) n=aL (fun i=>bL L s p i&&bB C i) n+1:=by
 refine bHh _ _ p n hp (fun i _ hi=> ?_) ?_ ?_
 ·congr 1;unfold bL;congr 1;rw[Bool.eq_iff_iff];simp only[Bool.and_eq_true,decide_eq_true_eq];omega
 ·show(bL L s p p&&bB C p)=false;rw[h1];rfl
 ·show(bL L s (p+1) p&&bB C p)=true;rw[h2];unfold bL;simp[hs]
theorem sM (L:Nat->Bool) (x:E) (s p n:Nat) (T:Int) (hs:(s:Int)=max x.s 0) (hT:T=if 1<=x.n then min (n:Int) (x.s+x.n)else 0) (h1:s<=p) (h2:T<=p) (h3:(p:Int)<=T∨p=s) (i:Nat) (hi:i<n):bL L s p i=(L i||aQm x i):=by
 unfold bL aQm inX;congr 1;rw[Bool.eq_iff_iff];simp only[Bool.and_eq_true,decide_eq_true_eq];by_cases h:1<=x.n
 ·rw[if_pos h]at hT;omega
 ·rw[if_neg h]at hT;omega
inductive Tr where
 |nil:Tr
 |node (l:Tr) (x:E) (r:Tr):Tr
def Tr.toL:Tr->List E
 | .nil=>[]
 | .node l x r=>l.toL++x::r.toL
def Tr.deep:Tr->Nat
 | .nil=>0
 | .node l _ r=>1+max l.deep r.deep
def Tr.size (t:Tr):Nat:=t.toL.length
theorem Tr.deep_le (t:Tr):t.deep<=t.size:=by
 induction t with
 |nil=>simp[Tr.deep,Tr.size,Tr.toL]
 | node l x r hl hr=>
  simp only[Tr.deep,Tr.size,Tr.toL,List.length_append,List.length_cons]at hl hr ⊢;omega
theorem Tr.bMy (l r:Tr) (x:E):(Tr.node l x r).size=l.size+1+r.size:=by
 simp only[Tr.size,Tr.toL,List.length_append,List.length_cons];omega
theorem iI (A B:List E) (f t:Int):aJ (A++B) f t=aJ A f t++aJ B f t:=by
 simp[aJ,List.filter_append,List.map_append]
theorem dO (x:E) (B:List E) (f t:Int):aJ (x::B) f t=(if bR x f t then [bN x f t]else [])++aJ B f t:=by
 unfold aJ;by_cases h:bR x f t=true
 ·simp[h]
 ·simp[h]
theorem aUv (x:E) (f t:Int) (hx:okB x=true) (h1:f<=x.a) (h2:x.a+x.n<=t):bR x f t=true/\bN x f t=x:=by
 obtain⟨c1,c2,c3,c4,c5⟩:=(aD x).1 hx;refine⟨decide_eq_true (by omega),?_⟩;unfold bN
 apply E.ext' <;> simp only <;> omega
theorem lQ (l:List E) (f t:Int):(∀x∈l,okB x=true/\f<=x.a/\x.a+x.n<=t)->aJ l f t=l:=by
 induction l with
 |nil=>intro _;rfl
 | cons x r ih=>
  intro h;obtain⟨h1,h2,h3⟩:=h x (by simp);obtain⟨p1,p2⟩:=aUv x f t h1 h2 h3;rw[dO,p1,p2,ih fun y hy=>h y (by simp[hy])];rfl
theorem nG (l:List E) (f t:Int):(∀x∈l,x.a+x.n<=f∨t<=x.a)->aJ l f t=[]:=by
 induction l with
 |nil=>intro _;rfl
 | cons x r ih=>
  intro h;have:=h x (by simp);have hp:bR x f t=false:=by
   unfold bR;rw[decide_eq_false_iff_not];omega
  rw[dO,hp,ih fun y hy=>h y (by simp[hy])];rfl
theorem iR {A B:List E} {x:E} (h:aI (A++x::B)=true):aI A=true/\okB x=true/\aI B=true/\(∀y∈A,y.a+y.n<=x.a)/\ ∀y∈B,x.a+x.n<=y.a:=by
 obtain⟨h1,h2⟩:=(bQ _).1 h;rw[List.pairwise_append]at h2;obtain⟨p1,p2,p3⟩:=h2;rw[List.pairwise_cons]at p2;exact⟨(bQ _).2 ⟨fun y hy=>h1 y (by simp[hy]),p1⟩,h1 x (by simp),(bQ _).2 ⟨fun y hy=>h1 y (by simp[hy]),p2.2⟩,fun y hy=>p3 y hy x (by simp),p2.1⟩
section
variable {A B:List E} {x:E} (h:aI (A++x::B)=true)
include h
theorem aTp (p:Int) (hp:p<=x.a):aJ (A++x::B) 0 p=aJ A 0 p/\aJ (A++x::B) p 65536=aJ A p 65536++x::B:=by
 obtain⟨_,hx,hB,_,h2⟩:=iR h;have hok:=aK hB;obtain⟨c1,c2,c3,c4,c5⟩:=(aD x).1 hx
 constructor
 ·rw[iI,nG (x::B) 0 p fun y hy=> ?_,List.append_nil];simp at hy;rcases hy with rfl|hy
  ·exact .inr hp
  ·have:=h2 y hy;exact .inr (by omega)
 ·rw[iI,lQ (x::B) p 65536 fun y hy=> ?_];simp at hy;rcases hy with rfl|hy
  ·exact⟨hx,hp,c4⟩
  ·have h3:=h2 y hy;have h4:=(aD y).1 (hok y hy);exact⟨hok y hy,by omega,h4.2.2.2.1⟩
theorem aOp (p:Int) (hp:x.a+x.n<=p):aJ (A++x::B) 0 p=A++x::aJ B 0 p/\aJ (A++x::B) p 65536=aJ B p 65536:=by
 obtain⟨hA,hx,_,h1,_⟩:=iR h;have hok:=aK hA;obtain⟨c1,c2,c3,c4,c5⟩:=(aD x).1 hx
 constructor
 ·rw [show A++x::B=(A++[x])++B by simp,iI,lQ (A++[x]) 0 p fun y hy=> ?_]
  ·simp
  ·simp at hy;rcases hy with hy|rfl
   ·have h3:=h1 y hy;have h4:=(aD y).1 (hok y hy);exact⟨hok y hy,by omega,by omega⟩
   ·exact⟨hx,c2,hp⟩
 ·rw [show A++x::B=(A++[x])++B by simp,iI,nG (A++[x]) p 65536 fun y hy=> ?_]
  ·simp
  ·simp at hy;rcases hy with hy|rfl
   ·have h3:=h1 y hy;exact .inl (by omega)
   ·exact .inl hp
theorem aZb (p:Int) (h1:x.a<p) (h2:p<x.a+x.n):aJ (A++x::B) 0 p=A++[⟨x.a,p-x.a,x.s⟩]/\aJ (A++x::B) p 65536=⟨p,x.n-(p-x.a),x.s+(p-x.a)⟩::B:=by
 obtain⟨hA,hx,hB,hA1,hB1⟩:=iR h;have hokA:=aK hA;have hokB:=aK hB;obtain⟨c1,c2,c3,c4,c5⟩:=(aD x).1 hx;have p1:bR x 0 p=true:=decide_eq_true (by omega);have p2:bR x p 65536=true:=decide_eq_true (by omega);have e1:bN x 0 p=⟨x.a,p-x.a,x.s⟩:=by unfold bN;apply E.ext' <;> simp only <;> omega
 have e2:bN x p 65536=⟨p,x.n-(p-x.a),x.s+(p-x.a)⟩:=by unfold bN;apply E.ext' <;> simp only <;> omega
 have w1:aJ A 0 p=A:=lQ A 0 p fun y hy=>by
  have h3:=hA1 y hy;have h4:=(aD y).1 (hokA y hy);exact⟨hokA y hy,by omega,by omega⟩
 have w2:aJ B 0 p=[]:=nG B 0 p fun y hy=>by have h3:=hB1 y hy;exact .inr (by omega)
 have w3:aJ A p 65536=[]:=nG A p 65536 fun y hy=>by have h3:=hA1 y hy;exact .inl (by omega)
 have w4:aJ B p 65536=B:=lQ B p 65536 fun y hy=>by
  have h3:=hB1 y hy;have h4:=(aD y).1 (hokB y hy);exact⟨hokB y hy,by omega,h4.2.2.2.1⟩
 constructor
 ·rw[iI,dO,p1,e1,w1,w2];simp
 ·rw[iI,dO,p2,e2,w3,w4];simp
end
def eX:List E->Bool
 | []=>true
 | [_]=>true
 |x::y::r=> !meets x y&&eX (y::r)
def bBj (A:List E) (x:E):Bool:=match A.getLast? with|none=>true|some y=> !meets y x
theorem aGi (A:List E) (x:E):eX (A++[x])=(eX A&&bBj A x):=by
 induction A with
 |nil=>rfl
 | cons y r ih=>
  cases r with
  |nil=>simp[eX,bBj]
  | cons z r=>
   simp only[List.cons_append,eX]at ih ⊢;rw[ih];unfold bBj;simp only[List.getLast?_cons_cons];cases (!meets y z) <;> simp
theorem mD (l:List E):joinL l=l↔eX l=true:=by
 refine gJ (P:=fun l=>joinL l=l↔eX l=true) (by simp[joinL,eX]) (fun l x ih=> ?_) l;rw[dP,aGi,Bool.and_eq_true,<-ih]
 constructor
 ·intro h;have hl:=jL l;have hpl:=tN (joinL l) x;have hlen:(fD (joinL l) x).length=l.length+1:=by rw[h];simp
  by_cases hj:joinL l=[]
  ·rw [hj,nE]at h;have:l=[]:=by
    have h5:=congrArg List.length h;rw[List.length_append]at h5;simp only[List.length_cons,List.length_nil]at h5;exact List.length_eq_zero_iff.1 (by omega)
   subst this;exact⟨rfl,rfl⟩
  ·obtain⟨r,y,hr⟩:=fC _ hj;rw[hr]at h hlen hl;cases hm:meets y x
   ·rw[eD _ _ _ hm]at h;have h2:=List.append_inj_left' h rfl;refine⟨by rw[hr];exact h2,?_⟩;rw[<-h2];simp[bBj,hm]
   ·rw[dG _ _ _ hm]at hlen;simp at hlen hl;omega
 ·rintro⟨h1,h2⟩;rw[h1];by_cases hj:l=[]
  ·subst hj;rfl
  ·obtain⟨r,y,hr⟩:=fC _ hj;rw[hr]at h2 ⊢;simp[bBj]at h2;rw[eD _ _ _ h2]
theorem jK {x y:E} {r:List E}:eX (x::y::r)=(!meets x y&&eX (y::r)):=rfl
theorem yX {x:E} {r:List E} (h:eX (x::r)=true):eX r=true:=by
 cases r with
 |nil=>rfl
 |cons y r=>rw[jK,Bool.and_eq_true]at h;exact h.2
theorem aAh (A B:List E) (hA:eX A=true) (hB:eX B=true) (h:∀ y x,A.getLast? =some y->B.head? =some x->meets y x=false):eX (A++B)=true:=by
 induction A with
 |nil=>exact hB
 | cons z r ih=>
  cases r with
  | nil=>
   cases B with
   |nil=>rfl
   | cons x B=>
    rw[List.cons_append,List.nil_append,jK,h z x rfl rfl,hB];rfl
  | cons w r=>
   rw[jK,Bool.and_eq_true]at hA;rw[List.cons_append,List.cons_append,jK,hA.1];exact ih hA.2 fun y x h1 h2=>h y x (by rw[List.getLast?_cons_cons];exact h1) h2
theorem qP (l:List E) (f t:Int):aI l=true->eX l=true->eX (aJ l f t)=true:=by
  induction l with
  |nil=>intro _ _;rfl
  | cons x r ih=>
    intro hv hn;obtain⟨_,hx,hr,_,hB⟩:=iR (A:=[]) hv;have h1:=ih hr (yX hn);rw[dO];cases hp:bR x f t
    · simpa using h1
    · refine aAh [bN x f t] _ rfl h1 fun y z hy hz=> ?_;simp at hy;subst hy;have hzm:z∈aJ r f t:=List.mem_of_mem_head? hz;have hpx:max x.a f<min (x.a+x.n) t:=of_decide_eq_true hp
      cases r with
      |nil=>simp[aJ]at hz
      | cons u r=>
        rw[jK,Bool.and_eq_true]at hn;have hxu:meets x u=false:=by simpa using hn.1
        have hua:=hB u (by simp);have hu:=(aD u).1 (aK hr u (by simp));obtain⟨_,_,_,_,hur⟩:=iR (A:=[]) hr;rw[dO]at hz;cases hpu:bR u f t
        ·
          rw[hpu]at hz;simp only[Bool.false_eq_true,if_false,List.nil_append]at hz;have hzm2:z∈aJ r f t:=List.mem_of_mem_head? hz;obtain⟨v,hv1,rfl⟩:=List.mem_map.1 hzm2;obtain⟨hv2,hv3⟩:=List.mem_filter.1 hv1;have hpv:max v.a f<min (v.a+v.n) t:=of_decide_eq_true hv3;have hnu:¬ max u.a f<min (u.a+u.n) t:=of_decide_eq_false hpu;have hva:=hur v hv2;unfold meets;rw[Bool.and_eq_false_iff]
          left
          simp only[bN,decide_eq_false_iff_not];omega
        · rw [hpu]at hz;simp only[if_true,List.cons_append,List.nil_append,List.head?_cons,Option.some.injEq]at hz;subst hz;have hpu':max u.a f<min (u.a+u.n) t:=of_decide_eq_true hpu;unfold meets at hxu;rw[Bool.and_eq_false_iff,decide_eq_false_iff_not,decide_eq_false_iff_not]at hxu;have q1:(bN x f t).a+(bN x f t).n=min (x.a+x.n) t:=by simp only[bN];omega
          have q2:(bN u f t).a=max u.a f:=rfl;have q3:(bN x f t).s+(bN x f t).n=x.s+(min (x.a+x.n) t-x.a):=by simp only[bN];omega
          have q4:(bN u f t).s=u.s+(max u.a f-u.a):=by simp only[bN];omega
          unfold meets;rw[Bool.and_eq_false_iff,decide_eq_false_iff_not,decide_eq_false_iff_not,q1,q2,q3,q4];by_cases h6:x.a+x.n=u.a
          · have h7:¬ x.s+x.n=u.s:=hxu.resolve_left (fun h=>h h6);omega
          · left
            omega
theorem aAc (r:List E):∀ (L:List E) (w:E),(∀h,r.head? =some h->meets w h=false)->eX r=true->bM (L++[w]) r=L++[w]++r:=by
 induction r with
 |nil=>intro L w _ _;simp[bM]
 | cons z r ih=>
  intro L w h1 h2;have h3:bM (L++[w]) (z::r)=bM (fD (L++[w]) z) r:=rfl;rw[h3,eD _ _ _ (h1 z rfl),ih (L++[w]) z (fun u hu=> ?_) (yX h2)]
  ·simp
  ·cases r with
   |nil=>simp at hu
   | cons v r=>
    simp only[List.head?_cons,Option.some.injEq]at hu;subst hu;rw[jK,Bool.and_eq_true]at h2
    simpa using h2.1
theorem yS (L:List E) (w:E) (B:List E) (hB:eX B=true) (h:∀ z,B.head? =some z->meets w z=false):bM (L++[w]) B=L++w::B:=by
 rw[aAc B L w h hB];simp
theorem vK (L:List E) (w z:E) (r:List E) (hB:eX (z::r)=true) (h:meets w z=true):bM (L++[w]) (z::r)=L++w.longer z.n::r:=by
 have h3:bM (L++[w]) (z::r)=bM (fD (L++[w]) z) r:=rfl;rw[h3,dG _ _ _ h,aAc r L (w.longer z.n) (fun u hu=> ?_) (yX hB)]
 ·simp
 ·cases r with
  |nil=>simp at hu
  | cons v r=>
   simp only[List.head?_cons,Option.some.injEq]at hu;subst hu;rw[jK,Bool.and_eq_true]at hB;have h1:meets z v=false:=by simpa using hB.1
   unfold meets at h h1 ⊢;rw[Bool.and_eq_true,decide_eq_true_eq,decide_eq_true_eq]at h;rw[Bool.and_eq_false_iff,decide_eq_false_iff_not,decide_eq_false_iff_not]at h1 ⊢;simp only[E.longer];omega
theorem aPj (l:List E) (x:E) (hv:aI l=true) (hn:eX l=true):bK l x=bM (fD (aJ l 0 x.a) x) (aJ l (x.a+x.n) 65536):=by
 have h1:=(mD _).2 (qP l 0 x.a hv hn);unfold bK;rw[aAt,h1];rfl
theorem aKa (l:List E) (p q:Int) (hp:0<=p) (hq:q<=65536):(∀x∈l,okB x=true)->aJ (aJ l p 65536) 0 q=aJ l p q:=by
 induction l with
 |nil=>intro _;rfl
 | cons x r ih=>
  intro h;obtain⟨c1,c2,c3,c4,c5⟩:=(aD x).1 (h x (by simp));rw[dO,iI,ih fun y hy=>h y (by simp[hy]),dO x r p q];congr 1;cases h1:bR x p 65536
  ·have h2:bR x p q=false:=by
    have h1':¬ max x.a p<min (x.a+x.n) 65536:=of_decide_eq_false h1;exact decide_eq_false (by omega)
   rw[h2];rfl
  ·have h1':max x.a p<min (x.a+x.n) 65536:=of_decide_eq_true h1;simp only[if_true];rw[dO];have e1:bR (bN x p 65536) 0 q=bR x p q:=by
    unfold bR bN;rw[Bool.eq_iff_iff,decide_eq_true_eq,decide_eq_true_eq];simp only;omega
   have e2:bN (bN x p 65536) 0 q=bN x p q:=by
    unfold bN
    apply E.ext' <;> simp only <;> omega
   rw[e1,e2];simp[aJ]
theorem aGc (l:List E) (p q:Int) (hp:0<=p) (hpq:p<=q):(∀x∈l,okB x=true)->aJ (aJ l p 65536) q 65536=aJ l q 65536:=by
 induction l with
 |nil=>intro _;rfl
 | cons x r ih=>
  intro h;obtain⟨c1,c2,c3,c4,c5⟩:=(aD x).1 (h x (by simp));rw[dO,iI,ih fun y hy=>h y (by simp[hy]),dO x r q 65536];congr 1;cases h1:bR x p 65536
  ·have h2:bR x q 65536=false:=by
    have h1':¬ max x.a p<min (x.a+x.n) 65536:=of_decide_eq_false h1;exact decide_eq_false (by omega)
   rw[h2];rfl
  ·have h1':max x.a p<min (x.a+x.n) 65536:=of_decide_eq_true h1;simp only[if_true];rw[dO];have e1:bR (bN x p 65536) q 65536=bR x q 65536:=by
    unfold bR bN;rw[Bool.eq_iff_iff,decide_eq_true_eq,decide_eq_true_eq];simp only;omega
   have e2:bN (bN x p 65536) q 65536=bN x q 65536:=by
    unfold bN
    apply E.ext' <;> simp only <;> omega
   rw[e1,e2];simp[aJ]
theorem bGt (l:List E) (p n:Int) (hn:1<=n) (hv:aI l=true) (hnm:eX l=true):fV l p n=aJ l 0 p++aJ l (p+n) 65536:=by
 rw[nY l p n (by omega) hv,(mD _).2];refine aAh _ _ (qP l _ _ hv hnm) (qP l _ _ hv hnm) fun y z hy hz=> ?_;have h1:=iH l 0 p y (List.mem_of_getLast? hy);have h2:=iH l (p+n) 65536 z (List.mem_of_mem_head? hz);unfold meets;rw[Bool.and_eq_false_iff]
 left
 rw[decide_eq_false_iff_not];omega
theorem aEr (l:List E) (p n:Int) (hv:aI l=true) (hnm:eX l=true):inL l p n=aJ l p (p+n):=by
 rw[wE,(mD _).2 (qP l _ _ hv hnm)]
theorem bGs (l:List E) (p:Int) (hv:aI l=true) (hnm:eX l=true):fV l p 0=l:=by
 rw[nY l p 0 (Int.le_refl _) hv,Int.add_zero];have h:=wC (aJ l 0 p++aJ l p 65536) l (jI l 0 p p 65536 hv (Int.le_refl _)) hv fun q=> ?_
 ·rw[h,(mD _).2 hnm]
 ·rw [dJ,jH,jH];by_cases h1:0<=q/\q<65536
  ·by_cases h2:q<p
   ·rw[if_pos ⟨h1.1,h2⟩,if_neg (by omega)];simp
   ·rw[if_neg (by omega),if_pos ⟨by omega,h1.2⟩];simp
  ·rw[pR l hv q (by omega)]
   split <;> split <;> rfl
theorem aNd {p q:Prop} [Decidable p] [Decidable q] (h:p↔q):(if p then (1:Int)else 0)=if q then 1 else 0:=by
 by_cases hq:q
 ·rw[if_pos hq,if_pos (h.2 hq)]
 ·rw[if_neg hq,if_neg fun hp=>hq (h.1 hp)]
theorem aQx (p:Prop) [Decidable p]:∃ k:Int,(if p then (1:Int)else 0)=k/\((p/\k=1)∨(¬p/\k=0)):=by
 by_cases h:p
 ·exact⟨1,if_pos h,.inl ⟨h,rfl⟩⟩
 ·exact⟨0,if_neg h,.inr ⟨h,rfl⟩⟩
theorem gF (A B:List E) (i:Nat):cnt (A++B) i=cnt A i+cnt B i:=by
 induction A with
 |nil=>simp[cnt]
 | cons x r ih=>
  simp only[List.cons_append,cnt,ih];omega
def uJ (x:E) (i:Nat):Int:=if x.s<=(i:Int)/\(i:Int)<x.s+x.n then 1 else 0
theorem aEx (x:E) (i:Nat):∃ k:Int,uJ x i=k/\(((x.s<=(i:Int)/\(i:Int)<x.s+x.n)/\k=1)∨(¬(x.s<=(i:Int)/\(i:Int)<x.s+x.n)/\k=0)):=aQx _
theorem aSe (x:E) (r:List E) (i:Nat):cnt (x::r) i=uJ x i+cnt r i:=rfl
theorem mJ (x:E) (i:Nat):cnt [x] i=uJ x i:=by simp[cnt,uJ]
theorem cnt_push (l:List E) (x:E) (i:Nat) (hl:∀ y∈l,0<=y.n) (hx:0<=x.n):cnt (fD l x) i=cnt l i+uJ x i:=by
 by_cases h:l=[]
 ·subst h;rw[nE,mJ];simp[cnt]
 ·obtain⟨l',y,rfl⟩:=fC l h;cases hm:meets y x
  ·rw[eD _ _ _ hm,gF,mJ]
  ·rw[dG _ _ _ hm,gF,gF,mJ,mJ];have hy:=hl y (by simp);obtain⟨h1,h2⟩:=(iD y x).1 hm;obtain⟨k1,e1,g1⟩:=aEx (y.longer x.n) i;obtain⟨k2,e2,g2⟩:=aEx y i;obtain⟨k3,e3,g3⟩:=aEx x i;have q1:(y.longer x.n).s=y.s:=rfl;have q2:(y.longer x.n).n=y.n+x.n:=rfl;rw[e1,e2,e3];omega
theorem aAy (l:List E) (i:Nat):(∀x∈l,okB x=true)->cnt (joinL l) i=cnt l i:=by
 refine gJ (P:=fun l=>(∀x∈l,okB x=true)->cnt (joinL l) i=cnt l i) (fun _=>rfl) (fun l x ih h=> ?_) l;have hl:∀ y∈l,okB y=true:=fun y hy=>h y (by simp[hy]);have hx:=(aD x).1 (h x (by simp));rw[dP,cnt_push _ _ _ (aAs l hl) (by omega),ih hl,gF,mJ]
theorem aCp (l:List E) (p q:Int) (i:Nat) (hp:0<=p) (hpq:p<=q) (hq:q<=65536):(∀x∈l,okB x=true)->cnt (aJ l 0 p) i+cnt (aJ l p q) i+cnt (aJ l q 65536) i=cnt l i:=by
 induction l with
 |nil=>intro _;rfl
 | cons x r ih=>
  intro h;have h1:=ih fun y hy=>h y (by simp[hy]);obtain⟨c1,c2,c3,c4,c5⟩:=(aD x).1 (h x (by simp));rw[dO,dO,dO,gF,gF,gF,aSe];have e1:cnt (if bR x 0 p=true then [bN x 0 p]else []) i=if x.s<=(i:Int)/\(i:Int)<x.s+x.n/\(i:Int)<x.s+(p-x.a)then 1 else 0:=by
   by_cases hb:max x.a 0<min (x.a+x.n) p
   ·rw[if_pos (show bR x 0 p=true from decide_eq_true hb),mJ];exact aNd (by simp only[bN];omega)
   ·rw[if_neg (show ¬bR x 0 p=true by simpa [bR]using hb)];rw[if_neg (by omega)];rfl
  have e2:cnt (if bR x p q=true then [bN x p q]else []) i=if x.s<=(i:Int)/\(i:Int)<x.s+x.n/\x.s+(p-x.a)<=(i:Int)/\(i:Int)<x.s+(q-x.a)then 1 else 0:=by
   by_cases hb:max x.a p<min (x.a+x.n) q
   ·rw[if_pos (show bR x p q=true from decide_eq_true hb),mJ];exact aNd (by simp only[bN];omega)
   ·rw[if_neg (show ¬bR x p q=true by simpa [bR]using hb)];rw[if_neg (by omega)];rfl
  have e3:cnt (if bR x q 65536=true then [bN x q 65536]else []) i=if x.s<=(i:Int)/\(i:Int)<x.s+x.n/\x.s+(q-x.a)<=(i:Int)then 1 else 0:=by
   by_cases hb:max x.a q<min (x.a+x.n) 65536
   ·rw[if_pos (show bR x q 65536=true from decide_eq_true hb),mJ];exact aNd (by simp only[bN];omega)
   ·rw[if_neg (show ¬bR x q 65536=true by simpa [bR]using hb)];rw[if_neg (by omega)];rfl
  rw[e1,e2,e3,<-h1];simp only[uJ];obtain⟨k1,e1,g1⟩:=aQx (x.s<=(i:Int)/\(i:Int)<x.s+x.n/\(i:Int)<x.s+(p-x.a));obtain⟨k2,e2,g2⟩:=aQx (x.s<=(i:Int)/\(i:Int)<x.s+x.n/\x.s+(p-x.a)<=(i:Int)/\(i:Int)<x.s+(q-x.a));obtain⟨k3,e3,g3⟩:=aQx (x.s<=(i:Int)/\(i:Int)<x.s+x.n/\x.s+(q-x.a)<=(i:Int));obtain⟨k4,e4,g4⟩:=aQx (x.s<=(i:Int)/\(i:Int)<x.s+x.n);rw[e1,e2,e3,e4];omega
theorem aWm (l:List E) (p n:Int) (i:Nat) (h:∀ x∈l,okB x=true):cnt (inL l p n) i=cnt (aJ l p (p+n)) i:=by
 rw[wE,aAy _ _ (dH l _ _ h)]
theorem aEw (l:List E) (x:E) (i:Nat) (hx:okB x=true) (hv:aI l=true):cnt (bK l x) i+cnt (inL l x.a x.n) i=cnt l i+uJ x i:=by
 have hok:=aK hv;obtain⟨c1,c2,c3,c4,c5⟩:=(aD x).1 hx;unfold bK;rw[aWm _ _ _ _ hok,aAy _ _ fun y hy=> ?_,gF,gF,mJ,<-aCp l x.a (x.a+x.n) i c2 (by omega) c4 hok]
 ·omega
 ·simp only[List.mem_append,List.mem_singleton]at hy;rcases hy with hy|rfl|hy
  ·exact dH l _ _ hok y hy
  ·exact hx
  ·exact dH l _ _ hok y hy
theorem aXy (l:List E) (p n:Int) (i:Nat) (hp:dW p n 65536=true) (hv:aI l=true):cnt (fV l p n) i+cnt (inL l p n) i=cnt l i:=by
 have hok:=aK hv;have hp':0<=p/\0<=n/\p<=65536/\n<=65536-p:=of_decide_eq_true hp;rw[nY l p n hp'.2.1 hv,aWm _ _ _ _ hok,aAy _ _ fun y hy=> ?_,gF,<-aCp l p (p+n) i hp'.1 (by omega) (by omega) hok]
 ·omega
 ·simp only[List.mem_append]at hy;rcases hy with hy|hy
  ·exact dH l _ _ hok y hy
  ·exact dH l _ _ hok y hy
theorem aKj {l:List E} {f t:Int} {y:E} (h:y∈aJ l f t):∃ x∈l,bR x f t=true/\y=bN x f t:=by
 obtain⟨x,hx,rfl⟩:=List.mem_map.1 h;obtain⟨h1,h2⟩:=List.mem_filter.1 hx;exact⟨x,h1,h2,rfl⟩
theorem qO {N:Nat} {l:List E} (f t:Int) (h:aS N l=true):aS N (aJ l f t)=true:=by
 refine(aO _ _).2 fun y hy=> ?_;obtain⟨x,hx,hp,rfl⟩:=aKj hy;have:=(aO _ _).1 h x hx;have hp':max x.a f<min (x.a+x.n) t:=of_decide_eq_true hp;simp only[bN];omega
theorem bAl {N:Nat} {l:List E} {x:E} (h:aS N l=true) (hx:1<=x.n/\0<=x.s/\x.s+x.n<=N):aS N (fD l x)=true:=by
 by_cases hl:l=[]
 ·subst hl;exact(aO _ _).2 fun y hy=>by simp[fD]at hy;rw[hy];exact hx
 ·obtain ⟨l',y,rfl⟩:=fC l hl;have h':=(aO _ _).1 h;refine(aO _ _).2 fun z hz=> ?_;cases hm:meets y x
  ·rw[eD _ _ _ hm]at hz;simp only[List.mem_append,List.mem_singleton]at hz;rcases hz with (hz|rfl)|rfl
   ·exact h' z (by simp[hz])
   ·exact h' z (by simp)
   ·exact hx
  ·rw[dG _ _ _ hm]at hz;simp only[List.mem_append,List.mem_singleton]at hz;rcases hz with hz|rfl
   ·exact h' z (by simp[hz])
   ·have hy:=h' y (by simp);have:=(iD y x).1 hm;simp only[E.longer];omega
theorem aBs {N:Nat} (l:List E):aS N l=true->aS N (joinL l)=true:=by
 refine gJ (P:=fun l=>aS N l=true->aS N (joinL l)=true) (fun h=>h) (fun l x ih h=> ?_) l;have h':=(aO _ _).1 h;rw[dP];exact bAl (ih ((aO _ _).2 fun y hy=>h' y (by simp[hy]))) (h' x (by simp))
theorem aEq {N:Nat} {l:List E} (p n:Int) (h:aS N l=true):aS N (inL l p n)=true:=by
 rw[wE];exact aBs _ (qO _ _ h)
theorem vP {N:Nat} {A B:List E} (hA:aS N A=true) (hB:aS N B=true):aS N (A++B)=true:=by
 rw[aS]at *;rw[List.all_append,hA,hB];rfl
theorem bEj {N:Nat} {l:List E} {x:E} (h:aS N l=true) (hx:1<=x.n/\0<=x.s/\x.s+x.n<=N):aS N (bK l x)=true:=
 aBs _ (vP (qO _ _ h) (vP ((aO _ _).2 fun y hy=>by simp at hy;rw[hy];exact hx) (qO _ _ h)))
theorem bEl {N:Nat} {l:List E} (p n:Int) (hn:0<=n) (hv:aI l=true) (h:aS N l=true):aS N (fV l p n)=true:=by
 rw[nY l p n hn hv];exact aBs _ (vP (qO _ _ h) (qO _ _ h))
def inside (l:List E) (m:Int):Prop:= ∀x∈l,x.a+x.n<=m
theorem uC {l:List E} {m:Int} (f t:Int) (h:inside l m):inside (aJ l f t) m:=fun y hy=>by
 obtain⟨x,hx,hp,rfl⟩:=aKj hy;have:=h x hx;have hp':max x.a f<min (x.a+x.n) t:=of_decide_eq_true hp;simp only[bN];omega
theorem aDs {l:List E} {m:Int} (hok:∀ x∈l,okB x=true) (h:inside l m):inside (joinL l) m:=fun y hy=>
 (aVk l 0 m (fun x hx=>by have:=(aD x).1 (hok x hx);omega) (fun x hx=>⟨by have:=(aD x).1 (hok x hx);omega,h x hx⟩) y hy).2
theorem aVl {l:List E} {x:E} {m:Int} (hx:okB x=true) (hm:x.a+x.n<=m) (hv:aI l=true) (h:inside l m):inside (bK l x) m:=by
 have hok:=aK hv;refine aDs (fun y hy=> ?_) fun y hy=> ?_
 ·simp only[List.mem_append,List.mem_singleton]at hy;rcases hy with hy|rfl|hy
  ·exact dH l _ _ hok y hy
  ·exact hx
  ·exact dH l _ _ hok y hy
 ·simp only[List.mem_append,List.mem_singleton]at hy;rcases hy with hy|rfl|hy
  ·exact uC _ _ h y hy
  ·exact hm
  ·exact uC _ _ h y hy
theorem aVm {l:List E} {m:Int} (p n:Int) (hn:0<=n) (hv:aI l=true) (h:inside l m):inside (fV l p n) m:=by
 have hok:=aK hv;rw[nY l p n hn hv];refine aDs (fun y hy=> ?_) fun y hy=> ?_
 ·simp only[List.mem_append]at hy;rcases hy with hy|hy <;> exact dH l _ _ hok y hy
 ·simp only[List.mem_append]at hy;rcases hy with hy|hy <;> exact uC _ _ h y hy
theorem yH (l:List E) (m:Int):∀ e,e<=m->inside l m->bG e l=true->(l.length:Int)+e<=m:=by
 induction l with
 |nil=>intro e h0 _ _;simpa using h0
 | cons x r ih=>
  intro e h0 hi h;simp only[bG,Bool.and_eq_true,decide_eq_true_eq]at h;have hx:=(aD x).1 h.1;have hxm:=hi x (by simp);have:=ih (x.a+x.n) hxm (fun y hy=>hi y (by simp[hy])) h.2.2;simp only[List.length_cons];omega
theorem aQe (l:List E) (x:E):eX (bK l x)=true:=(mD _).1 (aGv _)
theorem bEx (l:List E) (p n:Int) (hn:0<=n) (hv:aI l=true):eX (fV l p n)=true:=by
 rw[nY l p n hn hv];exact(mD _).1 (aGv _)
theorem aVp {l:List E} {m:Int} (hv:aI l=true) (hn:eX l=true) (h:inside l m):inL l 0 m=l:=by
 rw[aEr l 0 m hv hn,Int.zero_add];exact lQ l 0 m fun x hx=>⟨aK hv x hx,by have:=(aD x).1 (aK hv x hx);omega,h x hx⟩
structure Vol where
 nm:List UInt8
 n:Int
 r:Int
 l:List E
structure Fam where
 N:Nat
 vs:List Vol
def mE (c:UInt8):Bool:=decide (97<=c.toNat)&&decide (c.toNat<=122)
def qV (c:UInt8):Bool:=decide (48<=c.toNat)&&decide (c.toNat<=57)
def charsB:Bool->List UInt8->Bool
 |_,[]=>true
 |f,c::r=>(mE c||(!f&&qV c))&&charsB false r
def gK (s:List UInt8):Bool:=charsB true s&&(decide (1<=s.length)&&decide (s.length<=16))
theorem aSj (s:List UInt8) (c:UInt8):∀ f,charsB f (s++[c])=(charsB f s&&(mE c||(!(f&&s.isEmpty)&&qV c))):=by
 induction s with
 |nil=>intro f;simp[charsB]
 | cons a r ih=>
  intro f;simp only[List.cons_append,charsB,ih false];simp[Bool.and_assoc]
theorem aDu (s:List UInt8) (k:Nat) (h:k<s.length):charsB true (s.take (k+1))=(charsB true (s.take k)&&(mE s[k]||(decide (0<k)&&qV s[k]))):=by
 rw[List.take_succ_eq_append_getElem h,aSj];congr 2
 cases k with
 |zero=>simp
 | succ k=>
  cases s with
  |nil=>simp at h
  |cons a r=>simp
theorem aNp (s:List UInt8) (k:Nat) (h:charsB true (s.take k)=false):charsB true s=false:=by
 have h1:∀ (s:List UInt8) (k:Nat) (f:Bool),charsB f (s.take k)=false->charsB f s=false:=by
  intro s
  induction s with
  |nil=>intro k f h;simpa using h
  | cons a r ih=>
   intro k f h
   cases k with
   |zero=>simp[charsB]at h
   | succ k=>
    simp only[List.take_succ_cons,charsB,Bool.and_eq_false_iff]at h ⊢;rcases h with h|h
    ·exact .inl h
    ·exact .inr (ih k false h)
 exact h1 s k true h
def pX (v:Vol):List Vol->List Vol
 | []=>[v]
 |w::r=>if bytesBefore v.nm w.nm then v::w::r else w::pX v r
def bP (vs:List Vol) (nm:List UInt8):List Vol:=vs.filter fun w=> !(w.nm==nm)
def eB (vs:List Vol) (v:Vol):List Vol:=pX v (bP vs v.nm)
def aP (vs:List Vol) (nm:List UInt8):Option Vol:=vs.find? fun w=>w.nm==nm
def fI (vs:List Vol):Prop:=vs.Pairwise fun a b=>bytesBefore a.nm b.nm=true
theorem aQj {v x:Vol} {vs:List Vol}:x∈pX v vs↔x=v∨x∈vs:=by
 induction vs with
 |nil=>simp[pX]
 | cons w r ih=>
  unfold pX
  split
  ·simp
  ·simp only[List.mem_cons,ih]
   constructor
   ·rintro(h|h|h)
    ·exact .inr (.inl h)
    ·exact .inl h
    ·exact .inr (.inr h)
   ·rintro(h|h|h)
    ·exact .inr (.inl h)
    ·exact .inl h
    ·exact .inr (.inr h)
theorem vY (v:Vol) (vs:List Vol):(pX v vs).length=vs.length+1:=by
 induction vs with
 |nil=>rfl
 | cons w r ih=>
  unfold pX
  split
  ·rfl
  ·simp[ih]
theorem aOm (f:Vol->Int) (v:Vol) (vs:List Vol):((pX v vs).map f).sum=f v+(vs.map f).sum:=by
 induction vs with
 |nil=>simp[pX]
 | cons w r ih=>
  unfold pX
  split
  ·simp
  ·simp only[List.map_cons,List.sum_cons,ih];omega
theorem gM {x:Vol} {vs:List Vol} {nm:List UInt8}:x∈bP vs nm↔x∈vs/\x.nm≠nm:=by simp[bP]
theorem eF {x v:Vol} {vs:List Vol}:x∈eB vs v↔x=v∨(x∈vs/\x.nm≠v.nm):=by unfold eB;rw[aQj,gM]
theorem sorted_del {vs:List Vol} (h:fI vs) (nm:List UInt8):fI (bP vs nm):=h.filter _
theorem aTq {v:Vol} {vs:List Vol} (h:fI vs) (hne:∀ w∈vs,w.nm≠v.nm):fI (pX v vs):=by
 induction vs with
 |nil=>simp[pX,fI]
 | cons w r ih=>
  obtain⟨h1,h2⟩:=List.pairwise_cons.1 h;unfold pX
  split
  ·rename_i hb
   refine List.pairwise_cons.2 ⟨fun x hx=> ?_,h⟩;rcases List.mem_cons.1 hx with rfl|hx
   ·exact hb
   ·exact WideShapes.bytes_trans _ _ _ hb (h1 x hx)
  ·rename_i hb
   have hw:bytesBefore w.nm v.nm=true:=(WideAt.bytes_total w.nm v.nm (hne w (by simp))).resolve_right (by simpa using hb);refine List.pairwise_cons.2 ⟨fun x hx=> ?_,ih h2 fun x hx=>hne x (by simp[hx])⟩;rcases aQj.1 hx with rfl|hx
   ·exact hw
   ·exact h1 x hx
theorem sorted_put {v:Vol} {vs:List Vol} (h:fI vs):fI (eB vs v):=aTq (sorted_del h _) fun _ hw=>(gM.1 hw).2
theorem aDb {vs:List Vol} (h:fI vs) {a b:Vol} (ha:a∈vs) (hb:b∈vs) (he:a.nm=b.nm):a=b:=by
 induction vs with
 |nil=>simp at ha
 | cons w r ih=>
  obtain⟨h1,h2⟩:=List.pairwise_cons.1 h;rcases List.mem_cons.1 ha with rfl|ha'
  ·rcases List.mem_cons.1 hb with rfl|hb'
   ·rfl
   ·have:=h1 b hb';rw[he,WideAt.bytes_irrefl]at this;cases this
  ·rcases List.mem_cons.1 hb with rfl|hb'
   ·have:=h1 a ha';rw[he,WideAt.bytes_irrefl]at this;cases this
   ·exact ih h2 ha' hb'
theorem aH {vs:List Vol} {nm:List UInt8} {v:Vol} (h:aP vs nm=some v):v∈vs/\v.nm=nm:=
 ⟨List.mem_of_find?_eq_some h,by simpa using List.find?_some h⟩
theorem iY {vs:List Vol} {nm:List UInt8}:aP vs nm=none↔ ∀w∈vs,w.nm≠nm:=by simp[aP]
theorem iO {vs:List Vol} (h:fI vs) {v:Vol} (hv:v∈vs):aP vs v.nm=some v:=by
 cases hg:aP vs v.nm with
 |none=>exact absurd rfl (iY.1 hg v hv)
 | some w=>
  obtain⟨h1,h2⟩:=aH hg;rw[aDb h h1 hv h2]
theorem iX {vs:List Vol} (h:fI vs) (v:Vol) (nm:List UInt8):aP (eB vs v) nm=if nm=v.nm then some v else aP vs nm:=by
 split
 ·rename_i he
  subst he;exact iO (sorted_put h) (eF.2 (.inl rfl))
 ·rename_i he
  cases hg:aP vs nm with
  | none=>
   rw[iY]at hg ⊢;intro w hw;rcases eF.1 hw with rfl|hw
   ·exact fun h=>he h.symm
   ·exact hg w hw.1
  | some w=>
   obtain⟨h1,rfl⟩:=aH hg;exact iO (sorted_put h) (eF.2 (.inr ⟨h1,he⟩))
theorem aRe {vs:List Vol} (h:fI vs) (nm nm':List UInt8):aP (bP vs nm) nm'=if nm'=nm then none else aP vs nm':=by
 split
 ·rename_i he
  subst he;exact iY.2 fun w hw=>(gM.1 hw).2
 ·rename_i he
  cases hg:aP vs nm' with
  | none=>
   rw[iY]at hg ⊢;exact fun w hw=>hg w (gM.1 hw).1
  | some w=>
   obtain⟨h1,rfl⟩:=aH hg;exact iO (sorted_del h _) (gM.2 ⟨h1,he⟩)
theorem aEv (f:Vol->Int) {vs:List Vol} (h:fI vs) {v:Vol} (hv:aP vs v.nm=some v):((bP vs v.nm).map f).sum+f v=(vs.map f).sum:=by
 induction vs with
 |nil=>simp[aP]at hv
 | cons w r ih=>
  obtain⟨h1,h2⟩:=List.pairwise_cons.1 h;by_cases he:w.nm=v.nm
  ·have hw:w=v:=aDb h (by simp) (aH hv).1 he;subst hw;have:bP (w::r) w.nm=r:=by
    unfold bP;rw[List.filter_cons_of_neg (by simp),List.filter_eq_self];intro x hx;have:=h1 x hx;simp only[Bool.not_eq_true',beq_eq_false_iff_ne,ne_eq];intro hn;rw[hn,WideAt.bytes_irrefl]at this;cases this
   rw[this];simp only[List.map_cons,List.sum_cons];omega
  ·have hg:aP r v.nm=some v:=by
    have h3:=hv;unfold aP at h3 ⊢;rw[List.find?_cons_of_neg (by simpa using he)]at h3;exact h3
   have:=ih h2 hg;unfold bP at this ⊢;rw[List.filter_cons_of_pos (by simpa using he)];simp only[List.map_cons,List.sum_cons];omega
theorem oQ {vs:List Vol} {nm:List UInt8} (h:aP vs nm=none):bP vs nm=vs:=by
 unfold bP;rw[List.filter_eq_self];intro x hx
 simpa using iY.1 h x hx
theorem aWe {vs:List Vol} (h:fI vs) {v:Vol} (hv:aP vs v.nm=some v):(bP vs v.nm).length+1=vs.length:=by
 have:=aEv (fun _=>1) h hv;have hc:∀ l:List Vol,(l.map fun _=>(1:Int)).sum=l.length:=by
  intro l
  induction l with
  |nil=>rfl
  |cons a r ih=>simp only[List.map_cons,List.sum_cons,List.length_cons,ih];omega
 rw[hc,hc]at this;omega
theorem aUm {vs:List Vol} (h:fI vs) {v w:Vol} (hv:aP vs v.nm=some w):(eB vs v).length=vs.length:=by
 obtain⟨h1,h2⟩:=aH hv;have:=aWe h (v:=w) (by rw[h2];exact hv);unfold eB;rw[vY,<-h2];omega
def sW (N:Nat) (vs:List Vol):List Int:=vs.foldl (fun C v=>eZ C v.l 1) (List.replicate N 0)
def jB (vs:List Vol) (i:Nat):Int:=(vs.map fun v=>cnt v.l i).sum
theorem aWl (N:Nat) (vs:List Vol) (k:Nat) (h:k<vs.length):sW N (vs.take (k+1))=eZ (sW N (vs.take k)) vs[k].l 1:=by
 unfold sW;rw[List.take_succ_eq_append_getElem h,List.foldl_append];rfl
theorem aRk (vs:List Vol):∀ C:List Int,(vs.foldl (fun C v=>eZ C v.l 1) C).length=C.length:=by
 induction vs with
 |nil=>intro C;rfl
 |cons v r ih=>intro C;rw[List.foldl_cons,ih,eY]
theorem mI (N:Nat) (vs:List Vol):(sW N vs).length=N:=by simp[sW,aRk]
theorem qL (N:Nat) (vs:List Vol) (hp:∀ v∈vs,aS N v.l=true) (i:Nat) (hi:i<N):(sW N vs).getD i 0=jB vs i:=by
 have h:∀ (vs:List Vol) (C:List Int),C.length=N->(∀v∈vs,aS N v.l=true)->(vs.foldl (fun C v=>eZ C v.l 1) C).getD i 0=C.getD i 0+jB vs i:=by
  intro vs
  induction vs with
  |nil=>intro C _ _;simp[jB]
  | cons v r ih=>
   intro C hC hp;rw[List.foldl_cons,ih (eZ C v.l 1) (by rw[eY,hC]) fun w hw=>hp w (by simp[hw]),mM v.l 1 C (by rw[hC];exact hp v (by simp)) i (by omega)];simp only[jB,List.map_cons,List.sum_cons];omega
 have:=h vs (List.replicate N 0) (by simp) hp;unfold sW;rw[this];have h0:(List.replicate N (0:Int)).getD i 0=0:=by
  rw[List.getD_eq_getElem?_getD,List.getElem?_replicate]
  split <;> rfl
 omega
theorem uK (vs:List Vol) (i:Nat) (M:Nat) (h:∀ v∈vs,v.l.length<=M):0<=jB vs i/\jB vs i<=M*vs.length:=by
 induction vs with
 |nil=>simp[jB]
 | cons v r ih=>
  have h1:=ih fun w hw=>h w (by simp[hw]);have h2:=bZ v.l i;have h3:=h v (by simp);simp only[jB,List.map_cons,List.sum_cons,List.length_cons]at h1 ⊢;rw[show((r.length+1:Nat):Int)=r.length+1 by omega,Int.mul_add];omega
theorem aSd (N:Nat) (vs:List Vol) (hp:∀ v∈vs,aS N v.l=true) (h:∀ v∈vs,v.l.length<=65536) (hl:vs.length<=32):inR 0 2097152 (sW N vs):=by
 refine pY.2 fun i hi=> ?_;rw[mI]at hi;rw[qL N vs hp i hi];have:=uK vs i 65536 h;omega
theorem xV {N:Nat} {vs:List Vol} {C:List Int} (hp:∀ v∈vs,aS N v.l=true) (hC:C.length=N) (h:∀ i,i<N->C.getD i 0=jB vs i):C=sW N vs:=
 aWg (by rw[mI,hC]) fun i hi=>by rw[h i (by omega),qL N vs hp i (by omega)]
theorem aAz {vs:List Vol} (h:fI vs) (v:Vol) (i:Nat):jB (eB vs v) i=cnt v.l i+jB (bP vs v.nm) i:=aOm _ _ _
theorem qX {vs:List Vol} (h:fI vs) {v:Vol} (hv:aP vs v.nm=some v) (i:Nat):jB (bP vs v.nm) i+cnt v.l i=jB vs i:=aEv (fun v=>cnt v.l i) h hv
structure Vol.ok (N:Nat) (v:Vol):Prop where
 name:gK v.nm=true
 n1:1<=v.n
 n2:v.n<=65536
 r0:0<=v.r
 r1:v.r<=v.n
 valid:aI v.l=true
 norm:eX v.l=true
 ins:inside v.l v.n
 perm:aS N v.l=true
theorem Vol.ok.short {N:Nat} {v:Vol} (h:v.ok N):v.l.length<=65536/\(v.l.length:Int)<=v.n:=by
 refine⟨oD h.valid,?_⟩;have:=yH v.l v.n 0 (by have:=h.n1;omega) h.ins h.valid;omega
structure Fam.ok (F:Fam):Prop where
 hN:F.N<=65536
 sorted:fI F.vs
 few:F.vs.length<=32
 vol:∀ v∈F.vs,v.ok F.N
def Fam.C (F:Fam):List Int:=sW F.N F.vs
theorem Fam.bMs (F:Fam):F.C.length=F.N:=mI _ _
theorem Fam.ok.get {F:Fam} (h:F.ok) (i:Nat) (hi:i<F.N):F.C.getD i 0=jB F.vs i:=qL _ _ (fun v hv=>(h.vol v hv).perm) i hi
theorem Fam.ok.range {F:Fam} (h:F.ok):inR 0 2097152 F.C:=aSd _ _ (fun v hv=>(h.vol v hv).perm) (fun v hv=>(h.vol v hv).short.1) h.few
def dR:Fam:=⟨0,[]⟩
theorem iF:dR.ok:=⟨Nat.zero_le _,List.Pairwise.nil,Nat.zero_le _,by simp[dR]⟩
def dS (F G:Fam):List E:=bT (picks (mW F.C G.C) F.N)
def inB (p n m:Int):Bool:=decide (0<=p/\0<=n/\p<=m/\n<=m-p)
theorem iN (p n m:Int):inB p n m=true↔0<=p/\0<=n/\p<=m/\n<=m-p:=decide_eq_true_iff
def aMt (n r:Int):Bool:=decide (1<=n/\n<=65536/\0<=r/\r<=n)
def aU (F:Fam) (nm:List UInt8) (n r:Int):Fam × Int:=
 if (gK nm&&aMt n r)=false then (dR,1)
 else if (aP F.vs nm).isSome then (dR,10)
 else if 32<=F.vs.length then (dR,7)
 else (⟨F.N,eB F.vs ⟨nm,n,r,[]⟩⟩,0)
def bJ (F:Fam) (nm other:List UInt8):Fam × Int:=match aP F.vs nm with
 |none=>(dR,9)
 | some v=>
  if gK other=false then (dR,1)
  else if (aP F.vs other).isSome then (dR,10)
  else if 32<=F.vs.length then (dR,7)
  else (⟨F.N,eB F.vs ⟨other,v.n,0,v.l⟩⟩,0)
def bC (F:Fam) (nm:List UInt8):Fam × List E × Int:=match aP F.vs nm with
 |none=>(dR,[],9)
 |some _=>(⟨F.N,bP F.vs nm⟩,dS F ⟨F.N,bP F.vs nm⟩,0)
def Vol.set (v:Vol) (l:List E):Vol:=⟨v.nm,v.n,v.r,l⟩
def Fam.with (F:Fam) (v:Vol):Fam:=⟨F.N,eB F.vs v⟩
def qN (N:Nat) (x:E):Bool:=decide (1<=x.n/\0<=x.s/\x.s+x.n<=N)
def aQ (F:Fam) (nm:List UInt8) (x:E):Fam × List E × Int:=match aP F.vs nm with
 |none=>(dR,[],9)
 |some v=>if (inB x.a x.n v.n&&qN F.N x)=false then (dR,[],2)else (F.with (v.set (bK v.l x)),dS F (F.with (v.set (bK v.l x))),0)
def bY (F:Fam) (nm:List UInt8) (p n:Int):Fam × List E × Int:=match aP F.vs nm with
 |none=>(dR,[],9)
 |some v=>if inB p n v.n=false then (dR,[],2)else (F.with (v.set (fV v.l p n)),dS F (F.with (v.set (fV v.l p n))),0)
def fQ (F:Fam) (nm:List UInt8) (p:Int):Int × Bool × Int:=match aP F.vs nm with
 |none=>(0,false,9)
 |some v=>if inB p 1 v.n=false then (0,false,2)else (fK v.l p,fH v.l p,0)
def fU (F:Fam) (nm:List UInt8) (p n:Int):List E × Int:=match aP F.vs nm with
 |none=>([],9)
 |some v=>if inB p n v.n=false then ([],2)else (inL v.l p n,0)
structure qE where
 nm:List UInt8
 n:Int
 r:Int
 m:Int
 x:Int
def bFn (C:List Int) (v:Vol):qE:=⟨v.nm,v.n,v.r,aT v.l,bF C v.l⟩
def eP (F:Fam) (nm:List UInt8):qE × Int:=match aP F.vs nm with
 |none=>(⟨[],0,0,0,0⟩,9)
 |some v=>(bFn F.C v,0)
theorem Fam.ok.with {F:Fam} (h:F.ok) {v w:Vol} (hv:v.ok F.N) (hw:aP F.vs v.nm=some w):(F.with v).ok:=
 ⟨h.hN,sorted_put h.sorted,by show(eB _ _).length<=32;rw[aUm h.sorted hw];exact h.few,fun u hu=>by
  rcases eF.1 hu with rfl|hu
  ·exact hv
  ·exact h.vol u hu.1⟩
theorem Fam.ok.add {F:Fam} (h:F.ok) {v:Vol} (hv:v.ok F.N) (hw:aP F.vs v.nm=none) (hl:F.vs.length<32):(⟨F.N,eB F.vs v⟩:Fam).ok:=
 ⟨h.hN,sorted_put h.sorted,by show(pX _ _).length<=32;rw[vY,oQ hw];omega,fun u hu=>by
  rcases eF.1 hu with rfl|hu
  ·exact hv
  ·exact h.vol u hu.1⟩
theorem Fam.ok.del {F:Fam} (h:F.ok) (nm:List UInt8):(⟨F.N,bP F.vs nm⟩:Fam).ok:=
 ⟨h.hN,sorted_del h.sorted _,Nat.le_trans (List.length_filter_le _ _) h.few,fun u hu=>h.vol u (gM.1 hu).1⟩
theorem Vol.ok.put {N:Nat} {v:Vol} (h:v.ok N) (hN:N<=65536) {x:E} (hx:(inB x.a x.n v.n&&qN N x)=true):okB x=true/\(v.set (bK v.l x)).ok N:=by
 rw[Bool.and_eq_true,iN]at hx;obtain⟨⟨h1,h2,h3,h4⟩,hs⟩:=hx;have hs:1<=x.n/\0<=x.s/\x.s+x.n<=N:=of_decide_eq_true hs;have hn:=h.n2;have hok:okB x=true:=(aD x).2 ⟨hs.1,h1,hs.2.1,by omega,by omega⟩;exact⟨hok,h.name,h.n1,h.n2,h.r0,h.r1,aFy v.l x hok h.valid,aQe _ _,aVl hok (show x.a+x.n<=v.n by omega) h.valid h.ins,bEj h.perm hs⟩
theorem Vol.ok.cut {N:Nat} {v:Vol} (h:v.ok N) {p n:Int} (hp:inB p n v.n=true):dW p n 65536=true/\(v.set (fV v.l p n)).ok N:=by
 obtain⟨h1,h2,h3,h4⟩:=(iN _ _ _).1 hp;have hn:=h.n2;exact⟨decide_eq_true (by omega),h.name,h.n1,h.n2,h.r0,h.r1,aWf v.l p n h2 h.valid,bEx _ _ _ h2 h.valid,aVm _ _ h2 h.valid h.ins,bEl _ _ h2 h.valid h.perm⟩
theorem aKe {F:Fam} (h:F.ok) (nm:List UInt8) (n r:Int):(aU F nm n r).1.ok:=by
 unfold aU
 split
 ·exact iF
 ·rename_i h1
  split
  ·exact iF
  ·rename_i h2
   split
   ·exact iF
   ·rename_i h3
    simp only[Bool.not_eq_false,Bool.and_eq_true]at h1;obtain⟨q1,q2,q3,q4⟩:1<=n/\n<=65536/\0<=r/\r<=n:=of_decide_eq_true h1.2;refine h.add (v:=⟨nm,n,r,[]⟩) ⟨h1.1,q1,q2,q3,q4,rfl,rfl,fun x hx=>by simp at hx,rfl⟩ (by simpa using h2) (by omega)
theorem aQb {F:Fam} (h:F.ok) (nm other:List UInt8):(bJ F nm other).1.ok:=by
 unfold bJ
 split
 ·exact iF
 ·rename_i v hv
  have hk:=h.vol v (aH hv).1
  split
  ·exact iF
  ·rename_i h1
   split
   ·exact iF
   ·rename_i h2
    split
    ·exact iF
    ·rename_i h3
     exact h.add (v:=⟨other,v.n,0,v.l⟩) ⟨by simpa using h1,hk.n1,hk.n2,Int.le_refl _,by have:=hk.n1;show(0:Int)<=v.n;omega,hk.valid,hk.norm,hk.ins,hk.perm⟩ (by simpa using h2) (by omega)
theorem xD {F:Fam} (h:F.ok) (nm:List UInt8):(bC F nm).1.ok:=by
 unfold bC
 split
 ·exact iF
 ·exact h.del nm
theorem nH {F:Fam} (h:F.ok) (nm:List UInt8) (x:E):(aQ F nm x).1.ok:=by
 unfold aQ
 split
 ·exact iF
 ·rename_i v hv
  obtain⟨h1,h2⟩:=aH hv
  split
  ·exact iF
  ·rename_i hx
   exact h.with ((h.vol v h1).put h.hN (by simpa using hx)).2 (w:=v) (by show aP F.vs v.nm=_;rw[h2];exact hv)
theorem aAg {F:Fam} (h:F.ok) (nm:List UInt8) (p n:Int):(bY F nm p n).1.ok:=by
 unfold bY
 split
 ·exact iF
 ·rename_i v hv
  obtain⟨h1,h2⟩:=aH hv
  split
  ·exact iF
  ·rename_i hx
   exact h.with ((h.vol v h1).cut (by simpa using hx)).2 (w:=v) (by show aP F.vs v.nm=_;rw[h2];exact hv)
theorem aHu {F:Fam} (h:F.ok) {v:Vol} (hv:aP F.vs v.nm=some v):eZ F.C v.l (-1)=(⟨F.N,bP F.vs v.nm⟩:Fam).C:=by
 have hk:=h.vol v (aH hv).1;refine xV (fun u hu=>(h.vol u (gM.1 hu).1).perm) (by rw[eY,F.bMs]) fun i hi=> ?_;rw[mM v.l (-1) _ (by rw[F.bMs];exact hk.perm) i (by rw[F.bMs];exact hi),h.get i hi,<-qX h.sorted hv i];show _=jB (bP F.vs v.nm) i;omega
theorem aNh {F:Fam} (h:F.ok) {v:Vol} (hv:aP F.vs v.nm=some v):bT (gZ (eZ F.C v.l (-1)) v.l)=dS F ⟨F.N,bP F.vs v.nm⟩:=by
 have hk:=h.vol v (aH hv).1;rw[aRf F.C v.l (by rw[F.bMs];exact h.hN) (by rw[F.bMs];exact hk.perm) fun i hi=>(pY.1 h.range i hi).1,aHu h hv,F.bMs];rfl
theorem aLm {F:Fam} (h:F.ok) {v:Vol} (hv:v∈F.vs) {u:Vol} (hu:aP F.vs u.nm=none) (hl:u.l=v.l):eZ F.C v.l 1=(⟨F.N,eB F.vs u⟩:Fam).C:=by
 have hk:=h.vol v hv;refine xV (fun w hw=> ?_) (by rw[eY,F.bMs]) fun i hi=> ?_
 ·rcases eF.1 hw with rfl|hw
  ·rw[hl];exact hk.perm
  ·exact(h.vol w hw.1).perm
 ·rw[mM v.l 1 _ (by rw[F.bMs];exact hk.perm) i (by rw[F.bMs];exact hi),h.get i hi,aAz h.sorted,oQ hu,hl];omega
theorem aHv {F:Fam} (h:F.ok) {u:Vol} (hu:aP F.vs u.nm=none) (hl:u.l=[]):F.C=(⟨F.N,eB F.vs u⟩:Fam).C:=by
 refine xV (fun w hw=> ?_) F.bMs fun i hi=> ?_
 ·rcases eF.1 hw with rfl|hw
  ·rw[hl];rfl
  ·exact(h.vol w hw.1).perm
 ·rw[h.get i hi,aAz h.sorted,oQ hu,hl];simp[cnt]
section
variable {F:Fam} {v:Vol} {l':List E}
theorem aCq (h:F.ok) (hv:aP F.vs v.nm=some v) (i:Nat):jB (F.with (v.set l')).vs i+cnt v.l i=jB F.vs i+cnt l' i:=by
 have h1:=aAz h.sorted (v.set l') i;have h2:=qX h.sorted hv i;show jB (eB F.vs (v.set l')) i+_=_;rw[h1,<-h2];show cnt l' i+jB (bP F.vs v.nm) i+_=_;omega
theorem aJz (h:F.ok) (hp:aS F.N l'=true):∀ w∈(F.with (v.set l')).vs,aS F.N w.l=true:=fun w hw=>by
 rcases eF.1 hw with rfl|hw
 ·exact hp
 ·exact(h.vol w hw.1).perm
theorem aSi (h:F.ok) (hv:aP F.vs v.nm=some v) {C:List Int} {old:List E} (hC:C.length=F.N) (hold:aS F.N old=true) (hp:aS F.N l'=true) (hi:∀ i,i<F.N->C.getD i 0-cnt old i=jB F.vs i+cnt l' i-cnt v.l i):eZ C old (-1)=(F.with (v.set l')).C:=by
 refine xV (aJz h hp) (by rw[eY,hC];rfl) fun i hi'=> ?_;have hi':i<F.N:=hi';rw[mM old (-1) C (by rw[hC];exact hold) i (by omega)];have:=hi i hi';have:=aCq h hv (l':=l') i;omega
theorem aHj (h:F.ok) {C:List Int} {old:List E} (hC:C.length=F.N) (hold:aS F.N old=true) (hc:eZ C old (-1)=(F.with (v.set l')).C) (h0:∀ i,i<F.N->0<=C.getD i 0)
  (hz:∀ i,i<F.N->(F.with (v.set l')).C.getD i 0=0->(0<C.getD i 0↔0<F.C.getD i 0)):bT (gZ (eZ C old (-1)) old)=dS F (F.with (v.set l')):=by
 rw[aRf C old (by rw[hC];exact h.hN) (by rw[hC];exact hold) (fun i hi=>h0 i (by omega)),hc,hC];unfold dS;rw[vO _ (mW F.C (F.with (v.set l')).C) F.N fun i hi=> ?_];unfold mW;by_cases hz':(F.with (v.set l')).C.getD i 0=0
 ·have:=hz i hi hz';by_cases h1:0<C.getD i 0
  ·rw[decide_eq_true h1,decide_eq_true (this.1 h1)]
  ·rw[decide_eq_false h1,decide_eq_false fun h2=>h1 (this.2 h2)]
 ·rw[decide_eq_false hz'];rfl
end
theorem bCe {F:Fam} (h:F.ok) {v:Vol} (hv:aP F.vs v.nm=some v) {p n:Int} (hp:inB p n v.n=true):
  aS F.N (inL v.l p n)=true/\eZ F.C (inL v.l p n) (-1)=(F.with (v.set (fV v.l p n))).C/\bT (gZ (eZ F.C (inL v.l p n) (-1)) (inL v.l p n))=dS F (F.with (v.set (fV v.l p n))):=by
 have hk:=h.vol v (aH hv).1;obtain⟨hw,hk'⟩:=hk.cut hp;have h1:=aEq p n hk.perm;have h2:=aSi h hv (l':=fV v.l p n) F.bMs h1 hk'.perm fun i hi=>by
  rw[h.get i hi,<-aXy v.l p n i hw hk.valid];omega
 exact⟨h1,h2,aHj h F.bMs h1 h2 (fun i hi=>(pY.1 h.range i (by rw[F.bMs];exact hi)).1) fun i hi _=>Iff.rfl⟩
theorem aWp {F:Fam} (h:F.ok) {v:Vol} (hv:aP F.vs v.nm=some v) {x:E} (hx:(inB x.a x.n v.n&&qN F.N x)=true):
  aS F.N [x]=true/\aS F.N (inL v.l x.a x.n)=true/\eZ (eZ F.C [x] 1) (inL v.l x.a x.n) (-1)=(F.with (v.set (bK v.l x))).C/\
   bT (gZ (eZ (eZ F.C [x] 1) (inL v.l x.a x.n) (-1)) (inL v.l x.a x.n))=dS F (F.with (v.set (bK v.l x))):=by
 have hk:=h.vol v (aH hv).1;obtain⟨hok,hk'⟩:=hk.put h.hN hx;have hs:1<=x.n/\0<=x.s/\x.s+x.n<=F.N:=of_decide_eq_true (Bool.and_eq_true _ _ ▸ hx).2;have h0:aS F.N [x]=true:=(aO _ _).2 fun y hy=>by simp at hy;rw[hy];exact hs
 have h1:=aEq x.a x.n hk.perm;have hl:(eZ F.C [x] 1).length=F.N:=by rw[eY,F.bMs]
 have hg:∀ i,i<F.N->(eZ F.C [x] 1).getD i 0=jB F.vs i+uJ x i:=fun i hi=>by
  rw[mM [x] 1 _ (by rw[F.bMs];exact h0) i (by rw[F.bMs];exact hi),h.get i hi,mJ];omega
 have hX:∀ i,0<=uJ x i:=fun i=>by unfold uJ;split <;> omega
 have h2:=aSi h hv (l':=bK v.l x) hl h1 hk'.perm fun i hi=>by
  rw[hg i hi];have:=aEw v.l x i hok hk.valid;omega
 refine⟨h0,h1,h2,aHj h hl h1 h2 (fun i hi=> ?_) fun i hi hz=> ?_⟩
 ·rw[hg i hi];have:=(uK F.vs i 65536 fun v hv=>(h.vol v hv).short.1).1;have:=hX i;omega
 ·rw [hg i hi,h.get i hi];have hz':jB (F.with (v.set (bK v.l x))).vs i=0:=by
   rw[<-hz];exact(qL _ _ (aJz h hk'.perm) i hi).symm
  have q1:=aCq h hv (l':=bK v.l x) i;have q2:=aEw v.l x i hok hk.valid;have q3:=(uK (F.with (v.set (bK v.l x))).vs i 65536 fun w hw=>by
   rcases eF.1 hw with rfl|hw
   ·exact hk'.short.1
   ·exact(h.vol w hw.1).short.1).1
  have q4:0<=jB (bP F.vs v.nm) i:=(uK _ i 65536 fun w hw=>(h.vol w (gM.1 hw).1).short.1).1;have q5:=aAz h.sorted (v.set (bK v.l x)) i;have q6:cnt (bK v.l x) i=0:=by
   have:=(bZ (bK v.l x) i).1;have q7:jB (F.with (v.set (bK v.l x))).vs i=cnt (bK v.l x) i+jB (bP F.vs v.nm) i:=q5;omega
  have q8:uJ x i=0:=by
   have q9:cnt (aJ v.l 0 x.a++([x]++aJ v.l (x.a+x.n) 65536)) i=0:=by
    refine(aAy _ i fun y hy=> ?_).symm.trans q6;simp only[List.mem_append,List.mem_singleton]at hy;rcases hy with hy|rfl|hy
    ·exact dH v.l _ _ (aK hk.valid) y hy
    ·exact hok
    ·exact dH v.l _ _ (aK hk.valid) y hy
   rw[gF,gF,mJ]at q9;have:=(bZ (aJ v.l 0 x.a) i).1;have:=(bZ (aJ v.l (x.a+x.n) 65536) i).1;have:=hX i;omega
  omega
end Go.Proofs.YtaiklhbakldfhaaGreat
