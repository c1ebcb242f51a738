/- The world after more memory was made: 'w.next u'. A region whose operations read old memory and call.. Conditions: as each theorem says. -/
import Derived.WalkSpells
import Derived.WalkLawsBesides
import Derived.BigQuiet
import Derived.StillTailTactics
set_option linter.unusedSimpArgs false
set_option linter.unusedVariables false
set_option maxRecDepth 100000
set_option maxHeartbeats 16000000
namespace Go
instance:Coe Int Value:=⟨λn=> .int .i64 n⟩
instance:Coe Nat Value:=⟨λn=> .int .i64 n⟩
instance:Coe Bool Value:=⟨.bool⟩
instance:Coe World Nat:=⟨λw=>w.heap.size⟩
instance{α:Type}:CoeOut (List α) Nat:=⟨List.length⟩
instance:Coe Int (Option Value):=⟨λn=>some (.int .i64 n)⟩
instance:Coe Nat (Option Value):=⟨λn=>some (.int .i64 n)⟩
structure KVq where
 n:Nat
def oo:KVq:=⟨0⟩
def ol:KVq:=⟨1⟩
def ow:KVq:=⟨2⟩
def sn:KVq:=⟨3⟩
instance:CoeDep KVq oo Value:=⟨.int .i64 0⟩
instance:CoeDep KVq ol Value:=⟨.int .i64 1⟩
instance:CoeDep KVq ow Value:=⟨.int .i64 2⟩
instance:CoeDep KVq sn Value:=⟨.slice none 0 0⟩
instance:CoeDep KVq oo (Option Value):=⟨some (.int .i64 0)⟩
instance:CoeDep KVq ol (Option Value):=⟨some (.int .i64 1)⟩
instance:CoeDep KVq ow (Option Value):=⟨some (.int .i64 2)⟩
instance:CoeDep KVq sn (Option Value):=⟨some (.slice none 0 0)⟩
def cq(_:Array Value)(_:TypeId):KVq:=⟨4⟩
def cw(_ _:Nat):KVq:=⟨5⟩
instance(b o:Nat):CoeDep KVq (cw b o) Addr:=⟨⟨b,o,none⟩⟩
instance(b o:Nat):CoeDep KVq (cw b o) (Option Addr):=⟨some ⟨b,o,none⟩⟩
instance(a:Array Value)(t:TypeId):CoeDep KVq (cq a t) Obj:=⟨.cells a t⟩
instance:CoeFun World (λ_=>Addr->Option Value):=⟨World.cell?⟩
def cf(_:World):KVq:=⟨6⟩
def ch(_:World):KVq:=⟨7⟩
def ci(_:World):KVq:=⟨8⟩
instance(w:World):CoeDep KVq (cf w) Nat:=⟨w.heap.size+1⟩
instance(w:World):CoeDep KVq (ch w) Nat:=⟨w.heap.size+1+1⟩
instance(w:World):CoeDep KVq (ci w) Nat:=⟨w.heap.size+1+1+1⟩
theorem sh22{P:Prop}(h:P:=by simp only[E.snd,E.longer];omega):P:=h
theorem sh23{P:Prop}(h:P:=by rw[F.aIz];exact hk.perm):P:=h
theorem sh24{P:Prop}(h:P:=by rw[F.aIz];exact hi):P:=h
theorem aGh{P:Prop}(h:P:=by
  simp only[Qn,List.mem_singleton]at hy;rcases hy with hy|rfl|hy
  ·exact dO l _ _ hok y hy
  ·exact hx
  ·exact dO l _ _ hok y hy
  ):P:=h
theorem aAs{P:Prop}(h:P:=by
  rcases Nat.lt_or_ge j n with h|h
  ·exact h
  ·exact absurd hj (tail_waits hs hc hn inv _ i rfl hin hun j h)
  ):P:=h
theorem aGg{P:Prop}(h:P:=by
  have h1':¬ max x.a p<min (x.a+x.n) 65536:=Yh h1;exact Qp oM
  ):P:=h
theorem sh20{P:Prop}(h:P:=by
  unfold bY bT;rw[Qw,Qc,Qc];simp only;omega
  ):P:=h
theorem sh21{P:Prop}(h:P:=by
  have hp':max x.a f<min (x.a+x.n) t:=Qt hp;simp only[bT];omega
  ):P:=h
abbrev OA:=Option Addr
abbrev LU:=List UInt8
abbrev Wd:=World
theorem oM{p:Prop}(h:p:=by omega):p:=h
theorem kR{p:Prop}(h:p:=by kernel_rfl):p:=h
theorem sM{p:Prop}(h:p:=by simp):p:=h
theorem aS{p:Prop}(h:p:=by assumption):p:=h
theorem dE{p:Prop}(h:p:=by decide):p:=h
theorem sO{p:Prop}(h:p:=by simp only;omega):p:=h
theorem pO{p:Prop}(h:p:=by simp;omega):p:=h
theorem bL{p:Prop}(h:p:=by repeat(first|exact Below.refl _ _|assumption|refine Below.aJd ?_ _|refine Below.aIw ?_ _|refine Below.setCell ?_ (by simp) _|refine Below.drew ?_)):p:=h
theorem tG9(n:Nat){p:Prop}(h:p):p:=h
theorem bR{B:Nat}{w:Wd}:RowKit.Below B w w:=RowKit.Below.refl _ _
theorem bQ(w:Wd):RowKit.Below w w w:=RowKit.Below.refl _ _
theorem hD{p:Prop}(h:p):RowKit.Hid p:=h
theorem Calls.m{P:Program}{f:Nat}{args:Array Value}{w:Wd}{R Q:Ending->Wd->Prop}(h:Calls P f args w R)(k:∀e w',R e w'->Q e w'):Calls P f args w Q:=h.mono k
abbrev Qa:= @List.getElem?_eq_getElem
abbrev Qb:= @World.frozen?_setCell
abbrev Qc:= @decide_eq_true_eq
abbrev Qd:= @Bool.and_eq_true
abbrev Qe:= @if_neg
abbrev Qf:= @if_pos
abbrev Qg:= @List.length_append
abbrev Qh:= @List.take_succ_eq_append_getElem
abbrev Qi:= @World.cell?_setCell_same
abbrev Qj:= @World.block_lt_of_cell?
abbrev Qk:= @World.cell?_setCell_other
abbrev Ql:= @List.getD_eq_getElem?_getD
abbrev Qm:= @List.getElem_mem
abbrev Qn:= @List.mem_append
abbrev Qo:= @decide_eq_true
abbrev Qp:= @decide_eq_false
abbrev Qq:= @List.take_of_length_le
abbrev Qr:= @Int.eq_ofNat_of_zero_le
abbrev Qt:= @of_decide_eq_true
abbrev Qu:= @World.ownsRow.alloc
abbrev Qv:= @Option.some.inj
abbrev Qw:= @Bool.eq_iff_iff
abbrev Qx:= @List.getElem?_eq_some_iff
abbrev Qy:= @decide_eq_false_iff_not
abbrev Qz:= @List.eq_nil_of_length_eq_zero
abbrev Ya:= @World.cell?_alloc_lt
abbrev Yb:= @List.pairwise_append
abbrev Yc:= @List.append_assoc
abbrev Yd:= @List.mem_map
abbrev Ye:= @Nat.le_refl
abbrev Yf:= @Nat.zero_le
abbrev Yg:= @bodyPost_ret
abbrev Yh:= @of_decide_eq_false
abbrev Yk:= @List.pairwise_cons
abbrev Yl:= @List.mem_cons
abbrev Ym:= @List.getElem?_append_left
abbrev Yn:= @Array.getElem?_push_size
abbrev Yo:= @Bool.and_eq_false_iff
abbrev Yp:= @List.length_take
abbrev Yr:= @List.mem_map_of_mem
abbrev Ys:= @World.ownsRow.cellAt
abbrev Yt:= @List.length_replicate
abbrev Yu:= @Nat.lt_of_lt_of_le
abbrev Yv:= @Nat.min_eq_left
abbrev Yw:= @List.getElem?_map
abbrev Yx:= @ByteArray.toList_eq
abbrev Yy:= @List.length_map
abbrev Yz:= @List.map_append
abbrev RB(w:World)(v:Value):Ending->World->Prop:=λe w'=>e= .returned v/\RowKit.Below w w w'
theorem RowKit.Hid.o{p:Prop}(h:RowKit.Hid p):p:=h
open Go.RowKit
open Classical in
noncomputable def World.next (w u:Wd):Wd:=if Below w w u then u else w
theorem World.aIy(w u:Wd):Below w w (w.next u):=by
 unfold World.next
 split
 ·assumption
 ·exact bR
theorem World.aJb{w w':Wd}(h:Below w w w'):w.next w'=w':=by
 unfold World.next;rw[Qf h]
theorem World.is_next{w w':Wd}(h:Below w w w'):∃u,w'=w.next u:=⟨w',(World.aJb h).symm⟩
section
variable(w u:Wd)(a:Addr)
theorem World.size_next:w.heap.size<=(w.next u).heap.size:=(World.aIy w u).size
theorem World.cell?_next_lt(h:a.block<w.heap.size):(w.next u).cell? a=w.cell? a:=(World.aIy w u).cell h
theorem World.frozen?_next_lt(h:a.block<w.heap.size):(w.next u).frozen? a=w.frozen? a:=(World.aIy w u).frozen h
@[simp,go_sem] theorem World.cell?_next(h:(w.cell? a).isSome=true):(w.next u).cell? a=w.cell? a:=by
 obtain⟨v,hv⟩:=Option.isSome_iff_exists.1 h;exact World.cell?_next_lt _ _ _ (Qj w a hv)
@[simp,go_sem] theorem World.frozen?_next(h:(w.cell? a).isSome=true):(w.next u).frozen? a=w.frozen? a:=by
 obtain⟨v,hv⟩:=Option.isSome_iff_exists.1 h;exact World.frozen?_next_lt _ _ _ (Qj w a hv)
@[simp,go_sem] theorem World.tape_next:(w.next u).tape=w.tape:=(World.aIy w u).tape
@[simp,go_sem] theorem World.cell?_alloc_is(o:Obj)(h:(w.cell? a).isSome=true):(w.alloc o).cell? a=w.cell? a:=by
 obtain⟨v,hv⟩:=Option.isSome_iff_exists.1 h;exact Ya _ _ _ (Qj w a hv)
@[simp,go_sem] theorem World.frozen?_alloc_is(o:Obj)(h:(w.cell? a).isSome=true):(w.alloc o).frozen? a=w.frozen? a:=by
 obtain⟨v,hv⟩:=Option.isSome_iff_exists.1 h;exact World.frozen?_alloc_old _ _ _ (Nat.ne_of_lt (Qj w a hv))
end
theorem RowKit.Below.keep{w w':Wd}(h:Below w w w'){a:Addr}{v:Value}(hc:w.cell? a=some v):w'.cell? a=some v:=by
 rw[h.cell (Qj w a hc)];exact hc
theorem RowKit.Below.aJc{w w':Wd}(h:Below w w w'){a:Addr}{v:Value}(hc:w.cell? a=some v){b:Bool}(hf:w.frozen? a=b):w'.frozen? a=b:=by
 rw[h.frozen (Qj w a hc)];exact hf
theorem RowKit.Below.on{a w w':Wd}(h:Below a a w)(h':Below w w w'):Below a a w':=h.trans (h'.mono h.size)
theorem RowKit.Below.aIw{a w:Wd}(h:Below a a w)(o:Obj):Below a a (w.alloc o):=h.alloc h.size o
theorem RowKit.Below.aJd{a w:Wd}(h:Below a a w)(u:Wd):Below a a (w.next u):=h.on (World.aIy w u)
theorem RowKit.Below.grow{w W w1:Wd}{row:Option Nat}(h:Below w w W)(hg:W.grownBy w1 row):w.grownBy w1 row:=
 ⟨hg.os.trans h.os,hg.tape.trans h.tape,hg.output.trans h.output,Nat.le_trans h.size hg.size,λk hk hne=>(hg.block k (Yu hk h.size) hne).trans (h.block k hk)⟩
theorem RowKit.Below.aJa{a w w':Wd}{row:Option Nat}(h:Below a a w)(hg:w.grownBy w' row)(hr:∀k,row=some k->a.heap.size<=k):Below a a w':=
 h.grown hg h.size hr
theorem World.drew_next(w:Wd):∃x,w.drew=w.next x:=World.is_next (bR.drew)
section
variable{P:Program}{w:Wd}
theorem DR{id:Nat}{Q:Exit->Act->Wd->Prop}{a:Act}{l:List Oper}(hm:P.follows .mixedOrders=true)(hB:Region.lexB .any l.toArray=true)
  (h:wpQuiet P l.toArray (λw'=>∃n,w'=w.next n) (λa'=>∀w',(∃n,w'=w.next n)->Q .normal a' w') l a):(Code.region id l.toArray true).wp P Q a w:=
 wp_region_quiet (C:=λw'=>∃n,w'=w.next n) hm hB (World.drew_next w) h
theorem Calls.aJb{f:FuncId}{args:Array Value}{n:Wd}{v:Value}
  (h:Calls P f args (w.next n) λe w'=>e= .returned v/\Below (w.next n).heap.size (w.next n) w'):Calls P f args (w.next n) λe w''=>e= .returned v/\ ∃m,w''=w.next m:=
 h.mono λ_ _ ⟨he,hb⟩=>⟨he,World.is_next ((World.aIy w n).trans (hb.mono (World.size_next w n)))⟩
end
section
variable{P:Program}{ops:Array Oper}{md:Region.Mode}{C:Wd->Prop}
def zO(P:Program)(md:Region.Mode)(ops:Array Oper)(C:Wd->Prop)(n:Nat)(L:Array Bool->Act->Prop):Nat->Array Bool->Act->Prop
 |0,listed,a=>L listed a
 | f+1,listed,a=>
  Region.ready md ops listed≠ []/\ ∀i∈Region.ready md ops listed,i<n/\qOp P ops C i (zO P md ops C n L f (listed.setIfInBounds i true)) a
theorem vH{n g:Nat}{L:Array Bool->Act->Prop}{Q':Exit->Act->Wd->Prop}(hL:∀listed a w,C w->L listed a->wpAny P md ops Q' g listed a w):
  ∀(f:Nat) (listed:Array Bool) (a:Act) (w:Wd),C w->zO P md ops C n L f listed a->wpAny P md ops Q' (f+g) listed a w
 |0,listed,a,w,hw,h=>by rw[Nat.zero_add];exact hL _ _ _ hw h
 | f+1,listed,a,w,hw,h=>by
  rw[show f+1+g=(f+g)+1 by omega];exact⟨λh0=>absurd h0 h.1,λi hi=>wpOp_of_qOp hw (λa' w' hw' h'=>vH hL f _ a' w' hw' h') (h.2 i hi).2⟩
theorem FU{n i:Nat}{oi:Oper}{v:Value}{L:Array Bool->Act->Prop}(hi:ops[i]? =some oi)(hsel:∀(j:Nat) (o:Oper) cs b,ops[j]? =some o->o.op≠ .select cs b)
    (hs:Region.sinkB md ops n=true) (hc:Region.chainB md ops n=true) (hn:n<ops.size) (hin:i<n)
    (hdone:∀listed a,L listed a-> ∀j∈Region.ready md ops listed,n<=j):
    ∀(f:Nat) (listed:Array Bool) (a:Act),HeadInv md ops n listed->
      (∀j oj,ops[j]? =some oj->j≠i->listed.getD j true=false->(∀e∈oj.after,Region.binds md e=true->e.on≠i)->oi.apart ops oj=true)->
      i∈Region.ready md ops listed->YieldsIn P ops C oi v a->
      zO P md ops C n L f (listed.setIfInBounds i true) (a.put oi.dst v)->zO P md ops C n L (f+1) listed a:=by
  intro f
  induction f with
  | zero=>
    intro listed a inv _ hr hy H;have hun:=(mem_ready.1 hr).1;refine⟨λh=>(by rw[h]at hr;cases hr),λj hj=> ?_⟩;have hjn:j<n:=by
      exact aAs
    refine⟨hjn,?_⟩;by_cases hji:j=i
    · subst hji;exact hy.qOp hi H
    · have:=hdone _ _ H j (ready_mono hj hji);omega
  | succ f ih=>
    intro listed a inv hfree hr hy H;have hun:=(mem_ready.1 hr).1;refine⟨λh=>(by rw[h]at hr;cases hr),λj hj=> ?_⟩;have hjn:j<n:=by
      exact aAs
    refine⟨hjn,?_⟩;by_cases hji:j=i
    · subst hji;exact hy.qOp hi H
    · have h1:=(H.2 j (ready_mono hj hji)).2;obtain⟨hjun,oj,hoj,hall⟩:=mem_ready.1 hj;have hnot:∀e∈oj.after,Region.binds md e=true->e.on≠i:=λe he hb heq=>by
        have h1:=hall e he hb;rw[heq,getD_both hun]at h1;cases h1
      have h2:=qOp_put hoj (hfree j oj hoj hji hjun hnot) (λcs b=>hsel i oi cs b hi) (λcs b=>hsel j oj cs b hoj) hy h1;have hfree':∀k ok,ops[k]? =some ok->k≠i->(listed.setIfInBounds j true).getD k true=false->
          (∀e∈ok.after,Region.binds md e=true->e.on≠i)->oi.apart ops ok=true:=λk ok hk hki hun hno=>by
        refine hfree k ok hk hki ?_ hno;by_cases hjk:j=k
        · subst hjk;exact hjun
        · rw[getD_set_ne true hjk]at hun;exact hun
      refine qOp_mono (λa' h3=>ih (listed.setIfInBounds j true) a' (inv.set hj hjn) hfree' (ready_mono hr (Ne.symm hji)) h3.1 ?_) h2;rw[Array.setIfInBounds_comm _ _ hji];exact h3.2
theorem Ck{n g:Nat}{Lq:Act->Prop}(hsel:Region.noSelect ops=true)(hs:Region.sinkB md ops n=true)(hc:Region.chainB md ops n=true)(hn:n<ops.size):
  ∀(l:List Oper) (k:Nat) (listed:Array Bool) (a:Act),(∀j,j<l.length->l[j]? =ops[k+j]?)->k+l.length=n->HeadInv md ops n listed->
  Region.lexHead md ops g l.length k listed=true->wpQuiet P ops C Lq l a->
  zO P md ops C n (λlisted' a'=>Region.seqB md ops g n listed'=true/\Lq a') l.length listed a
 | [],k,listed,a,_,hk,_,hB,h=>by
  have:k=n:=by simpa using hk
  subst this;exact⟨by simpa [Region.lexHead]using hB,h⟩
 | o::l,k,listed,a,hl,hk,inv,hB,h=>by
  have h0:ops[k]? =some o:=by simpa using (hl 0 sM).symm
  simp only[List.length_cons,Region.lexHead,Qd]at hB;obtain⟨⟨hr,hf⟩,hB'⟩:=hB;have hkn:k<n:=by simp only[List.length_cons]at hk;omega
  have hr':k∈Region.ready md ops listed:=by simpa using hr
  have hst:qOp P ops C k (wpQuiet P ops C Lq l) a:=by unfold qOp;simp only[h0];exact h
  obtain ⟨v,hy,hK⟩:=yieldsIn_of_qOp h0 hst;exact FU h0 (Region.noSelect_spec hsel) hs hc hn hkn (λlisted' a' hL=>seqB_ready hL.1) l.length listed a inv (Region.free_spec h0 hf) hr' hy
   (Ck hsel hs hc hn l (k+1) _ _ (λj hj=>by have:=hl (j+1) pO;simpa [Nat.add_assoc,Nat.add_comm 1 j]using this) (by simp only[List.length_cons]at hk;omega) (inv.set hr' hkn) hB' hK)
theorem vG{id:Nat}{Q:Exit->Act->Wd->Prop}{a:Act}{w:Wd}{l:List Oper}(n:Nat)(hm:P.follows .mixedOrders=true)(hB:Region.lexTailB .any l.toArray n=true)
  (hC:C {w with drawn:=w.drawn+1})
  (h:wpQuiet P l.toArray C (λa'=>∀w',C w'->wpList P l.toArray Q (l.drop n) a' w') (l.take n) a):(Code.region id l.toArray true).wp P Q a w:=by
 simp only[Region.lexTailB,Qd,Qc]at hB;obtain⟨⟨⟨⟨hsel,hn⟩,hs⟩,hc⟩,hlex⟩:=hB;have hn':n<l.length:=by simpa using hn
 have htl:(l.take n).length=n:=by simp;omega
 have hdl:(l.drop n).length=l.toArray.size-n:=by simp
 have inv0:HeadInv .any l.toArray n (Array.replicate l.toArray.size false):=
  ⟨sM,λj oj _ hl=>(by rw[getD_replicate_false]at hl;cases hl),λt _ ht=>getD_in (by simpa using ht) (getD_replicate_false _ _)⟩
 have H:=Ck (C:=C) (md:= .any) (g:=l.toArray.size-n) hsel hs hc hn (l.take n) 0 _ a (λj hj=>by
  have hj':j<n:=by rw[htl]at hj;exact hj
  simp[hj']) (by simpa using htl) inv0 (by rw[htl];exact hlex) h
 refine wp_region_any hm ?_;have:=vH (Q':=Q) (g:=l.toArray.size-n) (λlisted a' w' hw' hL=>by
  have:=wpAny_of_seq (md:= .any) (Q':=Q) (l.drop n) n listed a' w' (λj=>by simp[List.getElem?_drop]) (by rw[hdl];exact hL.1) (hL.2 w' hw')
  rwa [hdl]at this) _ _ _ _ hC H
 rw[htl,show n+(l.toArray.size-n)=l.toArray.size by omega]at this;exact this
theorem xW{id:Nat}{Q:Exit->Act->Wd->Prop}{a:Act}{w:Wd}{l:List Oper}(n:Nat)(hm:P.follows .mixedOrders=true)(hB:Region.lexTailB .any l.toArray n=true)
  (h:wpQuiet P l.toArray (λw'=>∃n,w'=w.next n) (λa'=>∀w',(∃n,w'=w.next n)->wpList P l.toArray Q (l.drop n) a' w') (l.take n) a):(Code.region id l.toArray true).wp P Q a w:=
 vG n hm hB (World.drew_next w) h
theorem wpr{w:Wd}{id:Nat}{Q:Exit->Act->Wd->Prop}{a:Act}{l:List Oper}(h:wpQuiet P l.toArray (λw'=>∃n,w'=w.next n) (λa'=>∀w',(∃n,w'=w.next n)->Q .normal a' w') l a)(hm:P.follows .mixedOrders=true:=by kernel_rfl)(hB:Region.lexB .any l.toArray=true:=by kernel_rfl):(Code.region id l.toArray true).wp P Q a w:=
 DR hm hB h
theorem aAe{w:Wd}{id:Nat}{Q:Exit->Act->Wd->Prop}{a:Act}{l:List Oper}(n:Nat)(h:wpQuiet P l.toArray (λw'=>∃n,w'=w.next n) (λa'=>∀w',(∃n,w'=w.next n)->wpList P l.toArray Q (l.drop n) a' w') (l.take n) a)(hm:P.follows .mixedOrders=true:=by kernel_rfl)(hB:Region.lexTailB .any l.toArray n=true:=by kernel_rfl):(Code.region id l.toArray true).wp P Q a w:=
 xW n hm hB h
theorem wqn{w:Wd}{ops:Array Oper}{C:Wd->Prop}{R:Act->Wd->Prop}{a:Act}(h:∀n,R a (w.next n)):wpQuiet P ops C (λa'=>∀w',(∃n,w'=w.next n)->R a' w') [] a:=
 wpQuiet_nil (by rintro _ ⟨n,rfl⟩;exact h n)
end
section
variable{P:Program}(w:Wd)
theorem Ad(base:Nat)(t ty e:TypeId)(i:TypeInfo)(z:Value)(size bytes:Nat)(ht:P.underlying t=some (.slice e))(hi:P.info? e=some i)(hz:i.zero=some z)
  (hsize:i.size=size) (hby:i.bytes=bytes) (hzs:z.cells.size=size) (hsz:0<size)
  (v:Value) (n:Nat) (xs:List Value) (hown:w.ownsRow base e size v n xs)
  (a:Addr) (m c:Nat) (news:List Value) (hl:news.length=m*size) (hnews:∀j u,news[j]? =some u->w.cell? (a.add j)=some u) (h1:∀u∈news,u.oneCell'=true)
  (hbytes:(n+m)*bytes<=140737488355328) (h63:n+m<=maxLen) (hbase:base<=w.heap.size):
  ∃v' w',(Builtin.append_ #[t,t] ty #[v,.slice (some a) m c]).run P w= .ok v' w'/\w'.ownsRow base e size v' (n+m) (xs++news)/\w.grownBy w' v.ownBlock/\
   (v'.ownBlock=v.ownBlock∨v'.ownBlock=some w.heap.size):=by
 obtain⟨v',w',hr,h2,h3,_⟩:=run_append_own (P:=P) w base t ty e i z size bytes ht hi hz hsize hby hzs hsz v n xs hown a m c news hl hnews h1 h63 hbytes hbase;refine⟨v',w',hr,h2,h3,?_⟩;have hsmall:n+m<=9223372036854775807:=by simp only[maxLen]at h63;omega
 rcases hown.2 with ⟨rfl,rfl⟩|⟨g,cap,cur,rfl,hbg,hg,hnc,hcm,hcs,htake⟩
 ·by_cases hm:m=0
  ·subst hm;rcases h2.2 with ⟨rfl,_⟩|⟨g,cap,cur,rfl,hbg,hg,hnc,hcm,hcs,htake⟩
   ·exact .inl rfl
   ·have hn:news=[]:=Qz (by simpa using hl);subst hn;have:(Builtin.append_ #[t,t] ty #[.slice none 0 0,.slice (some a) 0 c]).run P w= .ok (.slice none 0 0) w:=by
     simp[Builtin.append_,run_underlying ht,sizeOf,typeInfo,hi,Builtin.lenOf,Builtin.firstCells,loadCells,loadCellsFrom]
    rw[this]at hr;simp at hr
  ·have hr2:=run_append_nil (P:=P) w t ty e i z ht hi hz a m c news (by rw[hsize];exact hl) hnews oM oM (by rw[hby];have hb:=hbytes;simp only[Nat.zero_add]at hb;omega);rw[hr]at hr2;injection hr2 with e1 e2;rw[e1];exact .inr rfl
 ·by_cases hroom:n+m<=cap
  ·obtain⟨w2,hr2,_⟩:=run_append_fits (P:=P) w base t ty e i size ht hi hsize g n cap xs hown a m c news hl hnews h1 hroom;rw[hr]at hr2;injection hr2 with e1 e2;rw[e1];exact .inl rfl
  ·have holds:∀j u,xs[j]? =some u->w.cell? (((cw g 0):Addr).add j)=some u:=hown.cells (g:=g) rfl;have hr2:=run_append_grow (P:=P) w t ty e i z ht hi hz (cw g 0) n cap xs (by rw[hsize];exact hown.1) holds a m c news (by rw[hsize];exact hl) hnews oM oM (growslice_fits oM (by rw[hby];exact hbytes));rw[hr]at hr2;injection hr2 with e1 e2;rw[e1];exact .inr rfl
theorem aO{ops:Array Oper}{rest:List Oper}{o:Oper}{a:Act}{Q:Exit->Act->Wd->Prop}(hgd:o.guard=none)(s x:Operand)(t:TypeId)
  (ho:o.op= .call {callee:= .builtin .append,args:= #[s,x],argTypes:= #[t,t]})
  (base:Nat) (e:TypeId) (i:TypeInfo) (z:Value) (size bytes:Nat) (ht:P.underlying t=some (.slice e)) (hi:P.info? e=some i) (hz:i.zero=some z)
  (hsize:i.size=size) (hby:i.bytes=bytes) (hzs:z.cells.size=size) (hsz:0<size)
  (v:Value) (n:Nat) (xs:List Value) (hs:a.eval s=v) (hown:w.ownsRow base e size v n xs)
  (ad:Addr) (m c:Nat) (news:List Value) (hx:a.eval x= .slice (some ad) m c) (hl:news.length=m*size) (hnews:∀j u,news[j]? =some u->w.cell? (ad.add j)=some u) (h1:∀u∈news,u.oneCell'=true)
  (hbytes:(n+m)*bytes<=140737488355328) (h63:n+m<=maxLen) (hbase:base<=w.heap.size)
  (h:∀v' w',w'.ownsRow base e size v' (n+m) (xs++news)->w.grownBy w' v.ownBlock->(v'.ownBlock=v.ownBlock∨v'.ownBlock=some w.heap.size)->wpList P ops Q rest (a.put o.dst v') w'):wpList P ops Q (o::rest) a w:=by
 refine wpList_plain hgd λK hK=> ?_;obtain⟨v',w',hr,h2,h3,h4⟩:=Ad (P:=P) w base t o.type e i z size bytes ht hi hz hsize hby hzs hsz v n xs hown ad m c news hl hnews h1 hbytes h63 hbase;unfold Oper.wp execOp;simp only[ho,resolve,invoke,builtin,Sem.run_bind,Sem.run_pure,Result.andThen_ok,List.map_toArray,List.map_cons,List.map_nil,hs,hx,hr];exact hK _ _ (h v' w' h2 h3 h4)
end
def World.source(w:Wd)(size:Nat)(a:OA)(m:Nat)(ys:List Value):Prop:=
 ys.length=m*size/\(∀u∈ys,u.oneCell'=true)/\((a=none/\m=0)∨ ∃ad,a=some ad/\ ∀j u,ys[j]? =some u->w.cell? (ad.add j)=some u)
section
variable{P:Program}(w:Wd)
theorem Di(base:Nat)(t ty e:TypeId)(i:TypeInfo)(size c:Nat)(ht:P.underlying t=some (.slice e))(hi:P.info? e=some i)
  (v:Value) (n:Nat) (xs:List Value) (hown:w.ownsRow base e size v n xs):
  (Builtin.append_ #[t,t] ty #[v,.slice none 0 c]).run P w= .ok v w:=by
 rcases hown.2 with ⟨rfl,rfl⟩|⟨g,cap,cur,rfl,_,_,hnc,_⟩
 ·simp[Builtin.append_,run_underlying ht,sizeOf,typeInfo,hi,Builtin.lenOf,Builtin.firstCells]
 ·simp[Builtin.append_,run_underlying ht,sizeOf,typeInfo,hi,Builtin.lenOf,Builtin.firstCells,hnc,storeCells]
theorem dB{ops:Array Oper}{rest:List Oper}{o:Oper}{a:Act}{Q:Exit->Act->Wd->Prop}(hgd:o.guard=none)(s x:Operand)(t:TypeId)
  (ho:o.op= .call {callee:= .builtin .append,args:= #[s,x],argTypes:= #[t,t]})
  (base:Nat) (e:TypeId) (i:TypeInfo) (z:Value) (size bytes:Nat) (ht:P.underlying t=some (.slice e)) (hi:P.info? e=some i) (hz:i.zero=some z)
  (hsize:i.size=size) (hby:i.bytes=bytes) (hzs:z.cells.size=size) (hsz:0<size)
  (v:Value) (n:Nat) (xs:List Value) (hs:a.eval s=v) (hown:w.ownsRow base e size v n xs)
  (ad:OA) (m c:Nat) (news:List Value) (hx:a.eval x= .slice ad m c) (hsrc:w.source size ad m news)
  (hbytes:(n+m)*bytes<=140737488355328) (h63:n+m<=maxLen) (hbase:base<=w.heap.size)
  (h:∀v' w',w'.ownsRow base e size v' (n+m) (xs++news)->w.grownBy w' v.ownBlock->(v'.ownBlock=v.ownBlock∨v'.ownBlock=some w.heap.size)->wpList P ops Q rest (a.put o.dst v') w'):wpList P ops Q (o::rest) a w:=by
 obtain⟨hl,h1,⟨rfl,rfl⟩|⟨ad,rfl,hnews⟩⟩:=hsrc
 ·refine wpList_plain hgd λK hK=> ?_;have hr:=Di (P:=P) w base t o.type e i size c ht hi v n xs hown;have hn:news=[]:=Qz (by simpa using hl);subst hn;unfold Oper.wp execOp;simp only[ho,resolve,invoke,builtin,Sem.run_bind,Sem.run_pure,Result.andThen_ok,List.map_toArray,List.map_cons,List.map_nil,hs,hx,hr];exact hK _ _ (h v w (by simpa using hown) ⟨rfl,rfl,rfl,Ye _,λ_ _ _=>rfl⟩ (.inl rfl))
 ·exact aO w hgd s x t ho base e i z size bytes ht hi hz hsize hby hzs hsz v n xs hs hown ad m c news hx hl hnews h1 hbytes h63 hbase h
end
end Go
namespace Go.Proofs.YtphfgbbbejloaaaGreatDoor
def fA(a n s:Int):Bool:=decide (0<=a/\0<=n/\a<=s/\n<=s-a)
def jY(a n s:Int):Bool:=decide (1<=n)&&(fA a n 65536&&fA s n 65536)
theorem vW(a n s:Int):jY a n s=true↔1<=n/\0<=a/\0<=s/\a+n<=65536/\s+n<=65536:=by grind [jY,fA]
structure E where
 a:Int
 n:Int
 s:Int
def E.wf(x:E):Prop:=(-9223372036854775808<=x.a/\x.a<=9223372036854775807)/\(-9223372036854775808<=x.n/\x.n<=9223372036854775807)/\(-9223372036854775808<=x.s/\x.s<=9223372036854775807)
def wfL(l:List E):Prop:= ∀x∈l,x.wf
def okB(x:E):Bool:=jY x.a x.n x.s
def bD:Int->List E->Bool
 |_,[]=>true
 |e,x::r=>okB x&&(decide (e<=x.a)&&bD (x.a+x.n) r)
def aH(l:List E):Bool:=bD 0 l
theorem DW(l:List E)(x:E):∀e,bD e (l++[x])=(bD e l&&(okB x&&decide ((l.getLast?.map λy=>y.a+y.n).getD e<=x.a))):=by
 induction l with
 |nil=>intro e;simp[bD];rfl
 | cons y r ih=>
  intro e;simp only[List.cons_append,bD,ih,Bool.and_assoc]
  cases r with
  |nil=>simp[bD];rfl
  |cons z r=>simp[List.getLast?_cons]
theorem Cn(l:List E)(k:Nat)(h:k<l.length):aH (l.take (k+1))=(aH (l.take k)&&(okB l[k]&&decide (((l.take k).getLast?.map λy=>y.a+y.n).getD 0<=l[k].a))):=by
 rw[Qh h];exact DW _ _ _
theorem Kc(l:List E)(h:0<l.length):aH (l.take (0+1))=okB l[0]:=by
 rw[Cn l 0 h,Qw];generalize l[0]=x;simp only[List.take_zero,aH,bD,okB,vW,Qd,Bool.true_and,List.getLast?_nil,Option.map_none,Option.getD_none]
 constructor
 ·exactλh=>h.1
 ·exactλh=>⟨h,Qo h.2.1⟩
theorem zR(l:List E)(k:Nat)(h0:k<=0)(h:k<l.length):aH (l.take (k+1))=okB l[k]:=by
 obtain rfl:k=0:=oM
 exact Kc l h
theorem Co(l:List E)(k:Nat)(h:k<l.length)(h0:0<k):aH (l.take (k+1))=(aH (l.take k)&&(okB l[k]&&decide (l[k-1].a+l[k-1].n<=l[k].a))):=by
 rw [Cn l k h];have:(l.take k).getLast? =some l[k-1]:=by
  rw[List.getLast?_eq_getElem?,Yp,Yv (Nat.le_of_lt h),List.getElem?_take,Qf oM,Qa oM]
 rw[this];rfl
theorem Cq(l:List E):∀k,aH l=true->aH (l.take k)=true:=by
 have key:∀(l:List E) k e,bD e l=true->bD e (l.take k)=true:=by
  intro l
  induction l with
  |nil=>intro k e;simp
  | cons x r ih=>
   intro k e h
   cases k with
   |zero=>simp[bD]
   | succ k=>
    simp only[List.take_succ_cons,bD,Qd]at h ⊢;exact⟨h.1,h.2.1,ih _ _ h.2.2⟩
 exactλk h=>key l k 0 h
theorem jW(l:List E)(k:Nat)(h:aH (l.take k)=false):aH l=false:=by grind [aH,Cq]
theorem IW(l:List E):∀e,bD e l=true-> ∀x∈l,okB x=true:=by induction l <;> grind [bD]
theorem aL{l:List E}(h:aH l=true):∀x∈l,okB x=true:=IW l 0 h
theorem aB(x:E):okB x=true↔1<=x.n/\0<=x.a/\0<=x.s/\x.a+x.n<=65536/\x.s+x.n<=65536:=vW _ _ _
theorem Rn{l:List E}{k j:Nat}(h:aH (l.take k)=true)(hj:j<k)(hl:j<l.length):okB l[j]=true:=by
 refine aL h _ ?_;rw[List.mem_iff_getElem?];exact⟨j,by rw[List.getElem?_take,Qf hj];exact Qa hl⟩
def meets(y x:E):Bool:=decide (y.a+y.n=x.a)&&decide (y.s+y.n=x.s)
def E.longer(y:E)(n:Int):E:=⟨y.a,y.n+n,y.s⟩
def fC(l:List E)(x:E):List E:=
 match l.getLast? with
 |some y=>if meets y x then l.dropLast++[y.longer x.n]else l++[x]
 |none=>[x]
def joinL(l:List E):List E:=l.foldl fC []
theorem mR(x:E):fC [] x=[x]:=rfl
theorem dJ(l:List E)(y x:E)(h:meets y x=true):fC (l++[y]) x=l++[y.longer x.n]:=by
 simp[fC,h]
theorem eQ(l:List E)(y x:E)(h:meets y x=false):fC (l++[y]) x=l++[y]++[x]:=by
 simp[fC,h]
theorem fB(l:List E)(h:l≠ []):∃l' y,l=l'++[y]:=⟨l.dropLast,l.getLast h,(List.dropLast_concat_getLast h).symm⟩
theorem tY(l:List E)(x:E):(fC l x).length<=l.length+1:=by
 by_cases h:l=[]
 ·subst h;simp[fC]
 ·obtain⟨l',y,rfl⟩:=fB l h;cases hm:meets y x
  ·rw[eQ _ _ _ hm];simp
  ·rw[dJ _ _ _ hm];simp
theorem La(l:List E)(x:E)(hl:∀y∈l,okB y=true)(hx:okB x=true):∀y∈fC l x,okB y=true:=by
 by_cases h:l=[]
 ·subst h;intro y hy;simp[fC]at hy;rw[hy];exact hx
 ·obtain ⟨l',z,rfl⟩:=fB l h;intro y hy;cases hm:meets z x
  ·rw[eQ _ _ _ hm]at hy;rcases Qn.1 hy with hy|hy
   ·exact hl y hy
   ·simp at hy;rw[hy];exact hx
  ·rw[dJ _ _ _ hm]at hy;rcases Qn.1 hy with hy|hy
   ·exact hl y (List.mem_append_left _ hy)
   ·simp at hy;rw[hy];have h1:=hl z sM;simp only[meets,Qd,Qc]at hm;rw[aB]at h1 hx ⊢;simp only[E.longer];omega
theorem dR(l:List E)(x:E):joinL (l++[x])=fC (joinL l) x:=by simp[joinL]
theorem EA(l:List E)(k:Nat)(h:k<l.length):joinL (l.take (k+1))=fC (joinL (l.take k)) l[k]:=by
 rw[Qh h,dR]
theorem gG{P:List E->Prop}(h0:P [])(h1:∀l x,P l->P (l++[x]))(l:List E):P l:=by
 have:∀n (l:List E),l.length=n->P l:=by
  intro n
  induction n with
  |zero=>intro l hl;rw[Qz hl];exact h0
  | succ n ih=>
   intro l hl;obtain⟨l',y,rfl⟩:=fB l (by intro e;rw[e]at hl;simp at hl);exact h1 _ _ (ih _ (by simp at hl;omega))
 exact this _ l rfl
theorem iV(l:List E):(joinL l).length<=l.length:=by
 induction l using gG with
 |h0=>simp[joinL]
 | h1 l x ih=>
  rw[dR];have:=tY (joinL l) x;simp;omega
theorem EB(l:List E):(∀x∈l,okB x=true)-> ∀x∈joinL l,okB x=true:=by
 induction l using gG with
 |h0=>intro _ x hx;simp[joinL]at hx
 | h1 l x ih=>
  intro h;rw[dR];exact La _ _ (ih λy hy=>h y (List.mem_append_left _ hy)) (h x sM)
def aR(l:List E):Int:=(l.map E.n).sum
theorem BP(l:List E)(k:Nat)(h:k<l.length):aR (l.take (k+1))=aR (l.take k)+l[k].n:=by
 rw[Qh h];unfold aR;rw[Yz,List.sum_append];simp
theorem yY(l:List E)(h:∀x∈l,okB x=true):0<=aR l/\aR l<=65536*l.length:=by
 induction l with
 |nil=>simp[aR]
 | cons x r ih=>
  have h1:=(aB x).1 (h x sM);have h2:=ih λy hy=>h y (by simp[hy]);have e:aR (x::r)=x.n+aR r:=by simp[aR]
  rw[e];simp only[List.length_cons];omega
def hits(p:Int)(x:E):Bool:=decide (x.a<=p)&&decide (p<x.a+x.n)
def fU(l:List E)(p:Int):Int:=((l.find? (hits p)).map λx=>x.s+p-x.a).getD 0
def fI(l:List E)(p:Int):Bool:=(l.find? (hits p)).isSome
theorem UK(l:List E)(p:Int)(k:Nat)(h:k<l.length)(h0:(l.take k).find? (hits p)=none):(hits p l[k]=false->(l.take (k+1)).find? (hits p)=none)/\(hits p l[k]=true->l.find? (hits p)=some l[k]):=by
 refine⟨λh1=> ?_,λh1=> ?_⟩
 ·rw[Qh h,List.find?_append,h0];simp[h1]
 ·have:l.find? (hits p)=(l.take k++l[k]::l.drop (k+1)).find? (hits p):=by rw[<-List.drop_eq_getElem_cons h,List.take_append_drop]
  rw[this,List.find?_append,h0,Option.none_or,List.find?_cons_of_pos h1]
def xS(l:List E):Int:=if aH l then aR l else 0
def Mw(l:List E)(p:Int):Int:=if aH l then fU l p else 0
def Mv(l:List E)(p:Int):Bool:=aH l&&fI l p
theorem QW{l:List E}(h:aH l=false):xS l=0:=by simp[xS,h]
theorem Db{l:List E}(h:aH l=true):xS l=aR l:=by simp[xS,h]
theorem Za{l:List E}(p:Int)(h:aH l=false):Mw l p=0:=by simp[Mw,h]
theorem Iq{l:List E}(p:Int)(h:aH l=true):Mw l p=fU l p:=by simp[Mw,h]
theorem YZ{l:List E}(p:Int)(h:aH l=false):Mv l p=false:=by simp[Mv,h]
theorem Ip{l:List E}(p:Int)(h:aH l=true):Mv l p=fI l p:=by simp[Mv,h]
def bT(x:E)(f t:Int):E:=⟨max x.a f,min (x.a+x.n) t-max x.a f,x.s+max x.a f-x.a⟩
def bY(x:E)(f t:Int):Bool:=decide (max x.a f<min (x.a+x.n) t)
theorem Lj(x:E)(f t:Int)(hx:okB x=true)(hp:bY x f t=true):okB (bT x f t)=true:=by grind [aB,bY,bT]
def tZ(b:Bool)(l:List E)(x:E):List E:=if b then fC l x else l
def JD(p n:Int)(acc:List E)(x:E):List E:=tZ (bY x (p+n) 65536) (tZ (bY x 0 p) acc (bT x 0 p)) (bT x (p+n) 65536)
def EF(p n:Int)(acc:List E)(x:E):List E:=tZ (bY x p (p+n)) acc (bT x p (p+n))
def gD(l:List E)(p n:Int):List E:=l.foldl (JD p n) []
def inL(l:List E)(p n:Int):List E:=l.foldl (EF p n) []
theorem FY(b:Bool)(l:List E)(x:E):(tZ b l x).length<=l.length+1:=by grind [tZ,tY]
theorem TT(b:Bool)(l:List E)(x:E)(hl:∀y∈l,okB y=true)(hx:b=true->okB x=true):∀y∈tZ b l x,okB y=true:=by grind [tZ,La]
theorem mV(l:List E)(p n:Int):(∀x∈l,okB x=true)->(inL l p n).length<=l.length/\ ∀x∈inL l p n,okB x=true:=by
 induction l using gG with
 |h0=>simp[inL]
 | h1 l x ih=>
  intro h;obtain⟨h1,h2⟩:=ih λy hy=>h y (List.mem_append_left _ hy);have hx:=h x sM;have e:inL (l++[x]) p n=EF p n (inL l p n) x:=by simp[inL]
  rw[e];refine⟨?_,?_⟩
  ·unfold EF;have a1:=FY (bY x p (p+n)) (inL l p n) (bT x p (p+n));simp;omega
  ·exact TT _ _ _ h2 λhp=>Lj _ _ _ hx hp
def aI(l:List E)(f t:Int):List E:=(l.filter λx=>bY x f t).map λx=>bT x f t
theorem rE(l:List E)(x:E)(f t:Int):aI (l++[x]) f t=if bY x f t then aI l f t++[bT x f t]else aI l f t:=by unfold aI;grind
theorem Li(l:List E)(f t:Int)(k:Nat)(h:k<l.length):aI (l.take (k+1)) f t=if bY l[k] f t then aI (l.take k) f t++[bT l[k] f t]else aI (l.take k) f t:=by
 rw[Qh h,rE]
theorem bV(l:List E)(f t:Int):(aI l f t).length<=l.length:=by unfold aI;grind
theorem dO(l:List E)(f t:Int)(h:∀x∈l,okB x=true):∀x∈aI l f t,okB x=true:=by grind [aI,Lj]
theorem E.ext'{x y:E}(h1:x.a=y.a)(h2:x.n=y.n)(h3:x.s=y.s):x=y:=by
 cases x;cases y;simp_all
theorem nD(l:List E):∀e,bD e l=true↔(∀x∈l,okB x=true)/\l.Pairwise (λx y=>x.a+x.n<=y.a)/\ ∀x∈l,e<=x.a:=by
 induction l with
 |nil=>intro e;simp[bD]
 | cons x r ih=>
  intro e;simp only[bD,Qd,Qc,ih,Yk,Yl,forall_eq_or_imp]
  constructor
  ·rintro⟨h1,h2,h3,h4,h5⟩;have:=(aB x).1 h1;exact⟨⟨h1,h3⟩,⟨h5,h4⟩,h2,λy hy=>by have:=h5 y hy;omega⟩
  ·rintro⟨⟨h1,h3⟩,⟨h5,h4⟩,h2,_⟩;exact⟨h1,h2,h3,h4,h5⟩
theorem bP(l:List E):aH l=true↔(∀x∈l,okB x=true)/\l.Pairwise (λx y=>x.a+x.n<=y.a):=by grind [aH,nD,aB]
theorem gL(l:List E)(f t:Int)(h:aH l=true):aH (aI l f t)=true:=by
 rw[bP]at h ⊢;refine⟨dO l f t h.1,?_⟩;unfold aI;rw[List.pairwise_map];have h2:(l.filter λx=>bY x f t).Pairwise (λx y=>x.a+x.n<=y.a):=h.2.sublist List.filter_sublist;refine h2.imp_of_mem ?_;intro x y hx hy hxy;have k1:=(List.mem_filter.1 hx).2;have k2:=(List.mem_filter.1 hy).2;simp only[bY,Qc,bT]at *;omega
theorem gZ(l:List E)(f t:Int):∀x∈aI l f t,f<=x.a/\x.a+x.n<=t:=by grind [aI,bY,bT]
theorem iT(l:List E)(f t g u:Int)(h:aH l=true)(htg:t<=g):aH (aI l f t++aI l g u)=true:=by
 have h1:=(bP _).1 (gL l f t h);have h2:=(bP _).1 (gL l g u h);rw[bP];refine⟨λx hx=> ?_,?_⟩
 ·rcases Qn.1 hx with hx|hx
  ·exact h1.1 x hx
  ·exact h2.1 x hx
 ·rw[Yb];refine⟨h1.2,h2.2,λx hx y hy=> ?_⟩;have a:=gZ l f t x hx;have b:=gZ l g u y hy;omega
theorem wG(l:List E)(p n:Int):inL l p n=joinL (aI l p (p+n)):=by
 induction l using gG with
 |h0=>rfl
 | h1 l x ih=>
  have e:inL (l++[x]) p n=EF p n (inL l p n) x:=by simp[inL]
  rw[e,rE,ih];unfold EF tZ;cases bY x p (p+n)
  ·rfl
  ·simp[dR]
theorem Jg(l:List E)(f t:Int)(h:∀x∈l,x.a+x.n<=f):aI l f t=[]:=by grind [aI,List.map_eq_nil_iff,List.filter_eq_nil_iff,bY]
theorem nI(l:List E)(p n:Int)(hn:0<=n):aH l=true->gD l p n=joinL (aI l 0 p++aI l (p+n) 65536):=by
 induction l using gG with
 |h0=>intro _;rfl
 | h1 l x ih=>
  intro h;rw[bP]at h;have hp:=Yb.1 h.2;have hv:aH l=true:=(bP l).2 ⟨λy hy=>h.1 y (List.mem_append_left _ hy),hp.1⟩;have e:gD (l++[x]) p n=JD p n (gD l p n) x:=by simp[gD]
  rw[e,rE,rE,ih hv];unfold JD tZ;cases h1:bY x 0 p
  ·cases h2:bY x (p+n) 65536
   ·simp
   ·simp only[Bool.false_eq_true,if_false,if_true];rw[<-Yc,dR]
  ·have hr:aI l (p+n) 65536=[]:=Jg l _ _ λy hy=>by
    have:=hp.2.2 y hy x sM;simp only[bY,Qc]at h1;omega
   rw[hr];cases h2:bY x (p+n) 65536
   ·simp[dR]
   ·simp only[if_true,List.append_nil,List.nil_append];rw[dR,dR]
theorem gI(p:Int)(x:E):hits p x=true↔x.a<=p/\p<x.a+x.n:=by
 simp only[hits,Qd,Qc]
theorem gX(y x:E):meets y x=true↔y.a+y.n=x.a/\y.s+y.n=x.s:=by
 simp only[meets,Qd,Qc]
def aF(l:List E)(p:Int):Option Int:=(l.find? (hits p)).map λx=>x.s+p-x.a
theorem dV(l r:List E)(p:Int):aF (l++r) p=(aF l p).or (aF r p):=by unfold aF;grind
theorem jM(x:E)(p:Int):aF [x] p=if hits p x then some (x.s+p-x.a)else none:=by
 unfold aF;cases h:hits p x <;> simp[h]
theorem FW(y x:E)(p:Int)(hy:0<=y.n)(hx:0<=x.n)(hm:meets y x=true):aF [y.longer x.n] p=(aF [y] p).or (aF [x] p):=by grind [meets,jM,hits,gI,E.longer]
theorem Kv(l:List E)(x:E)(p:Int)(hl:∀y∈l,0<=y.n)(hx:0<=x.n):aF (fC l x) p=(aF l p).or (aF [x] p):=by
 by_cases h:l=[]
 ·subst h;simp[fC,aF]
 ·obtain⟨l',y,rfl⟩:=fB l h;cases hm:meets y x
  ·rw[eQ _ _ _ hm,dV]
  ·rw[dJ _ _ _ hm,dV,FW y x p (hl y sM) hx hm,dV,Option.or_assoc]
theorem AL(l:List E)(h:∀x∈l,okB x=true):∀x∈joinL l,0<=x.n:=λx hx=>by
 have:=(aB x).1 (EB l h x hx);omega
theorem nP(l:List E)(p:Int):(∀x∈l,okB x=true)->aF (joinL l) p=aF l p:=by
 induction l using gG with
 |h0=>intro _;rfl
 | h1 l x ih=>
  intro h;have hl:∀y∈l,okB y=true:=λy hy=>h y (List.mem_append_left _ hy);have hx:=(aB x).1 (h x sM);rw[dR,Kv _ _ _ (AL l hl) oM,ih hl,dV]
theorem yP(l:List E)(h:aH l=true)(x:E)(hx:x∈l)(p:Int)(hp:hits p x=true):aF l p=some (x.s+p-x.a):=by
 rw[bP]at h;obtain⟨hok,hpw⟩:=h
 induction l with
 |nil=>cases hx
 | cons y r ih=>
  have hpw':=Yk.1 hpw;rcases Yl.1 hx with rfl|hx
  ·show aF ([x]++r) p=_;rw[dV,jM];simp[hp]
  ·show aF ([y]++r) p=_;rw[dV,jM];have h1:=hpw'.1 x hx;have h2:=(aB y).1 (hok y sM);have hn:hits p y=false:=by
    simp only[hits,Qd,Qc]at hp
    cases hh:hits p y with
    |false=>rfl
    |true=>simp only[hits,Qd,Qc]at hh;omega
   simp[hn];exact ih hx (λz hz=>hok z (by simp[hz])) hpw'.2
theorem GG(l:List E)(k:Nat)(h:k<l.length)(y:E):l.set k y=l.take k++y::l.drop (k+1):=by
 rw[List.set_eq_take_append_cons_drop,Qf h]
theorem Kt(l:List E)(k:Nat)(h:k<l.length):l=l.take k++l[k]::l.drop (k+1):=by simp_all
def E.fst(x:E)(n:Int):E:=⟨x.a,n,x.s⟩
def E.snd(x:E)(n:Int):E:=⟨x.a+n,x.n-n,x.s+n⟩
theorem Aj(R:List E)(x:E)(n:Int):fC (fC R (x.fst n)) (x.snd n)=fC R x:=by
 have hm:meets (x.fst n) (x.snd n)=true:=by simp[meets,E.fst,E.snd]
 have hl:(x.fst n).longer (x.snd n).n=x:=E.ext' rfl (by simp only[E.fst,E.snd,E.longer];omega) rfl;by_cases h:R=[]
 ·subst h;rw[mR,mR];have:=dJ [] (x.fst n) (x.snd n) hm;rw[hl]at this;exact this
 ·obtain ⟨R',y,rfl⟩:=fB R h;have e:meets y (x.fst n)=meets y x:=rfl;cases hy:meets y x
  ·rw[eQ R' y x hy,eQ R' y _ (e.trans hy),dJ _ _ _ hm,hl]
  ·rw [dJ R' y x hy,dJ R' y _ (e.trans hy)];simp only[meets,Qd,Qc]at hy;have hm2:meets (y.longer (x.fst n).n) (x.snd n)=true:=by
    rw[gX];simp only[E.longer,E.fst,E.snd];omega
   rw[dJ _ _ _ hm2];congr 2;simp only[E.longer,E.fst,E.snd];congr 1;omega
def bX(R l:List E):List E:=l.foldl fC R
theorem AO(A B:List E):joinL (A++B)=bX (joinL A) B:=by simp[joinL,bX]
theorem KX(R:List E)(y b:E)(h:meets y b=true):fC (fC R y) b=fC R (y.longer b.n):=by
 rw[gX]at h;have h1:(y.longer b.n).fst y.n=y:=rfl;have h2:(y.longer b.n).snd y.n=b:=E.ext' sh22 sh22 sh22;have:=Aj R (y.longer b.n) y.n;rw[h1,h2]at this;exact this
theorem Jd(R B:List E):bX R (joinL B)=bX R B:=by
 induction B using gG with
 |h0=>rfl
 | h1 B b ih=>
  have e:bX R (B++[b])=fC (bX R B) b:=by simp[bX]
  rw[e,dR];by_cases h:joinL B=[]
  ·rw[h]at ih ⊢;rw[<-ih];rfl
  ·obtain⟨C,y,hc⟩:=fB _ h;rw[hc]at ih ⊢;have e2:bX R (C++[y])=fC (bX R C) y:=by simp[bX]
   rw[e2]at ih;cases hm:meets y b
   ·rw[eQ _ _ _ hm,<-ih];simp[bX]
   ·rw[dJ _ _ _ hm,<-ih,KX _ _ _ hm];simp[bX]
theorem EC(B:List E):joinL (joinL B)=joinL B:=Jd [] B
theorem Py(l:List E)(lo hi:Int):(∀x∈l,0<=x.n)->(∀x∈l,lo<=x.a/\x.a+x.n<=hi)-> ∀x∈joinL l,lo<=x.a/\x.a+x.n<=hi:=by
 induction l using gG with
 |h0=>intro _ _ x hx;simp[joinL]at hx
 | h1 l x ih=>
  intro hn h y hy;have ih':=ih (λz hz=>hn z (List.mem_append_left _ hz)) (λz hz=>h z (List.mem_append_left _ hz));rw[dR]at hy;by_cases h0:joinL l=[]
  ·rw[h0,mR]at hy;simp at hy;subst hy;exact h y sM
  ·obtain ⟨C,z,hc⟩:=fB _ h0;rw[hc]at hy ih';cases hm:meets z x
   ·rw[eQ _ _ _ hm]at hy;rcases Qn.1 hy with hy|hy
    ·exact ih' y hy
    ·simp at hy;subst hy;exact h y sM
   ·rw[dJ _ _ _ hm]at hy;rcases Qn.1 hy with hy|hy
    ·exact ih' y (List.mem_append_left _ hy)
    ·simp at hy;subst hy;have h1:=ih' z sM;have h2:=h x sM;rw[gX]at hm;simp only[E.longer];omega
theorem OD(R:List E)(x:E)(h:aH (R++[x])=true):aH (fC R x)=true:=by
 by_cases h0:R=[]
 ·subst h0;exact h
 ·obtain ⟨C,y,rfl⟩:=fB _ h0;cases hm:meets y x
  ·rw[eQ _ _ _ hm];exact h
  ·rw [dJ _ _ _ hm];have hok:=aL h;have hy:=(aB y).1 (hok y sM);have hx:=(aB x).1 (hok x sM);rw[bP]at h ⊢;obtain⟨h1,h2⟩:=h;rw[gX]at hm;refine⟨λz hz=> ?_,?_⟩
   ·rcases Qn.1 hz with hz|hz
    ·exact h1 z (by simp[hz])
    ·simp at hz;subst hz;rw[aB];simp only[E.longer];omega
   ·have p:=Yb.1 h2;have q:=Yb.1 p.1;refine Yb.2 ⟨q.1,sM,λz hz w hw=> ?_⟩;simp at hw;subst hw;exact q.2.2 z hz y sM
theorem AJ(A B:List E):aH (A++B)=true->aH (joinL A++B)=true:=by
 induction A using gG generalizing B with
 |h0=>exact id
 | h1 A a ih=>
  intro h;rw[dR];have h1:=ih ([a]++B) (by simpa using h);have h2:aH ((joinL A++[a])++B)=true:=by simpa using h1
  by_cases h0:joinL A=[]
  ·rw[h0]at h2 ⊢;exact h2
  ·obtain ⟨C,y,hc⟩:=fB _ h0;rw[hc]at h2 ⊢;cases hm:meets y a
   ·rw[eQ _ _ _ hm];exact h2
   ·rw [dJ _ _ _ hm];have hv:aH (C++[y]++[a])=true:=by
     have:=Cq _ (C++[y]++[a]).length h2;rw[List.take_left]at this;exact this
    have hpv:=OD (C++[y]) a hv;rw[dJ _ _ _ hm]at hpv;rw[bP]at h2 hpv ⊢;have p:=Yb.1 h2.2;refine⟨λz hz=> ?_,Yb.2 ⟨hpv.2,p.2.1,λz hz w hw=> ?_⟩⟩
    ·rcases Qn.1 hz with hz|hz
     ·exact hpv.1 z hz
     ·exact h2.1 z (List.mem_append_right _ hz)
    ·rcases Qn.1 hz with hz|hz
     ·exact p.2.2 z (by simp[hz]) w hw
     ·simp at hz;subst hz;have:=p.2.2 a sM w hw;rw[gX]at hm;simp only[E.longer];omega
theorem yZ(l:List E)(h:aH l=true):aH (joinL l)=true:=by
 have:=AJ l [] (by simpa using h)
 simpa using this
theorem Ga(R l:List E)(hR:∀y∈R,∀x∈l,y.a+y.n<x.a):bX R l=R++joinL l:=by
 induction l using gG with
 |h0=>simp[bX,joinL]
 | h1 l x ih=>
  have e:bX R (l++[x])=fC (bX R l) x:=by simp[bX]
  rw[e,dR,ih λy hy z hz=>hR y hy z (List.mem_append_left _ hz)];by_cases h0:joinL l=[]
  ·rw [h0,mR,List.append_nil];by_cases hr:R=[]
   ·subst hr;rfl
   ·obtain⟨C,y,rfl⟩:=fB R hr;refine eQ _ _ _ ?_;have:=hR y sM x sM
    cases hm:meets y x with
    |false=>rfl
    |true=>rw[gX]at hm;omega
  ·obtain⟨C,y,hc⟩:=fB _ h0;rw[hc,<-Yc];cases hm:meets y x
   ·rw[eQ _ _ _ hm,eQ _ _ _ hm,<-Yc,<-Yc]
   ·rw[dJ _ _ _ hm,dJ _ _ _ hm,<-Yc]
def bM(l:List E)(x:E):List E:=joinL (aI l 0 x.a++([x]++aI l (x.a+x.n) 65536))
theorem Bw(l:List E)(x:E)(hx:okB x=true)(hv:aH l=true):aH (aI l 0 x.a++([x]++aI l (x.a+x.n) 65536))=true:=by
 have hx':=(aB x).1 hx;rw[bP];have v1:=(bP _).1 (gL l 0 x.a hv);have v2:=(bP _).1 (gL l (x.a+x.n) 65536 hv);have r1:=gZ l 0 x.a;have r2:=gZ l (x.a+x.n) 65536;refine⟨λy hy=> ?_,Yb.2 ⟨v1.2,Yb.2 ⟨sM,v2.2,λy hy z hz=> ?_⟩,λy hy z hz=> ?_⟩⟩
 ·rcases Qn.1 hy with hy|hy
  ·exact v1.1 y hy
  ·rcases Qn.1 hy with hy|hy
   ·simp at hy;subst hy;exact hx
   ·exact v2.1 y hy
 ·simp at hy;subst hy;have:=r2 z hz;omega
 ·have a1:=r1 y hy;rcases Qn.1 hz with hz|hz
  ·simp at hz;subst hz;omega
  ·have:=r2 z hz;omega
def Gc(l:List E)(f:E->Bool):Int:=match l.findIdx? f with|some i=>(i:Int)|none=> -1
theorem xI(l:List E)(f:E->Bool)(h:∀x∈l,f x=false):Gc l f= -1:=by
 unfold Gc;rw[List.findIdx?_eq_none_iff.2 h]
theorem Dy(l:List E)(f:E->Bool)(k:Nat)(hk:k<l.length)(h:∀x∈l.take k,f x=false)(hf:f l[k]=true):Gc l f=k:=by
 unfold Gc;have e:l.findIdx? f=(l.take k++l[k]::l.drop (k+1)).findIdx? f:=by rw[<-Kt l k hk]
 rw[e,List.findIdx?_append,List.findIdx?_eq_none_iff.2 h,List.findIdx?_cons,Qf hf];simp only[Option.none_or,Option.map_some,Yp];omega
theorem vC(l:List E)(f:E->Bool)(k:Nat)(hk:k<l.length)(h:∀x∈l.take k,f x=false)(hf:f l[k]=false):∀x∈l.take (k+1),f x=false:=by grind [List.take_succ_eq_append_getElem]
def E.cell(x:E)(i:Nat):E:=⟨x.a+i,1,x.s+i⟩
def E.all(x:E):List E:=(List.range x.n.toNat).map x.cell
theorem El(R A B:List E):bX R (A++B)=bX (bX R A) B:=by simp[bX]
theorem FZ(R:List E)(x:E)(k:Nat):bX R ((List.range (k+1)).map x.cell)=fC R ⟨x.a,k+1,x.s⟩:=by
 induction k with
 |zero=>simp[bX,E.cell]
 | succ k ih=>
  rw[List.range_succ,Yz,El,ih];have h:=Aj R ⟨x.a,((k+1:Nat):Int)+1,x.s⟩ ((k:Int)+1);have e1:(⟨x.a,((k+1:Nat):Int)+1,x.s⟩:E).fst ((k:Int)+1)=⟨x.a,(k:Int)+1,x.s⟩:=rfl;have e2:(⟨x.a,((k+1:Nat):Int)+1,x.s⟩:E).snd ((k:Int)+1)=x.cell (k+1):=E.ext' (by simp[E.snd,E.cell]) (by simp only[E.snd,E.cell];omega) (by simp[E.snd,E.cell]);rw[e1,e2]at h;rw[<-h];simp[bX]
theorem Lb(R:List E)(x:E)(h:1<=x.n):bX R x.all=fC R x:=by
 obtain⟨k,hk⟩:∃k:Nat,x.n=(k:Int)+1:=⟨(x.n-1).toNat,oM⟩;have h1:=FZ R x k;have e1:x.n.toNat=k+1:=oM
 have e2:(⟨x.a,(k:Int)+1,x.s⟩:E)=x:=E.ext' rfl hk.symm rfl;rw[e2]at h1;unfold E.all;rw[e1];exact h1
theorem Ma(l:List E):(∀x∈l,okB x=true)->joinL (l.flatMap E.all)=joinL l:=by
 induction l using gG with
 |h0=>intro _;rfl
 | h1 l x ih=>
  intro h;have hx:=(aB x).1 (h x sM);rw[List.flatMap_append,AO,ih (λy hy=>h y (List.mem_append_left _ hy)),dR];have:List.flatMap E.all [x]=x.all:=by simp
  rw[this];exact Lb _ x oM
theorem RL(l:List E)(h:aH l=true)(e:E):e∈l.flatMap E.all↔e.n=1/\aF l e.a=some e.s:=by
 constructor
 ·intro he;obtain⟨x,hx,he⟩:=List.mem_flatMap.1 he;obtain⟨i,hi,rfl⟩:=Yd.1 he;have hi':=List.mem_range.1 hi;refine⟨rfl,?_⟩;rw[yP l h x hx _ (by rw[gI];simp only[E.cell];omega)];simp only[E.cell,Option.some.injEq];omega
 ·rintro⟨h1,h2⟩;unfold aF at h2;obtain⟨x,hx,hs⟩:=Option.map_eq_some_iff.1 h2;have hm:=List.mem_of_find?_eq_some hx;have hh:=(gI _ _).1 (List.find?_some hx);refine List.mem_flatMap.2 ⟨x,hm,Yd.2 ⟨(e.a-x.a).toNat,List.mem_range.2 oM,?_⟩⟩;exact E.ext' (by simp only[E.cell];omega) (by simp only[E.cell];omega) (by simp only[E.cell];omega)
theorem Ec(l:List E)(h:aH l=true):(l.flatMap E.all).Pairwise (λx y=>x.a<y.a):=by
 rw[bP]at h;rw[List.pairwise_flatMap];refine⟨λx hx=> ?_,h.2.imp_of_mem ?_⟩
 ·unfold E.all;rw[List.pairwise_map];refine(List.pairwise_lt_range).imp ?_;intro i j hij;simp only[E.cell];omega
 ·intro x y hx hy hxy a ha b hb;obtain⟨i,hi,rfl⟩:=Yd.1 ha;obtain⟨j,hj,rfl⟩:=Yd.1 hb;have:=List.mem_range.1 hi;simp only[E.cell];omega
theorem NT(A:List E):∀B:List E,A.Pairwise (λx y=>x.a<y.a)->B.Pairwise (λx y=>x.a<y.a)->(∀e,e∈A↔e∈B)->A=B:=by
 induction A with
 | nil=>
  intro B _ _ h
  cases B with
  |nil=>rfl
  |cons y B=>exact absurd ((h y).2 sM) sM
 | cons x A ih=>
  intro B hA hB h
  cases B with
  |nil=>exact absurd ((h x).1 sM) sM
  | cons y B=>
   obtain ⟨a1,a2⟩:=Yk.1 hA;obtain⟨b1,b2⟩:=Yk.1 hB;have hxy:x=y:=by
    rcases Yl.1 ((h x).1 sM)with e|e
    ·exact e
    ·rcases Yl.1 ((h y).2 sM)with e2|e2
     ·exact e2.symm
     ·have:=a1 y e2;have:=b1 x e;omega
   subst hxy;congr 1;refine ih B a2 b2 λe=>⟨λhe=> ?_,λhe=> ?_⟩
   ·rcases Yl.1 ((h e).1 (by simp[he]))with e2|e2
    ·subst e2;have:=a1 e he;omega
    ·exact e2
   ·rcases Yl.1 ((h e).2 (by simp[he]))with e2|e2
    ·subst e2;have:=b1 e he;omega
    ·exact e2
theorem wE(A B:List E)(hA:aH A=true)(hB:aH B=true)(h:∀p,aF A p=aF B p):joinL A=joinL B:=by
 rw[<-Ma A (aL hA),<-Ma B (aL hB)];congr 1;refine NT _ _ (Ec A hA) (Ec B hB) λe=> ?_;rw[RL A hA,RL B hB,h]
theorem nO(l:List E)(p:Int)(h:∀x∈l,hits p x=false):aF l p=none:=by unfold aF;grind
theorem lQ(l:List E)(f t p:Int):aF (aI l f t) p=if f<=p/\p<t then aF l p else none:=by
 split
 ·rename_i hp
  induction l with
  |nil=>rfl
  | cons x r ih=>
   have e:aF (x::r) p=(aF [x] p).or (aF r p):=dV [x] r p;have e2:aI (x::r) f t=aI [x] f t++aI r f t:=by
    unfold aI;rw[<-Yz,<-List.filter_append];rfl
   rw[e,e2,dV,ih];congr 1;unfold aI;cases hb:bY x f t
   ·simp only[List.filter_cons,hb,List.filter_nil,List.map_nil,if_false,Bool.false_eq_true];rw[jM];rw[Qe]
    ·rfl
    ·rw[gI];simp only[bY,Qy]at hb;omega
   ·simp only[List.filter_cons,hb,List.filter_nil,List.map_nil,if_true,List.map_cons];rw[jM,jM];have e3:hits p (bT x f t)=hits p x:=by
     rw[Qw,gI,gI];simp only[bT];omega
    rw[e3];congr 1;simp only[bT,Option.some.injEq];omega
 ·rename_i hp
  refine nO _ _ λx hx=> ?_;have:=gZ l f t x hx
  cases hh:hits p x with
  |false=>rfl
  |true=>rw[gI]at hh;omega
theorem pF(l:List E)(h:aH l=true)(p:Int)(hp:p<0∨65536<=p):aF l p=none:=
 nO _ _ λx hx=>by
  have:=(aB x).1 (aL h x hx)
  cases hh:hits p x with
  |false=>rfl
  |true=>rw[gI]at hh;omega
theorem qH(l:List E)(p n q:Int)(hp:fA p n 65536=true)(hv:aH l=true):aF (gD l p n) q=if p<=q/\q<p+n then none else aF l q:=by grind [fA,nI,nP,aL,iT,dV,lQ,pF]
theorem Tg(l:List E)(p n q:Int)(hv:aH l=true):aF (inL l p n) q=if p<=q/\q<p+n then aF l q else none:=by grind [wG,nP,aL,gL,lQ]
theorem tV(l:List E)(x:E)(q:Int)(hx:okB x=true)(hv:aH l=true):aF (bM l x) q=if x.a<=q/\q<x.a+x.n then some (x.s+q-x.a)else aF l q:=by grind [aB,bM,nP,aL,Bw,dV,lQ,jM,hits,gI,pF]
theorem Ej(l:List E)(x:E)(hx:okB x=true)(hv:aH l=true):aH (bM l x)=true:=yZ _ (Bw l x hx hv)
theorem QB(l:List E)(p n:Int)(hn:0<=n)(hv:aH l=true):aH (gD l p n)=true:=by grind [nI,yZ,iT]
theorem xH(l:List E)(p n:Int)(hv:aH l=true):aH (inL l p n)=true:=by grind [wG,yZ,gL]
theorem Dh(l:List E):∀e,0<=e->e<=65536->bD e l=true->(l.length:Int)+e<=65536:=by induction l <;> grind [bD,aB,List.length_cons]
theorem nL{l:List E}(h:aH l=true):l.length<=65536:=by
 have:=Dh l 0 oM oM h;omega
def Has(l:List E)(s:Int):Prop:= ∃x∈l,okB x=true/\x.s<=s/\s<x.s+x.n
def Canon(R:List E):Prop:=(∀x∈R,x.a=0/\okB x=true)/\R.Pairwise (λx y=>x.s+x.n<y.s)
def E.plain(x:E):E:=⟨x.s,x.n,x.s⟩
theorem kY(A B:List E)(s:Int):Has (A++B) s↔Has A s∨Has B s:=by unfold Has;grind
theorem AR(x:E)(s:Int):Has [x] s↔okB x=true/\x.s<=s/\s<x.s+x.n:=by
 unfold Has;simp
theorem wI(x:E)(s:Int)(h:okB x=true):Has [x] s↔x.s<=s/\s<x.s+x.n:=by grind [AR]
theorem Ju(s:Int):¬ Has [] s:=by unfold Has;simp
theorem Yi(l:List E):l.Pairwise (λx y=>x.a+x.n<y.a)->joinL l=l:=by
 induction l with
 |nil=>intro _;rfl
 | cons x r ih=>
  intro h;obtain⟨h1,h2⟩:=Yk.1 h;have e:joinL (x::r)=bX [x] r:=rfl;rw[e,Ga [x] r (λy hy z hz=>by simp at hy;subst hy;exact h1 z hz),ih h2];rfl
theorem rC{R:List E}(h:Canon R):aH (R.map E.plain)=true:=by
 rw[bP];refine⟨λy hy=> ?_,?_⟩
 ·obtain⟨x,hx,rfl⟩:=Yd.1 hy;have:=(aB x).1 (h.1 x hx).2;rw[aB];simp only[E.plain];omega
 ·rw[List.pairwise_map];refine h.2.imp ?_;intro x y hxy;simp only[E.plain];omega
theorem uA{R:List E}(h:Canon R)(p:Int):(Has R p->aF (R.map E.plain) p=some p)/\(¬Has R p->aF (R.map E.plain) p=none):=by
 refine⟨?_,λhn=> ?_⟩
 ·rintro⟨x,hx,h1,h2⟩;rw[yP _ (rC h) x.plain (Yd.2 ⟨x,hx,rfl⟩) p ((gI _ _).2 (by simp only[E.plain];omega))];simp only[E.plain,Option.some.injEq];omega
 ·refine nO _ _ λy hy=> ?_;obtain⟨x,hx,rfl⟩:=Yd.1 hy
  cases hh:hits p x.plain with
  |false=>rfl
  | true=>
   rw[gI]at hh;simp only[E.plain]at hh;exact absurd ⟨x,hx,(h.1 x hx).2,hh.1,hh.2⟩ hn
theorem Be(A B:List E)(hA:Canon A)(hB:Canon B)(h:∀s,Has A s↔Has B s):A=B:=by
 have e:∀R:List E,Canon R->joinL (R.map E.plain)=R.map E.plain:=λR hR=>Yi _ (by
  rw[List.pairwise_map]
  exact hR.2.imp λhxy=>by simp only[E.plain];exact hxy)
 have hm:A.map E.plain=B.map E.plain:=by
  rw[<-e A hA,<-e B hB];refine wE _ _ (rC hA) (rC hB) λp=> ?_;by_cases hp:Has A p
  ·rw[(uA hA p).1 hp,(uA hB p).1 ((h p).1 hp)]
  ·rw[(uA hA p).2 hp,(uA hB p).2 (λc=>hp ((h p).2 c))]
 have back:∀R:List E,Canon R->(R.map E.plain).map (λx=>(⟨0,x.n,x.s⟩:E))=R:=λR hR=>by
  rw[List.map_map]
  conv=>rhs;rw[<-List.map_id R]
  refine List.map_congr_left λx hx=> ?_;exact E.ext' (hR.1 x hx).1.symm rfl rfl
 rw[<-back A hA,<-back B hB,hm]
def E.upto(y:E)(t:Int):E:=⟨y.a,max y.n (t-y.s),y.s⟩
def vV(R:List E)(x:E):List E:=
 match R.getLast? with
 |some y=>if decide (x.s<=y.s+y.n)then R.dropLast++[y.upto (x.s+x.n)]else R++[⟨0,x.n,x.s⟩]
 |none=>[⟨0,x.n,x.s⟩]
def kI(l:List E):List E:=l.foldl vV []
theorem TS(x:E):vV [] x=[⟨0,x.n,x.s⟩]:=rfl
theorem GR(l:List E)(y x:E)(h:x.s<=y.s+y.n):vV (l++[y]) x=l++[y.upto (x.s+x.n)]:=by
 simp[vV,h]
theorem KY(l:List E)(y x:E)(h:¬ x.s<=y.s+y.n):vV (l++[y]) x=l++[y]++[⟨0,x.n,x.s⟩]:=by
 simp[vV,h]
theorem CO(l:List E)(x:E):kI (l++[x])=vV (kI l) x:=by simp[kI]
theorem LD(l:List E)(k:Nat)(h:k<l.length):kI (l.take (k+1))=vV (kI (l.take k)) l[k]:=by
 rw[Qh h,CO]
theorem KZ(R:List E)(x:E)(hR:Canon R)(hx:okB x=true)(hs:∀y∈R,y.s<=x.s):
  Canon (vV R x)/\(∀s,Has (vV R x) s↔Has R s∨(x.s<=s/\s<x.s+x.n))/\ ∀y∈vV R x,y.s<=x.s:=by
 have hx':=(aB x).1 hx;have hz:okB (⟨0,x.n,x.s⟩:E)=true:=by rw[aB];simp only;omega
 have hone:∀s,Has [(⟨0,x.n,x.s⟩:E)] s↔(x.s<=s/\s<x.s+x.n):=λs=>by
  rw[AR];exact⟨λh=>h.2,λh=>⟨hz,h⟩⟩
 by_cases h:R=[]
 ·subst h;rw[TS];refine⟨⟨λy hy=> ?_,sM⟩,λs=> ?_,λy hy=> ?_⟩
  ·simp at hy;subst hy;exact⟨rfl,hz⟩
  ·rw[hone];exact⟨.inr,λh=>h.resolve_left (Ju s)⟩
  ·simp at hy;subst hy;exact Int.le_refl _
 ·obtain ⟨C,y,rfl⟩:=fB R h;obtain⟨c1,c2⟩:=hR;obtain⟨p1,p2,p3⟩:=Yb.1 c2;have hy:=c1 y sM;have hy':=(aB y).1 hy.2;have hys:=hs y sM;by_cases hm:x.s<=y.s+y.n
  ·rw [GR _ _ _ hm];have hu:okB (y.upto (x.s+x.n))=true:=by
    rw[aB];have:=hy.1;simp only[E.upto];omega
   refine⟨⟨λz hzz=> ?_,?_⟩,λs=> ?_,λz hzz=> ?_⟩
   ·rcases Qn.1 hzz with hzz|hzz
    ·exact c1 z (by simp[hzz])
    ·simp at hzz;subst hzz;exact⟨hy.1,hu⟩
   ·refine Yb.2 ⟨p1,sM,λz hzz v hv=> ?_⟩;simp at hv;subst hv;exact p3 z hzz y sM
   ·rw [kY,kY,wI _ _ hu,wI _ _ hy.2];show(Has C s∨y.s<=s/\s<y.s+max y.n (x.s+x.n-y.s))↔_
    constructor
    ·rintro (h|h)
     ·exact .inl (.inl h)
     ·by_cases h2:s<y.s+y.n
      ·exact .inl (.inr ⟨h.1,h2⟩)
      ·exact .inr oM
    ·rintro((h|h)|h)
     ·exact .inl h
     ·exact .inr oM
     ·exact .inr oM
   ·rcases Qn.1 hzz with hzz|hzz
    ·exact hs z (by simp[hzz])
    ·simp at hzz;subst hzz;exact hys
  ·rw [KY _ _ _ hm];refine⟨⟨λz hzz=> ?_,?_⟩,λs=> ?_,λz hzz=> ?_⟩
   ·rcases Qn.1 hzz with hzz|hzz
    ·exact c1 z hzz
    ·simp at hzz;subst hzz;exact⟨rfl,hz⟩
   ·refine Yb.2 ⟨c2,sM,λz hzz v hv=> ?_⟩;simp at hv;subst hv;rcases Qn.1 hzz with hzz|hzz
    ·have:=p3 z hzz y sM;simp only;omega
    ·simp at hzz;subst hzz;simp only;omega
   ·rw[kY,hone]
   ·rcases Qn.1 hzz with hzz|hzz
    ·exact hs z hzz
    ·simp at hzz;subst hzz;exact Int.le_refl _
theorem uI(l:List E):(∀x∈l,okB x=true)->l.Pairwise (λx y=>x.s<=y.s)->Canon (kI l)/\(∀s,Has (kI l) s↔Has l s)/\ ∀t,(∀x∈l,x.s<=t)-> ∀y∈kI l,y.s<=t:=by
 induction l using gG with
 |h0=>intro _ _;exact⟨⟨by simp[kI],by simp[kI]⟩,λs=>Iff.rfl,by simp[kI]⟩
 | h1 l x ih=>
  intro h1 h2;obtain⟨p1,_,p3⟩:=Yb.1 h2;obtain⟨i1,i2,i3⟩:=ih (λy hy=>h1 y (by simp[hy])) p1;obtain⟨f1,f2,f3⟩:=KZ (kI l) x i1 (h1 x sM) (i3 x.s λy hy=>p3 y hy x sM);rw[CO];refine⟨f1,λs=> ?_,λt ht y hy=> ?_⟩
  ·rw[f2,i2,kY,AR];simp only[h1 x sM,true_and]
  ·exact Int.le_trans (f3 y hy) (ht x sM)
def bW(l:List E):List E:=kI ((l.filter okB).mergeSort λx y=>decide (x.s<=y.s))
theorem EJ(l:List E)(s:Int):Has (l.filter okB) s↔Has l s:=by grind [Has]
theorem Jv{A B:List E}(h:∀x,x∈A↔x∈B)(s:Int):Has A s↔Has B s:=by grind [Has]
theorem dX(l:List E):Canon (bW l)/\ ∀s,Has (bW l) s↔Has l s:=by
 have hp:=List.mergeSort_perm (l.filter okB) (λx y=>decide (x.s<=y.s));have hs:((l.filter okB).mergeSort λx y=>decide (x.s<=y.s)).Pairwise (λx y=>decide (x.s<=y.s)=true):=
  List.pairwise_mergeSort (λx y z h1 h2=>by simp only[Qc]at *;omega) (λx y=>by simp only[Bool.or_eq_true,Qc];omega) _
 obtain⟨f1,f2,_⟩:=uI _ (λx hx=>(List.mem_filter.1 (hp.mem_iff.1 hx)).2) (hs.imp λh=>Qt h);exact⟨f1,λs=>(f2 s).trans ((Jv (λx=>hp.mem_iff) s).trans (EJ l s))⟩
theorem Ab(l R:List E)(h1:Canon R)(h2:∀s,Has R s↔Has l s):R=bW l:=by grind [dX,Be]
theorem KH(l d:List E)(h1:∀x,x∈d↔x∈l.filter okB)(h2:d.Pairwise (λx y=>x.s<=y.s)):kI d=bW l:=by
 obtain⟨f1,f2,_⟩:=uI d (λx hx=>(List.mem_filter.1 ((h1 x).1 hx)).2) h2;exact Ab _ _ f1 λs=>(f2 s).trans ((Jv h1 s).trans (EJ l s))
theorem Wi{A B:List E}(h:∀x,x∈A↔x∈B):bW A=bW B:=by grind [dX,Ab,Jv]
theorem bE{R:List E}(h:Canon R):R.length<=65536:=by
 have:=nL (rC h)
 simpa using this
structure Cj(l R:List E)(e:Int):Prop where
 canon:Canon R
 e0:0<=e
 e1:e<=65536
 ends:∀y∈R,y.s+y.n<=e
 has:∀s,Has R s↔Has l s/\s<e
def qV(l:List E)(e next:Int)(found:Bool):Prop:=
 (found=false/\ ∀x∈l,okB x=true->x.s+x.n<=e)∨
 (found=true/\(∃x∈l,okB x=true/\e<x.s+x.n/\next=max x.s e)/\ ∀x∈l,okB x=true->e<x.s+x.n->next<=max x.s e)
def kS(l:List E)(next t:Int):Prop:=
 next<=t/\(t=next∨ ∃x∈l,okB x=true/\x.s<=next/\t=x.s+x.n)/\ ∀x∈l,okB x=true->x.s<=next->x.s+x.n<=t
def grow(R:List E)(next t:Int):List E:=
 match R.getLast? with
 |some y=>if decide (y.s+y.n=next)then R.dropLast++[y.longer (t-next)]else R++[⟨0,t-next,next⟩]
 |none=>[⟨0,t-next,next⟩]
theorem YK(next t:Int):grow [] next t=[⟨0,t-next,next⟩]:=rfl
theorem Mh(l:List E)(y:E)(next t:Int)(h:y.s+y.n=next):grow (l++[y]) next t=l++[y.longer (t-next)]:=by simp[grow,h]
theorem RX(l:List E)(y:E)(next t:Int)(h:¬ y.s+y.n=next):grow (l++[y]) next t=l++[y]++[⟨0,t-next,next⟩]:=by simp[grow,h]
theorem Vi(l:List E):Cj l [] 0:=by
 refine⟨⟨sM,sM⟩,oM,oM,sM,λs=>⟨λh=>absurd h (Ju s),λ⟨⟨x,hx,h1,h2⟩,h3⟩=> ?_⟩⟩;have:=(aB x).1 h1;omega
theorem Vj{l R:List E}{e next:Int}(h:Cj l R e)(hf:qV l e next false):R=bW l:=by
 refine Ab l R h.canon λs=> ?_;rw[h.has];refine⟨λh=>h.1,λhs=>⟨hs,?_⟩⟩;obtain⟨x,hx,h1,h2⟩:=hs;rcases hf with ⟨_,hf⟩|⟨hf,_⟩
 ·have:=hf x hx h1;omega
 ·cases hf
theorem Jp{l R:List E}{e next:Int}(h:Cj l R e)(hf:qV l e next true):e<=next/\next<65536:=by
 rcases hf with ⟨hf,_⟩|⟨_,⟨x,hx,h1,h2,h3⟩,_⟩
 ·cases hf
 ·have:=(aB x).1 h1;omega
theorem QX{l R:List E}{e next t:Int}(h:Cj l R e)(hf:qV l e next true)(hg:kS l next t):Cj l (grow R next t) t/\next<t/\t<=65536:=by
 rcases hf with ⟨hf,_⟩|⟨_,⟨x,hx,x1,x2,x3⟩,hmin⟩
 ·cases hf
 ·obtain ⟨g1,g2,g3⟩:=hg;have hx':=(aB x).1 x1;have hxt:=g3 x hx x1 oM;have hnt:next<t:=oM
  have ht:t<=65536:=by
   rcases g2 with rfl|⟨z,hz,z1,z2,z3⟩
   ·omega
   ·have:=(aB z).1 z1;omega
  have e0:=h.e0;have en:e<=next:=oM
  have hnew:∀s,(next<=s/\s<t)->Has l s:=λs hs=>by
   rcases g2 with rfl|⟨z,hz,z1,z2,z3⟩
   ·omega
   ·exact⟨z,hz,z1,oM,oM⟩
  have hgap:∀s,e<=s->s<next-> ¬Has l s:=λs h1 h2 ⟨z,hz,z1,z2,z3⟩=>by
   have:=hmin z hz z1 oM;omega
  have hok:okB (⟨0,t-next,next⟩:E)=true:=by rw[aB];simp only;omega
  have key:∀s,(Has R s∨(next<=s/\s<t))↔(Has l s/\s<t):=λs=>by
   rw[h.has]
   constructor
   ·rintro(⟨h1,h2⟩|h1)
    ·exact⟨h1,oM⟩
    ·exact⟨hnew s h1,h1.2⟩
   ·rintro ⟨h1,h2⟩;by_cases h3:s<e
    ·exact .inl ⟨h1,h3⟩
    ·by_cases h4:s<next
     ·exact absurd h1 (hgap s oM h4)
     ·exact .inr ⟨oM,h2⟩
  refine⟨?_,hnt,ht⟩;by_cases hR:R=[]
  ·subst hR;rw[YK];refine⟨⟨λy hy=> ?_,sM⟩,oM,ht,λy hy=> ?_,λs=> ?_⟩
   ·simp at hy;subst hy;exact⟨rfl,hok⟩
   ·simp at hy;subst hy;simp only;omega
   ·rw [<-key s,AR];simp only[hok,true_and]
    constructor
    ·intro hh;exact .inr oM
    ·rintro(hh|hh)
     ·exact absurd hh (Ju s)
     ·omega
  ·obtain ⟨C,y,rfl⟩:=fB R hR;obtain⟨c1,c2⟩:=h.canon;obtain⟨p1,p2,p3⟩:=Yb.1 c2;have hy:=c1 y sM;have hy':=(aB y).1 hy.2;have hye:=h.ends y sM;by_cases hm:y.s+y.n=next
   ·rw [Mh _ _ _ _ hm];have hu:okB (y.longer (t-next))=true:=by
     rw[aB];have:=hy.1;simp only[E.longer];omega
    refine⟨⟨λz hz=> ?_,?_⟩,oM,ht,λz hz=> ?_,λs=> ?_⟩
    ·rcases Qn.1 hz with hz|hz
     ·exact c1 z (by simp[hz])
     ·simp at hz;subst hz;exact⟨hy.1,hu⟩
    ·refine Yb.2 ⟨p1,sM,λz hz v hv=> ?_⟩;simp at hv;subst hv;exact p3 z hz y sM
    ·rcases Qn.1 hz with hz|hz
     ·have:=h.ends z (by simp[hz]);omega
     ·simp at hz;subst hz;simp only[E.longer];omega
    ·rw [<-key s,kY,kY,wI _ _ hu,wI _ _ hy.2];show(Has C s∨y.s<=s/\s<y.s+(y.n+(t-next)))↔_
     constructor
     ·rintro (h1|h1)
      ·exact .inl (.inl h1)
      ·by_cases h2:s<next
       ·exact .inl (.inr oM)
       ·exact .inr oM
     ·rintro((h1|h1)|h1)
      ·exact .inl h1
      ·exact .inr oM
      ·exact .inr oM
   ·rw [RX _ _ _ _ hm];refine⟨⟨λz hz=> ?_,?_⟩,oM,ht,λz hz=> ?_,λs=> ?_⟩
    ·rcases Qn.1 hz with hz|hz
     ·exact c1 z hz
     ·simp at hz;subst hz;exact⟨rfl,hok⟩
    ·refine Yb.2 ⟨c2,sM,λz hz v hv=> ?_⟩;simp at hv;subst hv;have:=h.ends z hz;rcases Qn.1 hz with hz|hz
     ·have:=p3 z hz y sM;simp only;omega
     ·simp at hz;subst hz;simp only;omega
    ·rcases Qn.1 hz with hz|hz
     ·have:=h.ends z hz;omega
     ·simp at hz;subst hz;simp only;omega
    ·rw [<-key s,kY,AR];simp only[hok,true_and]
     constructor
     ·rintro(h1|h1)
      ·exact .inl h1
      ·exact .inr oM
     ·rintro(h1|h1)
      ·exact .inl h1
      ·exact .inr oM
theorem Ut(e:Int):qV [] e 0 false:= .inl ⟨rfl,sM⟩
theorem Pt{l:List E}{k:Nat}{e next:Int}{found:Bool}(hk:k<l.length)(h:qV (l.take k) e next found)(hs:okB l[k]=false∨l[k].s+l[k].n<=e):qV (l.take (k+1)) e next found:=by
 rw[Qh hk];generalize l[k]=x at *;rcases h with ⟨rfl,h⟩|⟨rfl,⟨y,hy,h1⟩,h2⟩
 ·refine .inl ⟨rfl,λz hz hzo=> ?_⟩;rcases Qn.1 hz with hz|hz
  ·exact h z hz hzo
  ·simp at hz;subst hz;rcases hs with hs|hs
   ·rw[hzo]at hs;cases hs
   ·exact hs
 ·refine .inr ⟨rfl,⟨y,List.mem_append_left _ hy,h1⟩,λz hz hzo hze=> ?_⟩;rcases Qn.1 hz with hz|hz
  ·exact h2 z hz hzo hze
  ·simp at hz;subst hz;rcases hs with hs|hs
   ·rw[hzo]at hs;cases hs
   ·omega
theorem Pq{l:List E}{k:Nat}{e next:Int}{found:Bool}(hk:k<l.length)(h:qV (l.take k) e next found)(h1:okB l[k]=true)(h2:e<l[k].s+l[k].n)(h3:found=false∨max l[k].s e<next):qV (l.take (k+1)) e (max l[k].s e) true:=by
 rw[Qh hk];generalize l[k]=x at *;refine .inr ⟨rfl,⟨x,sM,h1,h2,rfl⟩,λz hz hzo hze=> ?_⟩;rcases Qn.1 hz with hz|hz
 ·rcases h with ⟨rfl,h⟩|⟨rfl,_,h⟩
  ·have:=h z hz hzo;omega
  ·have:=h z hz hzo hze;rcases h3 with h3|h3
   ·cases h3
   ·omega
 ·simp at hz;subst hz;exact Int.le_refl _
theorem Ps{l:List E}{k:Nat}{e next:Int}(hk:k<l.length)(h:qV (l.take k) e next true)(h3:next<=max l[k].s e):qV (l.take (k+1)) e next true:=by
 rw[Qh hk];generalize l[k]=x at *;rcases h with ⟨h,_⟩|⟨_,⟨y,hy,h1⟩,h2⟩
 ·cases h
 ·refine .inr ⟨rfl,⟨y,List.mem_append_left _ hy,h1⟩,λz hz hzo hze=> ?_⟩;rcases Qn.1 hz with hz|hz
  ·exact h2 z hz hzo hze
  ·simp at hz;subst hz;exact h3
theorem Jw(next:Int):kS [] next next:=⟨Int.le_refl _,.inl rfl,sM⟩
theorem Gf{l:List E}{k:Nat}{next t:Int}(hk:k<l.length)(h:kS (l.take k) next t)(hs:okB l[k]=false∨next<l[k].s∨l[k].s+l[k].n<=t):kS (l.take (k+1)) next t:=by
 rw[Qh hk];generalize l[k]=x at *;obtain⟨h1,h2,h3⟩:=h;refine⟨h1,h2.imp id λ⟨y,hy,r⟩=>⟨y,List.mem_append_left _ hy,r⟩,λz hz hzo hzn=> ?_⟩;rcases Qn.1 hz with hz|hz
 ·exact h3 z hz hzo hzn
 ·simp at hz;subst hz;rcases hs with hs|hs|hs
  ·rw[hzo]at hs;cases hs
  ·omega
  ·exact hs
theorem Gd{l:List E}{k:Nat}{next t:Int}(hk:k<l.length)(h:kS (l.take k) next t)(h1:okB l[k]=true)(h2:l[k].s<=next)(h3:t<l[k].s+l[k].n):kS (l.take (k+1)) next (l[k].s+l[k].n):=by
 rw[Qh hk];generalize l[k]=x at *;obtain⟨g1,g2,g3⟩:=h;refine⟨oM,.inr ⟨x,sM,h1,h2,rfl⟩,λz hz hzo hzn=> ?_⟩;rcases Qn.1 hz with hz|hz
 ·have:=g3 z hz hzo hzn;omega
 ·simp at hz;subst hz;exact Int.le_refl _
def aQ(N:Nat)(l:List E):Bool:=l.all λx=>decide (1<=x.n/\0<=x.s/\x.s+x.n<=N)
theorem aP(N:Nat)(l:List E):aQ N l=true↔ ∀x∈l,1<=x.n/\0<=x.s/\x.s+x.n<=N:=by simp[aQ]
theorem OM(N:Nat)(l:List E)(x:E):aQ N (l++[x])=(aQ N l&&decide (1<=x.n/\0<=x.s/\x.s+x.n<=N)):=by simp[aQ]
theorem OL(N:Nat)(l:List E)(k:Nat)(h:k<l.length):aQ N (l.take (k+1))=(aQ N (l.take k)&&decide (1<=l[k].n/\0<=l[k].s/\l[k].s+l[k].n<=N)):=by
 rw[Qh h,OM]
def oP(C:List Int)(s:Nat)(d:Int):Nat->List Int
 |0=>C
 |k+1=>(oP C s d k).set (s+k) ((oP C s d k).getD (s+k) 0+d)
theorem jU(C:List Int)(s:Nat)(d:Int)(k:Nat):(oP C s d k).length=C.length:=by induction k <;> grind [oP]
theorem Bj(C:List Int)(s:Nat)(d:Int)(k:Nat)(i:Nat)(hi:i<C.length):(oP C s d k).getD i 0=C.getD i 0+if s<=i/\i<s+k then d else 0:=by
 induction k with
 |zero=>simp[oP];omega
 | succ k ih=>
  simp only[oP];by_cases he:s+k=i
  ·subst he;rw[Ql,List.getElem?_set_self (by rw[jU];omega)];simp only[Option.getD_some];rw[ih,Qe oM,Qf oM];omega
  ·rw[Ql,List.getElem?_set_ne he,<-Ql,ih];by_cases h1:s<=i/\i<s+k
   ·rw[Qf h1,Qf oM]
   ·rw[Qe h1,Qe oM]
def eU(C:List Int)(l:List E)(d:Int):List Int:=l.foldl (λC x=>oP C x.s.toNat d x.n.toNat) C
theorem IC(C:List Int)(l:List E)(d:Int)(k:Nat)(h:k<l.length):eU C (l.take (k+1)) d=oP (eU C (l.take k) d) l[k].s.toNat d l[k].n.toNat:=by
 rw[Qh h];simp only[eU,List.foldl_append,List.foldl_cons,List.foldl_nil]
theorem eT(C:List Int)(l:List E)(d:Int):(eU C l d).length=C.length:=by
 unfold eU
 induction l generalizing C with
 |nil=>rfl
 |cons x r ih=>rw[List.foldl_cons,ih,jU]
def cnt(l:List E)(i:Nat):Int:=match l with
 | []=>0
 |x::r=>(if x.s<=(i:Int)/\(i:Int)<x.s+x.n then 1 else 0)+cnt r i
theorem bU(l:List E)(i:Nat):0<=cnt l i/\cnt l i<=l.length:=by induction l <;> grind [cnt,List.length_cons]
theorem JG(l:List E)(i:Nat):0<cnt l i↔ ∃x∈l,x.s<=(i:Int)/\(i:Int)<x.s+x.n:=by
 induction l with
 |nil=>simp[cnt]
 | cons x r ih=>
  have hb:=(bU r i).1;simp only[cnt,Yl,exists_eq_or_imp];rw[<-ih]
  split
  ·rename_i h;exact⟨λ_=> .inl h,λ_=>by omega⟩
  ·rename_i h;exact⟨λh'=> .inr oM,λh'=>by rcases h' with h'|h';exact absurd h' h;omega⟩
theorem mF(l:List E)(d:Int):∀(C:List Int),aQ C.length l=true-> ∀i,i<C.length->(eU C l d).getD i 0=C.getD i 0+d*cnt l i:=by
 induction l with
 |nil=>intro C _ i _;simp[eU,cnt]
 | cons x r ih=>
  intro C hp i hi;have hp':=(aP _ _).1 hp;obtain⟨h1,h2,h3⟩:=hp' x sM;have hr:aQ (oP C x.s.toNat d x.n.toNat).length r=true:=by
   rw[jU];exact(aP _ _).2 λy hy=>hp' y (by simp[hy])
  have:=ih (oP C x.s.toNat d x.n.toNat) hr i (by rw[jU];exact hi);simp only[eU,List.foldl_cons]at this ⊢;rw[this,Bj _ _ _ _ _ hi];simp only[cnt];rw[Int.mul_add,<-Int.add_assoc];congr 1;congr 1;by_cases hc:x.s.toNat<=i/\i<x.s.toNat+x.n.toNat
  ·rw[Qf hc,Qf oM];omega
  ·rw[Qe hc,Qe oM];omega
theorem QC{A B:List Int}(hl:A.length=B.length)(h:∀i,i<A.length->A.getD i 0=B.getD i 0):A=B:=by
 apply List.ext_getElem hl
 intro i h1 h2;have:=h i h1
 simpa [Ql,Qa h1,Qa h2]using this
def inR(lo hi:Int)(C:List Int):Prop:= ∀x∈C,lo<=x/\x<=hi
theorem pM{lo hi:Int}{C:List Int}:inR lo hi C↔ ∀i,i<C.length->lo<=C.getD i 0/\C.getD i 0<=hi:=by
 constructor
 ·intro h i hi;rw[Ql,Qa hi];exact h _ (Qm hi)
 ·intro h x hx;obtain⟨i,hi,rfl⟩:=List.mem_iff_getElem.1 hx;have:=h i hi
  rwa [Ql,Qa hi]at this
theorem gH{lo hi lo' hi':Int}{C:List Int}(h:inR lo hi C)(h1:lo'<=lo)(h2:hi<=hi'):inR lo' hi' C:=λx hx=>⟨by have:=(h x hx).1;omega,by have:=(h x hx).2;omega⟩
theorem Rf(C:List Int)(s:Nat)(d:Int)(k:Nat)(lo hi:Int)(h:inR lo hi C):inR (lo-1) (hi+1) (oP C s d k)∨(d< -1∨1<d):=by
 by_cases hd: -1<=d/\d<=1
 ·refine .inl (pM.2 λi hi=> ?_);rw[jU]at hi;rw[Bj _ _ _ _ _ hi];have:=pM.1 h i hi
  split <;> omega
 ·exact .inr oM
theorem Ff(l:List E)(d:Int)(hd: -1<=d/\d<=1):∀(C:List Int) (lo hi:Int),inR lo hi C->inR (lo-l.length) (hi+l.length) (eU C l d):=by
 induction l with
 |nil=>intro C lo hi h;simpa [eU]using h
 | cons x r ih=>
  intro C lo hi h;have h1:=(Rf C x.s.toNat d x.n.toNat lo hi h).resolve_right oM;have:=ih _ _ _ h1;simp only[eU,List.foldl_cons,List.length_cons]at this ⊢;exact gH this (by push_cast;omega) (by push_cast;omega)
def oZ(C:List Int):Int:=(C.map λx=>min x 1).sum
theorem DY(C:List Int)(k:Nat)(h:k<C.length):oZ (C.take (k+1))=oZ (C.take k)+min C[k] 1:=by
 rw[Qh h];simp only[oZ,Yz,List.map_cons,List.map_nil,List.sum_append,List.sum_cons,List.sum_nil,Int.add_zero]
theorem Ta(C:List Int)(lo hi:Int)(h:inR lo hi C):lo*C.length<=C.sum/\C.sum<=hi*C.length:=by
 induction C with
 |nil=>simp
 | cons x r ih=>
  have h1:=h x sM;have h2:=ih λy hy=>h y (by simp[hy]);simp only[List.sum_cons,List.length_cons];rw[show((r.length+1:Nat):Int)=r.length+1 by omega,Int.mul_add,Int.mul_add];omega
theorem NJ{lo hi:Int}{C:List Int}(h:inR lo hi C)(k:Nat):inR lo hi (C.take k):=λx hx=>h x (List.mem_of_mem_take hx)
theorem NC{hi:Int}{C:List Int}(h:inR 0 hi C):inR 0 1 (C.map λx=>min x 1):=λy hy=>by
 obtain⟨x,hx,rfl⟩:=Yd.1 hy;have:=(h x hx).1;omega
theorem Kg{C:List Int}{hi:Int}(h:inR 0 hi C):0<=oZ C/\oZ C<=C.length:=by
 have:=Ta _ 0 1 (NC h);simp only[Int.zero_mul,Yy,Int.one_mul]at this;exact this
def single(i:Nat):E:=⟨0,1,i⟩
def picks(f:Nat->Bool)(k:Nat):List E:=((List.range k).filter f).map single
theorem GU(f:Nat->Bool)(k:Nat)(h:f k=true):picks f (k+1)=picks f k++[single k]:=by simp[picks,List.range_succ,h]
theorem Em(f:Nat->Bool)(k:Nat)(h:f k=false):picks f (k+1)=picks f k:=by simp[picks,List.range_succ,h]
theorem pI(f:Nat->Bool)(k:Nat):(picks f k).length<=k:=by unfold picks;grind
theorem vX(f g:Nat->Bool)(k:Nat)(h:∀i,i<k->f i=g i):picks f k=picks g k:=by grind [picks,List.filter_congr]
theorem Le(f:Nat->Bool)(k:Nat)(hk:k<=65536):wfL (picks f k):=by
 intro x hx;obtain⟨i,hi,rfl⟩:=Yd.1 hx;have:=List.mem_range.1 (List.mem_filter.1 hi).1;exact⟨by simp[single],by simp[single],by simp only[single];omega⟩
theorem Ti(i:Nat):okB (single i)=decide (i<65536):=by grind [aB,single]
theorem Ih(f:Nat->Bool)(k:Nat)(hk:k<=65536)(s:Int):Has (picks f k) s↔0<=s/\s<k/\f s.toNat=true:=by
 constructor
 ·rintro⟨x,hx,_,h1,h2⟩;obtain⟨i,hi,rfl⟩:=Yd.1 hx;obtain⟨h3,h4⟩:=List.mem_filter.1 hi;have h3:=List.mem_range.1 h3;simp only[single]at h1 h2;obtain rfl:s=i:=oM
  exact⟨oM,oM,by simpa using h4⟩
 ·rintro⟨h1,h2,h3⟩;refine⟨single s.toNat,Yd.2 ⟨_,List.mem_filter.2 ⟨List.mem_range.2 oM,h3⟩,rfl⟩,?_,?_,?_⟩
  ·rw[Ti];simp;omega
  ·simp only[single];omega
  ·simp only[single];omega
def bH(C:List Int)(i:Nat):Bool:=decide (C.getD i 0=0)
def iY(C:List Int):List E:=bW (picks (bH C) C.length)
def jJ(D:List Int)(s:Nat)(k:Nat):List E:=((List.range k).filter λj=>bH D (s+j)).map λj=>single (s+j)
theorem Mj(D:List Int)(s:Nat):jJ D s 0=[]:=rfl
theorem PN(D:List Int)(s k:Nat)(h:bH D (s+k)=true):jJ D s (k+1)=jJ D s k++[single (s+k)]:=by simp[jJ,List.range_succ,h]
theorem UD(D:List Int)(s k:Nat)(h:bH D (s+k)=false):jJ D s (k+1)=jJ D s k:=by simp[jJ,List.range_succ,h]
theorem yJ(D:List Int)(s k:Nat):(jJ D s k).length<=k:=by unfold jJ;grind
def gN(D:List Int)(l:List E):List E:=l.flatMap λx=>jJ D x.s.toNat x.n.toNat
theorem Ml(D:List Int)(l:List E)(k:Nat)(h:k<l.length):gN D (l.take (k+1))=gN D (l.take k)++jJ D l[k].s.toNat l[k].n.toNat:=by
 rw[Qh h];simp only[gN,List.flatMap_append,List.flatMap_cons,List.flatMap_nil,List.append_nil]
theorem Gg(D:List Int)(N:Nat)(l:List E)(h:aQ N l=true):(gN D l).length<=N*l.length:=by
 induction l with
 |nil=>simp[gN]
 | cons x r ih=>
  have h':=(aP _ _).1 h;have h1:=h' x sM;have h2:=ih ((aP _ _).2 λy hy=>h' y (by simp[hy]));have h3:=yJ D x.s.toNat x.n.toNat;simp only[gN,List.flatMap_cons,Qg,List.length_cons]at h2 ⊢;rw[Nat.mul_add];omega
theorem Hq(D:List Int)(l:List E)(N:Nat)(h:aQ N l=true)(e:E):e∈gN D l↔ ∃i,e=single i/\bH D i=true/\0<cnt l i/\i<N:=by
 have h':=(aP _ _).1 h;unfold gN;rw[List.mem_flatMap]
 constructor
 ·rintro⟨x,hx,he⟩;obtain⟨j,hj,rfl⟩:=Yd.1 he;obtain⟨h1,h2⟩:=List.mem_filter.1 hj;have h1:=List.mem_range.1 h1;have h3:=h' x hx;exact⟨_,rfl,h2,(JG _ _).2 ⟨x,hx,oM,oM⟩,oM⟩
 ·rintro⟨i,rfl,h1,h2,h3⟩;obtain⟨x,hx,h4,h5⟩:=(JG _ _).1 h2;have h6:=h' x hx;refine⟨x,hx,Yd.2 ⟨i-x.s.toNat,List.mem_filter.2 ⟨List.mem_range.2 oM,?_⟩,?_⟩⟩
  ·rw[show x.s.toNat+(i-x.s.toNat)=i by omega];exact h1
  ·rw[show x.s.toNat+(i-x.s.toNat)=i by omega]
theorem YS(D:List Int)(l:List E)(N:Nat)(hN:N<=65536)(h:aQ N l=true):wfL (gN D l):=by
 intro x hx;obtain⟨i,rfl,_,_,hi⟩:=(Hq D l N h x).1 hx;exact⟨by simp[single],by simp[single],by simp only[single];omega⟩
def oJ(C D:List Int)(i:Nat):Bool:=decide (D.getD i 0=0)&&decide (0<C.getD i 0)
theorem Mi(C:List Int)(l:List E)(hN:C.length<=65536)(h:aQ C.length l=true)(hC:∀i,i<C.length->0<=C.getD i 0):
  bW (gN (eU C l (-1)) l)=bW (picks (oJ C (eU C l (-1))) C.length):=by
 refine Wi λe=> ?_;rw[Hq _ _ _ h];unfold picks;rw[Yd]
 constructor
 ·rintro⟨i,rfl,h1,h2,h3⟩;refine⟨i,List.mem_filter.2 ⟨List.mem_range.2 h3,?_⟩,rfl⟩;have hg:=mF l (-1) C h i h3;simp only[bH,Qc]at h1;simp only[oJ,Qd,Qc];exact⟨h1,oM⟩
 ·rintro⟨i,hi,rfl⟩;obtain⟨h3,h4⟩:=List.mem_filter.1 hi;have h3:=List.mem_range.1 h3;have hg:=mF l (-1) C h i h3;simp only[oJ,Qd,Qc]at h4;exact⟨i,rfl,Qo h4.1,oM,h3⟩
def aK(f:Nat->Bool):Nat->Nat
 |0=>0
 |n+1=>aK f n+if f n=true then 1 else 0
theorem iX(f:Nat->Bool)(n:Nat):aK f n<=n:=by induction n <;> grind [aK]
theorem aM(f g:Nat->Bool)(n:Nat)(h:∀i,i<n->f i=g i):aK f n=aK g n:=by induction n <;> grind [aK]
theorem xU(a b n:Nat)(hab:a<=b):aK (λi=>decide (a<=i)&&decide (i<b)) n=min b n-min a n:=by induction n <;> grind [aK]
theorem pQ(f g:Nat->Bool)(n:Nat)(h:∀i,i<n->f i=true->g i=true->False):aK (λi=>f i||g i) n=aK f n+aK g n:=by induction n <;> grind [aK]
theorem dK(f:Nat->Bool)(n:Nat)(h:∀i,i<n->f i=false):aK f n=0:=by induction n <;> grind [aK]
theorem jT(f:Nat->Bool)(n m:Nat)(hn:n<=m)(h:∀i,n<=i->i<m->f i=false):aK f m=aK f n:=by induction m <;> grind [aK]
theorem qE(f g:Nat->Bool)(n:Nat)(h:∀i,i<n->f i=true->g i=true):aK f n<=aK g n:=by
 induction n with
 |zero=>exact Ye _
 | succ n ih=>
  simp only[aK];have:=ih λi hi=>h i oM;have:=h n oM;rcases Bool.eq_false_or_eq_true (f n)with hf|hf <;> rcases Bool.eq_false_or_eq_true (g n)with hg|hg <;> simp_all <;> omega
theorem vB(f g:Nat->Bool)(n:Nat):aK f n=aK (λi=>f i&&g i) n+aK (λi=>f i&& !g i) n:=by induction n <;> grind [aK]
theorem wT(f g:Nat->Bool)(n:Nat):aK (λi=>f i||g i) n+aK (λi=>f i&&g i) n=aK f n+aK g n:=by induction n <;> grind [aK]
theorem nK(f:Nat->Bool)(n:Nat):aK f n=0↔ ∀i,i<n->f i=false:=by induction n <;> grind [aK,dK]
def inX(x:E)(i:Nat):Bool:=decide (x.s<=(i:Int))&&decide ((i:Int)<x.s+x.n)
theorem gB(x:E)(i:Nat):inX x i=true↔x.s<=(i:Int)/\(i:Int)<x.s+x.n:=by simp[inX]
def hasB(R:List E)(i:Nat):Bool:=R.any λx=>okB x&&inX x i
theorem jC(R:List E)(i:Nat):hasB R i=true↔Has R (i:Int):=by simp[hasB,Has,List.any_eq_true,gB]
theorem Nn(x:E)(n:Nat)(h0:0<=x.s)(h1:0<=x.n)(h2:x.s+x.n<=n):aK (inX x) n=x.n.toNat:=by
 rw [aM (inX x) (λi=>decide (x.s.toNat<=i)&&decide (i<x.s.toNat+x.n.toNat)) n λi _=>by
  rw[Qw,gB];simp only[Qd,Qc];omega]
 rw[xU _ _ _ oM];omega
theorem YI{R:List E}{s:Int}(h:Has R s):0<=s/\s<65536:=by
 obtain⟨x,_,h1,h2,h3⟩:=h;have:=(aB x).1 h1;omega
theorem sN(x:E)(r:List E):aR (x::r)=x.n+aR r:=by simp[aR]
theorem fD(R:List E):Canon R->aR R=aK (hasB R) 65536:=by
 induction R with
 | nil=>
  intro _;rw[dK _ _ λi _=>by simp[hasB]];rfl
 | cons x r ih=>
  rintro⟨h1,h2⟩;rw[Yk]at h2;have h3:=ih ⟨λy hy=>h1 y (by simp[hy]),h2.2⟩;have hx:=(h1 x sM).2;obtain⟨e1,e2,e3,e4,e5⟩:=(aB x).1 hx;rw[sN,h3];rw[aM (hasB (x::r)) (λi=>inX x i||hasB r i) _ λi _=>by simp[hasB,hx]];rw[pQ _ _ _ (λi _ ha hb=> ?_),Nn x _ e3 oM oM]
  ·omega
  ·obtain⟨y,hy,_,h5,_⟩:=(jC _ _).1 hb;have:=h2.1 y hy;have:=(gB _ _).1 ha;omega
theorem EK(f:Nat->Bool)(k:Nat)(hk:k<=65536)(i:Nat):hasB (picks f k) i=(decide (i<k)&&f i):=by grind [jC,Ih,Int.toNat_natCast]
theorem pY(l:List E)(i:Nat):hasB (bW l) i=hasB l i:=by grind [jC,dX]
theorem Ez(f:Nat->Bool)(k:Nat)(hk:k<=65536):aR (bW (picks f k))=aK f k:=by
 rw[fD _ (dX _).1];rw[aM _ (λi=>decide (i<k)&&f i) _ λi _=>by rw[pY,EK f k hk]];rw[jT _ k 65536 hk λi h1 _=>by simp;omega];rw[aM _ f k λi hi=>by simp[hi]]
theorem KI{A B:List E}(hA:Canon A)(hB:Canon B)(h:∀i,i<65536->hasB A i=hasB B i):A=B:=by
 refine Be A B hA hB λs=> ?_
 constructor
 ·intro hs;have:=YI hs;obtain⟨i,rfl⟩:∃i:Nat,s=i:=⟨s.toNat,oM⟩;rw[<-jC,<-h i oM,jC];exact hs
 ·intro hs;have:=YI hs;obtain⟨i,rfl⟩:∃i:Nat,s=i:=⟨s.toNat,oM⟩;rw[<-jC,h i oM,jC];exact hs
theorem SL(C:List Int)(hi:Int)(h:inR 0 hi C)(k:Nat):k<=C.length->oZ (C.take k)+aK (bH C) k=k:=by
 induction k with
 |zero=>intro _;simp[oZ,aK]
 | succ k ih=>
  intro hk;have hlt:k<C.length:=oM
  rw[DY C k hlt];have h1:=ih oM;have h2:=(h C[k] (Qm hlt)).1;simp only[aK,bH,Qc];rw[Ql,Qa hlt];simp only[Option.getD_some]
  split <;> omega
theorem SK(C:List Int)(hi:Int)(h:inR 0 hi C):oZ C+aK (bH C) C.length=C.length:=by
 have:=SL C hi h C.length (Ye _)
 rwa [List.take_length]at this
theorem Us(C:List Int)(hN:C.length<=65536):aR (iY C)=aK (bH C) C.length:=Ez _ _ hN
theorem Zx{C:List Int}{l:List E}{hi:Int}(h:aQ C.length l=true)(hC:inR 0 hi C):inR 0 (hi+l.length) (eU C l 1):=by
 refine pM.2 λi hlt=> ?_;rw[eT]at hlt;rw[mF l 1 _ h i hlt];have:=pM.1 hC i hlt;have:=bU l i;omega
def LP(x:E)(i:Nat):Bool:=decide (1<=x.n)&&inX x i
def oC(l:List E)(i:Nat):Bool:=l.any λx=>LP x i
theorem Pp(l:List E)(k:Nat)(h:k<l.length)(i:Nat):oC (l.take (k+1)) i=(oC (l.take k) i||LP l[k] i):=by
 rw[Qh h];simp only[oC,List.any_append,List.any_cons,List.any_nil,Bool.or_false]
def bN(C:List Int)(i:Nat):Bool:=decide (C.getD i 0=1)
def bF(C:List Int)(l:List E):Int:=aK (λi=>oC l i&&bN C i) C.length
def mk(f:Nat->Bool)(n:Nat):List Bool:=(List.range n).map f
theorem BJ(f:Nat->Bool)(n:Nat):(mk f n).length=n:=by simp[mk]
theorem LC(n:Nat):mk (λ_=>false) n=List.replicate n false:=by
 apply List.ext_getElem
 ·simp[mk]
 ·intro i h1 h2;simp[mk]
theorem Pd(f:Nat->Bool)(n i:Nat)(h:i<n):(mk f n).getD i false=f i:=by
 rw[Ql];simp[mk,h]
theorem sJ(f g:Nat->Bool)(n:Nat)(h:∀i,i<n->f i=g i):mk f n=mk g n:=by grind [mk,List.map_congr_left]
theorem aGt(f:Nat->Bool)(p n:Nat)(b:Bool):(mk f n).set p b=mk (λi=>if i=p then b else f i) n:=by
 apply List.ext_getElem
 ·simp[mk]
 ·intro i h1 h2;simp only[mk,List.getElem_set,List.getElem_map,List.getElem_range];by_cases h:p=i
  ·subst h;simp
  ·rw[Qe h,Qe (λe=>h e.symm)]
theorem FJ(f g:Nat->Bool)(p n:Nat)(hp:p<n)(h:∀i,i<n->i≠p->f i=g i)(h1:f p=false)(h2:g p=true):aK g n=aK f n+1:=by induction n <;> grind [aK,aM]
def fZ(L:Nat->Bool)(s p:Nat)(i:Nat):Bool:=L i||(decide (s<=i)&&decide (i<p))
theorem Ed(L:Nat->Bool)(s p:Nat)(h:p<=s)(i:Nat):fZ L s p i=L i:=by grind [fZ]
theorem Tt(L:Nat->Bool)(s p n:Nat)(h:s<=p):(mk (fZ L s p) n).set p true=mk (fZ L s (p+1)) n:=by grind [aGt,sJ,fZ]
theorem Tu(L:Nat->Bool)(C:List Int)(s p n:Nat)(hs:s<=p)(h:(!fZ L s p p&&bN C p)=false):aK (λi=>fZ L s (p+1) i&&bN C i) n=aK (λi=>fZ L s p i&&bN C i) n:=by grind [aM,bN,fZ]
theorem Tv(L:Nat->Bool)(C:List Int)(s p n:Nat)(hs:s<=p)(hp:p<n)(h1:fZ L s p p=false)(h2:bN C p=true):aK (λi=>fZ L s (p+1) i&&bN C i) n=aK (λi=>fZ L s p i&&bN C i) n+1:=by
 refine FJ _ _ p n hp (λi _ hi=> ?_) ?_ ?_
 ·congr 1;unfold fZ;congr 1;rw[Qw];simp only[Qd,Qc];omega
 ·show(fZ L s p p&&bN C p)=false;rw[h1];rfl
 ·show(fZ L s (p+1) p&&bN C p)=true;rw[h2];unfold fZ;simp[hs]
theorem KF(L:Nat->Bool)(x:E)(s p n:Nat)(T:Int)(hs:(s:Int)=max x.s 0)(hT:T=if 1<=x.n then min (n:Int) (x.s+x.n)else 0)(h1:s<=p)(h2:T<=p)(h3:(p:Int)<=T∨p=s)(i:Nat)(hi:i<n):fZ L s p i=(L i||LP x i):=by grind [fZ,LP,inX]
inductive Tr where
 |nil:Tr
 |node (l:Tr) (x:E) (r:Tr):Tr
def Tr.toL:Tr->List E
 | .nil=>[]
 | .node l x r=>l.toL++x::r.toL
def Tr.deep:Tr->Nat
 | .nil=>0
 | .node l _ r=>1+max l.deep r.deep
def Tr.size(t:Tr):Nat:=t.toL.length
theorem Tr.deep_le(t:Tr):t.deep<=t.size:=by induction t <;> grind [Tr.deep,Tr.size,Tr.toL,List.length_append,List.length_cons]
theorem Tr.aJg(l r:Tr)(x:E):(Tr.node l x r).size=l.size+1+r.size:=by
 simp only[Tr.size,Tr.toL,Qg,List.length_cons];omega
theorem iA(A B:List E)(f t:Int):aI (A++B) f t=aI A f t++aI B f t:=by
 simp[aI,List.filter_append,Yz]
theorem dQ(x:E)(B:List E)(f t:Int):aI (x::B) f t=(if bY x f t then [bT x f t]else [])++aI B f t:=by unfold aI;grind
theorem OO(x:E)(f t:Int)(hx:okB x=true)(h1:f<=x.a)(h2:x.a+x.n<=t):bY x f t=true/\bT x f t=x:=by
 obtain⟨c1,c2,c3,c4,c5⟩:=(aB x).1 hx;refine⟨Qo oM,?_⟩;unfold bT
 apply E.ext' <;> simp only <;> omega
theorem nV(l:List E)(f t:Int):(∀x∈l,okB x=true/\f<=x.a/\x.a+x.n<=t)->aI l f t=l:=by
 induction l with
 |nil=>intro _;rfl
 | cons x r ih=>
  intro h;obtain⟨h1,h2,h3⟩:=h x sM;obtain⟨p1,p2⟩:=OO x f t h1 h2 h3;rw[dQ,p1,p2,ih λy hy=>h y (by simp[hy])];rfl
theorem qK(l:List E)(f t:Int):(∀x∈l,x.a+x.n<=f∨t<=x.a)->aI l f t=[]:=by
 induction l with
 |nil=>intro _;rfl
 | cons x r ih=>
  intro h;have:=h x sM;have hp:bY x f t=false:=by
   unfold bY;rw[Qy];omega
  rw[dQ,hp,ih λy hy=>h y (by simp[hy])];rfl
theorem jV{A B:List E}{x:E}(h:aH (A++x::B)=true):aH A=true/\okB x=true/\aH B=true/\(∀y∈A,y.a+y.n<=x.a)/\ ∀y∈B,x.a+x.n<=y.a:=by
 obtain⟨h1,h2⟩:=(bP _).1 h;rw[Yb]at h2;obtain⟨p1,p2,p3⟩:=h2;rw[Yk]at p2;exact⟨(bP _).2 ⟨λy hy=>h1 y (by simp[hy]),p1⟩,h1 x sM,(bP _).2 ⟨λy hy=>h1 y (by simp[hy]),p2.2⟩,λy hy=>p3 y hy x sM,p2.1⟩
section
variable{A B:List E}{x:E}(h:aH (A++x::B)=true)
include h
theorem NP(p:Int)(hp:p<=x.a):aI (A++x::B) 0 p=aI A 0 p/\aI (A++x::B) p 65536=aI A p 65536++x::B:=by
 obtain⟨_,hx,hB,_,h2⟩:=jV h;have hok:=aL hB;obtain⟨c1,c2,c3,c4,c5⟩:=(aB x).1 hx
 constructor
 ·rw[iA,qK (x::B) 0 p λy hy=> ?_,List.append_nil];simp at hy;rcases hy with rfl|hy
  ·exact .inr hp
  ·have:=h2 y hy;exact .inr oM
 ·rw[iA,nV (x::B) p 65536 λy hy=> ?_];simp at hy;rcases hy with rfl|hy
  ·exact⟨hx,hp,c4⟩
  ·have h3:=h2 y hy;have h4:=(aB y).1 (hok y hy);exact⟨hok y hy,oM,h4.2.2.2.1⟩
theorem Kr(p:Int)(hp:x.a+x.n<=p):aI (A++x::B) 0 p=A++x::aI B 0 p/\aI (A++x::B) p 65536=aI B p 65536:=by
 obtain⟨hA,hx,_,h1,_⟩:=jV h;have hok:=aL hA;obtain⟨c1,c2,c3,c4,c5⟩:=(aB x).1 hx
 constructor
 ·rw [show A++x::B=(A++[x])++B by simp,iA,nV (A++[x]) 0 p λy hy=> ?_]
  ·simp
  ·simp at hy;rcases hy with hy|rfl
   ·have h3:=h1 y hy;have h4:=(aB y).1 (hok y hy);exact⟨hok y hy,oM,oM⟩
   ·exact⟨hx,c2,hp⟩
 ·rw [show A++x::B=(A++[x])++B by simp,iA,qK (A++[x]) p 65536 λy hy=> ?_]
  ·simp
  ·simp at hy;rcases hy with hy|rfl
   ·have h3:=h1 y hy;exact .inl oM
   ·exact .inl hp
theorem Tc(p:Int)(h1:x.a<p)(h2:p<x.a+x.n):aI (A++x::B) 0 p=A++[⟨x.a,p-x.a,x.s⟩]/\aI (A++x::B) p 65536=⟨p,x.n-(p-x.a),x.s+(p-x.a)⟩::B:=by
 obtain⟨hA,hx,hB,hA1,hB1⟩:=jV h;have hokA:=aL hA;have hokB:=aL hB;obtain⟨c1,c2,c3,c4,c5⟩:=(aB x).1 hx;have p1:bY x 0 p=true:=Qo oM;have p2:bY x p 65536=true:=Qo oM;have e1:bT x 0 p=⟨x.a,p-x.a,x.s⟩:=by unfold bT;apply E.ext' <;> simp only <;> omega
 have e2:bT x p 65536=⟨p,x.n-(p-x.a),x.s+(p-x.a)⟩:=by unfold bT;apply E.ext' <;> simp only <;> omega
 have w1:aI A 0 p=A:=nV A 0 p λy hy=>by
  have h3:=hA1 y hy;have h4:=(aB y).1 (hokA y hy);exact⟨hokA y hy,oM,oM⟩
 have w2:aI B 0 p=[]:=qK B 0 p λy hy=>by have h3:=hB1 y hy;exact .inr oM
 have w3:aI A p 65536=[]:=qK A p 65536 λy hy=>by have h3:=hA1 y hy;exact .inl oM
 have w4:aI B p 65536=B:=nV B p 65536 λy hy=>by
  have h3:=hB1 y hy;have h4:=(aB y).1 (hokB y hy);exact⟨hokB y hy,oM,h4.2.2.2.1⟩
 constructor
 ·rw[iA,dQ,p1,e1,w1,w2];simp
 ·rw[iA,dQ,p2,e2,w3,w4];simp
end
def fT:List E->Bool
 | []=>true
 | [_]=>true
 |x::y::r=> !meets x y&&fT (y::r)
def YQ(A:List E)(x:E):Bool:=match A.getLast? with|none=>true|some y=> !meets y x
theorem OW(A:List E)(x:E):fT (A++[x])=(fT A&&YQ A x):=by
 induction A with
 |nil=>rfl
 | cons y r ih=>
  cases r with
  |nil=>simp[fT,YQ]
  | cons z r=>
   simp only[List.cons_append,fT]at ih ⊢;rw[ih];unfold YQ;simp only[List.getLast?_cons_cons];cases (!meets y z) <;> simp
theorem nW(l:List E):joinL l=l↔fT l=true:=by
 refine gG (P:=λl=>joinL l=l↔fT l=true) (by simp[joinL,fT]) (λl x ih=> ?_) l;rw[dR,OW,Qd,<-ih]
 constructor
 ·intro h;have hl:=iV l;have hpl:=tY (joinL l) x;have hlen:(fC (joinL l) x).length=l.length+1:=by rw[h];simp
  by_cases hj:joinL l=[]
  ·rw [hj,mR]at h;have:l=[]:=by
    have h5:=congrArg List.length h;rw[Qg]at h5;simp only[List.length_cons,List.length_nil]at h5;exact List.length_eq_zero_iff.1 oM
   subst this;exact⟨rfl,rfl⟩
  ·obtain⟨r,y,hr⟩:=fB _ hj;rw[hr]at h hlen hl;cases hm:meets y x
   ·rw[eQ _ _ _ hm]at h;have h2:=List.append_inj_left' h rfl;refine⟨by rw[hr];exact h2,?_⟩;rw[<-h2];simp[YQ,hm]
   ·rw[dJ _ _ _ hm]at hlen;simp at hlen hl;omega
 ·rintro⟨h1,h2⟩;rw[h1];by_cases hj:l=[]
  ·subst hj;rfl
  ·obtain⟨r,y,hr⟩:=fB _ hj;rw[hr]at h2 ⊢;simp[YQ]at h2;rw[eQ _ _ _ h2]
theorem kX{x y:E}{r:List E}:fT (x::y::r)=(!meets x y&&fT (y::r)):=rfl
theorem yV{x:E}{r:List E}(h:fT (x::r)=true):fT r=true:=by
 cases r with
 |nil=>rfl
 |cons y r=>rw[kX,Qd]at h;exact h.2
theorem Au(A B:List E)(hA:fT A=true)(hB:fT B=true)(h:∀y x,A.getLast? =some y->B.head? =some x->meets y x=false):fT (A++B)=true:=by
 induction A with
 |nil=>exact hB
 | cons z r ih=>
  cases r with
  | nil=>
   cases B with
   |nil=>rfl
   | cons x B=>
    rw[List.cons_append,List.nil_append,kX,h z x rfl rfl,hB];rfl
  | cons w r=>
   rw[kX,Qd]at hA;rw[List.cons_append,List.cons_append,kX,hA.1];exact ih hA.2 λy x h1 h2=>h y x (by rw[List.getLast?_cons_cons];exact h1) h2
theorem qJ(l:List E)(f t:Int):aH l=true->fT l=true->fT (aI l f t)=true:=by
  induction l with
  |nil=>intro _ _;rfl
  | cons x r ih=>
    intro hv hn;obtain⟨_,hx,hr,_,hB⟩:=jV (A:=[]) hv;have h1:=ih hr (yV hn);rw[dQ];cases hp:bY x f t
    · simpa using h1
    · refine Au [bT x f t] _ rfl h1 λy z hy hz=> ?_;simp at hy;subst hy;have hzm:z∈aI r f t:=List.mem_of_mem_head? hz;have hpx:max x.a f<min (x.a+x.n) t:=Qt hp
      cases r with
      |nil=>simp[aI]at hz
      | cons u r=>
        rw[kX,Qd]at hn;have hxu:meets x u=false:=by simpa using hn.1
        have hua:=hB u sM;have hu:=(aB u).1 (aL hr u sM);obtain⟨_,_,_,_,hur⟩:=jV (A:=[]) hr;rw[dQ]at hz;cases hpu:bY u f t
        ·
          rw[hpu]at hz;simp only[Bool.false_eq_true,if_false,List.nil_append]at hz;have hzm2:z∈aI r f t:=List.mem_of_mem_head? hz;obtain⟨v,hv1,rfl⟩:=Yd.1 hzm2;obtain⟨hv2,hv3⟩:=List.mem_filter.1 hv1;have hpv:max v.a f<min (v.a+v.n) t:=Qt hv3;have hnu:¬ max u.a f<min (u.a+u.n) t:=Yh hpu;have hva:=hur v hv2;unfold meets;rw[Yo]
          left
          simp only[bT,Qy];omega
        · rw [hpu]at hz;simp only[if_true,List.cons_append,List.nil_append,List.head?_cons,Option.some.injEq]at hz;subst hz;have hpu':max u.a f<min (u.a+u.n) t:=Qt hpu;unfold meets at hxu;rw[Yo,Qy,Qy]at hxu;have q1:(bT x f t).a+(bT x f t).n=min (x.a+x.n) t:=by simp only[bT];omega
          have q2:(bT u f t).a=max u.a f:=rfl;have q3:(bT x f t).s+(bT x f t).n=x.s+(min (x.a+x.n) t-x.a):=by simp only[bT];omega
          have q4:(bT u f t).s=u.s+(max u.a f-u.a):=by simp only[bT];omega
          unfold meets;rw[Yo,Qy,Qy,q1,q2,q3,q4];by_cases h6:x.a+x.n=u.a
          · have h7:¬ x.s+x.n=u.s:=hxu.resolve_left (λh=>h h6);omega
          · left
            omega
theorem Ak(r:List E):∀(L:List E) (w:E),(∀h,r.head? =some h->meets w h=false)->fT r=true->bX (L++[w]) r=L++[w]++r:=by
 induction r with
 |nil=>intro L w _ _;simp[bX]
 | cons z r ih=>
  intro L w h1 h2;have h3:bX (L++[w]) (z::r)=bX (fC (L++[w]) z) r:=rfl;rw[h3,eQ _ _ _ (h1 z rfl),ih (L++[w]) z (λu hu=> ?_) (yV h2)]
  ·simp
  ·cases r with
   |nil=>simp at hu
   | cons v r=>
    simp only[List.head?_cons,Option.some.injEq]at hu;subst hu;rw[kX,Qd]at h2
    simpa using h2.1
theorem OC(L:List E)(w:E)(B:List E)(hB:fT B=true)(h:∀z,B.head? =some z->meets w z=false):bX (L++[w]) B=L++w::B:=by
 rw[Ak B L w h hB];simp
theorem KU(L:List E)(w z:E)(r:List E)(hB:fT (z::r)=true)(h:meets w z=true):bX (L++[w]) (z::r)=L++w.longer z.n::r:=by
 have h3:bX (L++[w]) (z::r)=bX (fC (L++[w]) z) r:=rfl;rw[h3,dJ _ _ _ h,Ak r L (w.longer z.n) (λu hu=> ?_) (yV hB)]
 ·simp
 ·cases r with
  |nil=>simp at hu
  | cons v r=>
   simp only[List.head?_cons,Option.some.injEq]at hu;subst hu;rw[kX,Qd]at hB;have h1:meets z v=false:=by simpa using hB.1
   unfold meets at h h1 ⊢;rw[Qd,Qc,Qc]at h;rw[Yo,Qy,Qy]at h1 ⊢;simp only[E.longer];omega
theorem WV(l:List E)(x:E)(hv:aH l=true)(hn:fT l=true):bM l x=bX (fC (aI l 0 x.a) x) (aI l (x.a+x.n) 65536):=by
 have h1:=(nW _).2 (qJ l 0 x.a hv hn);unfold bM;rw[AO,h1];rfl
theorem GX(l:List E)(p q:Int)(hp:0<=p)(hq:q<=65536):(∀x∈l,okB x=true)->aI (aI l p 65536) 0 q=aI l p q:=by
 induction l with
 |nil=>intro _;rfl
 | cons x r ih=>
  intro h;obtain⟨c1,c2,c3,c4,c5⟩:=(aB x).1 (h x sM);rw[dQ,iA,ih λy hy=>h y (by simp[hy]),dQ x r p q];congr 1;cases h1:bY x p 65536
  ·have h2:bY x p q=false:=by
    exact aGg
   rw[h2];rfl
  ·have h1':max x.a p<min (x.a+x.n) 65536:=Qt h1;simp only[if_true];rw[dQ];have e1:bY (bT x p 65536) 0 q=bY x p q:=by
    exact sh20
   have e2:bT (bT x p 65536) 0 q=bT x p q:=by
    unfold bT
    apply E.ext' <;> simp only <;> omega
   rw[e1,e2];simp[aI]
theorem En(l:List E)(p q:Int)(hp:0<=p)(hpq:p<=q):(∀x∈l,okB x=true)->aI (aI l p 65536) q 65536=aI l q 65536:=by
 induction l with
 |nil=>intro _;rfl
 | cons x r ih=>
  intro h;obtain⟨c1,c2,c3,c4,c5⟩:=(aB x).1 (h x sM);rw[dQ,iA,ih λy hy=>h y (by simp[hy]),dQ x r q 65536];congr 1;cases h1:bY x p 65536
  ·have h2:bY x q 65536=false:=by
    exact aGg
   rw[h2];rfl
  ·have h1':max x.a p<min (x.a+x.n) 65536:=Qt h1;simp only[if_true];rw[dQ];have e1:bY (bT x p 65536) q 65536=bY x q 65536:=by
    exact sh20
   have e2:bT (bT x p 65536) q 65536=bT x q 65536:=by
    unfold bT
    apply E.ext' <;> simp only <;> omega
   rw[e1,e2];simp[aI]
theorem Zr(l:List E)(p n:Int)(hn:1<=n)(hv:aH l=true)(hnm:fT l=true):gD l p n=aI l 0 p++aI l (p+n) 65536:=by
 rw[nI l p n oM hv,(nW _).2];refine Au _ _ (qJ l _ _ hv hnm) (qJ l _ _ hv hnm) λy z hy hz=> ?_;have h1:=gZ l 0 p y (List.mem_of_getLast? hy);have h2:=gZ l (p+n) 65536 z (List.mem_of_mem_head? hz);unfold meets;rw[Yo]
 left
 rw[Qy];omega
theorem Dx(l:List E)(p n:Int)(hv:aH l=true)(hnm:fT l=true):inL l p n=aI l p (p+n):=by
 rw[wG,(nW _).2 (qJ l _ _ hv hnm)]
theorem Zq(l:List E)(p:Int)(hv:aH l=true)(hnm:fT l=true):gD l p 0=l:=by
 rw[nI l p 0 (Int.le_refl _) hv,Int.add_zero];have h:=wE (aI l 0 p++aI l p 65536) l (iT l 0 p p 65536 hv (Int.le_refl _)) hv λq=> ?_
 ·rw[h,(nW _).2 hnm]
 ·rw [dV,lQ,lQ];by_cases h1:0<=q/\q<65536
  ·by_cases h2:q<p
   ·rw[Qf ⟨h1.1,h2⟩,Qe oM];simp
   ·rw[Qe oM,Qf ⟨oM,h1.2⟩];simp
  ·rw[pF l hv q oM]
   split <;> split <;> rfl
theorem Jt{p q:Prop}[Decidable p][Decidable q](h:p↔q):(if p then (1:Int)else 0)=if q then 1 else 0:=by grind
theorem Mc(p:Prop)[Decidable p]:∃k:Int,(if p then (1:Int)else 0)=k/\((p/\k=1)∨(¬p/\k=0)):=by grind
theorem gF(A B:List E)(i:Nat):cnt (A++B) i=cnt A i+cnt B i:=by
 induction A with
 |nil=>simp[cnt]
 | cons x r ih=>
  simp only[List.cons_append,cnt,ih];omega
def uU(x:E)(i:Nat):Int:=if x.s<=(i:Int)/\(i:Int)<x.s+x.n then 1 else 0
theorem DI(x:E)(i:Nat):∃k:Int,uU x i=k/\(((x.s<=(i:Int)/\(i:Int)<x.s+x.n)/\k=1)∨(¬(x.s<=(i:Int)/\(i:Int)<x.s+x.n)/\k=0)):=Mc _
theorem MR(x:E)(r:List E)(i:Nat):cnt (x::r) i=uU x i+cnt r i:=rfl
theorem mD(x:E)(i:Nat):cnt [x] i=uU x i:=by simp[cnt,uU]
theorem cnt_push(l:List E)(x:E)(i:Nat)(hl:∀y∈l,0<=y.n)(hx:0<=x.n):cnt (fC l x) i=cnt l i+uU x i:=by
 by_cases h:l=[]
 ·subst h;rw[mR,mD];simp[cnt]
 ·obtain⟨l',y,rfl⟩:=fB l h;cases hm:meets y x
  ·rw[eQ _ _ _ hm,gF,mD]
  ·rw[dJ _ _ _ hm,gF,gF,mD,mD];have hy:=hl y sM;obtain⟨h1,h2⟩:=(gX y x).1 hm;obtain⟨k1,e1,g1⟩:=DI (y.longer x.n) i;obtain⟨k2,e2,g2⟩:=DI y i;obtain⟨k3,e3,g3⟩:=DI x i;have q1:(y.longer x.n).s=y.s:=rfl;have q2:(y.longer x.n).n=y.n+x.n:=rfl;rw[e1,e2,e3];omega
theorem Bc(l:List E)(i:Nat):(∀x∈l,okB x=true)->cnt (joinL l) i=cnt l i:=by
 refine gG (P:=λl=>(∀x∈l,okB x=true)->cnt (joinL l) i=cnt l i) (λ_=>rfl) (λl x ih h=> ?_) l;have hl:∀y∈l,okB y=true:=λy hy=>h y (by simp[hy]);have hx:=(aB x).1 (h x sM);rw[dR,cnt_push _ _ _ (AL l hl) oM,ih hl,gF,mD]
theorem Cf(l:List E)(p q:Int)(i:Nat)(hp:0<=p)(hpq:p<=q)(hq:q<=65536):(∀x∈l,okB x=true)->cnt (aI l 0 p) i+cnt (aI l p q) i+cnt (aI l q 65536) i=cnt l i:=by
 induction l with
 |nil=>intro _;rfl
 | cons x r ih=>
  intro h;have h1:=ih λy hy=>h y (by simp[hy]);obtain⟨c1,c2,c3,c4,c5⟩:=(aB x).1 (h x sM);rw[dQ,dQ,dQ,gF,gF,gF,MR];have e1:cnt (if bY x 0 p=true then [bT x 0 p]else []) i=if x.s<=(i:Int)/\(i:Int)<x.s+x.n/\(i:Int)<x.s+(p-x.a)then 1 else 0:=by
   by_cases hb:max x.a 0<min (x.a+x.n) p
   ·rw[Qf (show bY x 0 p=true from Qo hb),mD];exact Jt (by simp only[bT];omega)
   ·rw[Qe (show ¬bY x 0 p=true by simpa [bY]using hb)];rw[Qe oM];rfl
  have e2:cnt (if bY x p q=true then [bT x p q]else []) i=if x.s<=(i:Int)/\(i:Int)<x.s+x.n/\x.s+(p-x.a)<=(i:Int)/\(i:Int)<x.s+(q-x.a)then 1 else 0:=by
   by_cases hb:max x.a p<min (x.a+x.n) q
   ·rw[Qf (show bY x p q=true from Qo hb),mD];exact Jt (by simp only[bT];omega)
   ·rw[Qe (show ¬bY x p q=true by simpa [bY]using hb)];rw[Qe oM];rfl
  have e3:cnt (if bY x q 65536=true then [bT x q 65536]else []) i=if x.s<=(i:Int)/\(i:Int)<x.s+x.n/\x.s+(q-x.a)<=(i:Int)then 1 else 0:=by
   by_cases hb:max x.a q<min (x.a+x.n) 65536
   ·rw[Qf (show bY x q 65536=true from Qo hb),mD];exact Jt (by simp only[bT];omega)
   ·rw[Qe (show ¬bY x q 65536=true by simpa [bY]using hb)];rw[Qe oM];rfl
  rw[e1,e2,e3,<-h1];simp only[uU];obtain⟨k1,e1,g1⟩:=Mc (x.s<=(i:Int)/\(i:Int)<x.s+x.n/\(i:Int)<x.s+(p-x.a));obtain⟨k2,e2,g2⟩:=Mc (x.s<=(i:Int)/\(i:Int)<x.s+x.n/\x.s+(p-x.a)<=(i:Int)/\(i:Int)<x.s+(q-x.a));obtain⟨k3,e3,g3⟩:=Mc (x.s<=(i:Int)/\(i:Int)<x.s+x.n/\x.s+(q-x.a)<=(i:Int));obtain⟨k4,e4,g4⟩:=Mc (x.s<=(i:Int)/\(i:Int)<x.s+x.n);rw[e1,e2,e3,e4];omega
theorem QI(l:List E)(p n:Int)(i:Nat)(h:∀x∈l,okB x=true):cnt (inL l p n) i=cnt (aI l p (p+n)) i:=by
 rw[wG,Bc _ _ (dO l _ _ h)]
theorem DF(l:List E)(x:E)(i:Nat)(hx:okB x=true)(hv:aH l=true):cnt (bM l x) i+cnt (inL l x.a x.n) i=cnt l i+uU x i:=by
 have hok:=aL hv;obtain⟨c1,c2,c3,c4,c5⟩:=(aB x).1 hx;unfold bM;rw[QI _ _ _ _ hok,Bc _ _ λy hy=> ?_,gF,gF,mD,<-Cf l x.a (x.a+x.n) i c2 oM c4 hok]
 ·omega
 ·exact aGh
theorem Sd(l:List E)(p n:Int)(i:Nat)(hp:fA p n 65536=true)(hv:aH l=true):cnt (gD l p n) i+cnt (inL l p n) i=cnt l i:=by
 have hok:=aL hv;have hp':0<=p/\0<=n/\p<=65536/\n<=65536-p:=Qt hp;rw[nI l p n hp'.2.1 hv,QI _ _ _ _ hok,Bc _ _ λy hy=> ?_,gF,<-Cf l p (p+n) i hp'.1 oM oM hok]
 ·omega
 ·simp only[Qn]at hy;rcases hy with hy|hy
  ·exact dO l _ _ hok y hy
  ·exact dO l _ _ hok y hy
theorem Hm{l:List E}{f t:Int}{y:E}(h:y∈aI l f t):∃x∈l,bY x f t=true/\y=bT x f t:=by
 obtain⟨x,hx,rfl⟩:=Yd.1 h;obtain⟨h1,h2⟩:=List.mem_filter.1 hx;exact⟨x,h1,h2,rfl⟩
theorem uC{N:Nat}{l:List E}(f t:Int)(h:aQ N l=true):aQ N (aI l f t)=true:=by
 refine(aP _ _).2 λy hy=> ?_;obtain⟨x,hx,hp,rfl⟩:=Hm hy;have:=(aP _ _).1 h x hx;exact sh21
theorem TY{N:Nat}{l:List E}{x:E}(h:aQ N l=true)(hx:1<=x.n/\0<=x.s/\x.s+x.n<=N):aQ N (fC l x)=true:=by
 by_cases hl:l=[]
 ·subst hl;exact(aP _ _).2 λy hy=>by simp[fC]at hy;rw[hy];exact hx
 ·obtain ⟨l',y,rfl⟩:=fB l hl;have h':=(aP _ _).1 h;refine(aP _ _).2 λz hz=> ?_;cases hm:meets y x
  ·rw[eQ _ _ _ hm]at hz;simp only[Qn,List.mem_singleton]at hz;rcases hz with (hz|rfl)|rfl
   ·exact h' z (by simp[hz])
   ·exact h' z sM
   ·exact hx
  ·rw[dJ _ _ _ hm]at hz;simp only[Qn,List.mem_singleton]at hz;rcases hz with hz|rfl
   ·exact h' z (by simp[hz])
   ·have hy:=h' y sM;have:=(gX y x).1 hm;simp only[E.longer];omega
theorem BA{N:Nat}(l:List E):aQ N l=true->aQ N (joinL l)=true:=by
 refine gG (P:=λl=>aQ N l=true->aQ N (joinL l)=true) (λh=>h) (λl x ih h=> ?_) l;have h':=(aP _ _).1 h;rw[dR];exact TY (ih ((aP _ _).2 λy hy=>h' y (by simp[hy]))) (h' x sM)
theorem Dw{N:Nat}{l:List E}(p n:Int)(h:aQ N l=true):aQ N (inL l p n)=true:=by
 rw[wG];exact BA _ (uC _ _ h)
theorem vY{N:Nat}{A B:List E}(hA:aQ N A=true)(hB:aQ N B=true):aQ N (A++B)=true:=by
 rw[aQ]at *;rw[List.all_append,hA,hB];rfl
theorem Xf{N:Nat}{l:List E}{x:E}(h:aQ N l=true)(hx:1<=x.n/\0<=x.s/\x.s+x.n<=N):aQ N (bM l x)=true:=
 BA _ (vY (uC _ _ h) (vY ((aP _ _).2 λy hy=>by simp at hy;rw[hy];exact hx) (uC _ _ h)))
theorem Xh{N:Nat}{l:List E}(p n:Int)(hn:0<=n)(hv:aH l=true)(h:aQ N l=true):aQ N (gD l p n)=true:=by grind [nI,BA,vY,uC]
def inside(l:List E)(m:Int):Prop:= ∀x∈l,x.a+x.n<=m
theorem uN{l:List E}{m:Int}(f t:Int)(h:inside l m):inside (aI l f t) m:=λy hy=>by
 obtain⟨x,hx,hp,rfl⟩:=Hm hy;have:=h x hx;exact sh21
theorem CX{l:List E}{m:Int}(hok:∀x∈l,okB x=true)(h:inside l m):inside (joinL l) m:=λy hy=>
 (Py l 0 m (λx hx=>by have:=(aB x).1 (hok x hx);omega) (λx hx=>⟨by have:=(aB x).1 (hok x hx);omega,h x hx⟩) y hy).2
theorem Pz{l:List E}{x:E}{m:Int}(hx:okB x=true)(hm:x.a+x.n<=m)(hv:aH l=true)(h:inside l m):inside (bM l x) m:=by
 have hok:=aL hv;refine CX (λy hy=> ?_) λy hy=> ?_
 ·exact aGh
 ·simp only[Qn,List.mem_singleton]at hy;rcases hy with hy|rfl|hy
  ·exact uN _ _ h y hy
  ·exact hm
  ·exact uN _ _ h y hy
theorem PD{l:List E}{m:Int}(p n:Int)(hn:0<=n)(hv:aH l=true)(h:inside l m):inside (gD l p n) m:=by
 have hok:=aL hv;rw[nI l p n hn hv];refine CX (λy hy=> ?_) λy hy=> ?_
 ·simp only[Qn]at hy;rcases hy with hy|hy <;> exact dO l _ _ hok y hy
 ·simp only[Qn]at hy;rcases hy with hy|hy <;> exact uN _ _ h y hy
theorem yH(l:List E)(m:Int):∀e,e<=m->inside l m->bD e l=true->(l.length:Int)+e<=m:=by
 induction l with
 |nil=>intro e h0 _ _;simpa using h0
 | cons x r ih=>
  intro e h0 hi h;simp only[bD,Qd,Qc]at h;have hx:=(aB x).1 h.1;have hxm:=hi x sM;have:=ih (x.a+x.n) hxm (λy hy=>hi y (by simp[hy])) h.2.2;simp only[List.length_cons];omega
theorem Lx(l:List E)(x:E):fT (bM l x)=true:=(nW _).1 (EC _)
theorem Xw(l:List E)(p n:Int)(hn:0<=n)(hv:aH l=true):fT (gD l p n)=true:=by grind [nI,nW,EC]
theorem YG{l:List E}{m:Int}(hv:aH l=true)(hn:fT l=true)(h:inside l m):inL l 0 m=l:=by
 rw[Dx l 0 m hv hn,Int.zero_add];exact nV l 0 m λx hx=>⟨aL hv x hx,by have:=(aB x).1 (aL hv x hx);omega,h x hx⟩
structure Vol where
 nm:LU
 n:Int
 r:Int
 l:List E
structure Fam where
 N:Nat
 vs:List Vol
def fJ(c:UInt8):Bool:=decide (97<=c.toNat)&&decide (c.toNat<=122)
def kZ(c:UInt8):Bool:=decide (48<=c.toNat)&&decide (c.toNat<=57)
def charsB:Bool->LU->Bool
 |_,[]=>true
 |f,c::r=>(fJ c||(!f&&kZ c))&&charsB false r
def bC(s:LU):Bool:=charsB true s&&(decide (1<=s.length)&&decide (s.length<=16))
theorem MZ(s:LU)(c:UInt8):∀f,charsB f (s++[c])=(charsB f s&&(fJ c||(!(f&&s.isEmpty)&&kZ c))):=by
 induction s with
 |nil=>intro f;simp[charsB]
 | cons a r ih=>
  intro f;simp only[List.cons_append,charsB,ih false];simp[Bool.and_assoc]
theorem wQ(s:LU)(k:Nat)(h:k<s.length):charsB true (s.take (k+1))=(charsB true (s.take k)&&(fJ s[k]||(decide (0<k)&&kZ s[k]))):=by
 rw[Qh h,MZ];congr 2
 cases k with
 |zero=>simp
 | succ k=>
  cases s with
  |nil=>simp at h
  |cons a r=>simp
theorem JJ(s:LU)(k:Nat)(h:charsB true (s.take k)=false):charsB true s=false:=by
 have h1:∀(s:LU) (k:Nat) (f:Bool),charsB f (s.take k)=false->charsB f s=false:=by
  intro s
  induction s with
  |nil=>intro k f h;simpa using h
  | cons a r ih=>
   intro k f h
   cases k with
   |zero=>simp[charsB]at h
   | succ k=>
    simp only[List.take_succ_cons,charsB,Yo]at h ⊢;rcases h with h|h
    ·exact .inl h
    ·exact .inr (ih k false h)
 exact h1 s k true h
def qW(v:Vol):List Vol->List Vol
 | []=>[v]
 |w::r=>if bytesBefore v.nm w.nm then v::w::r else w::qW v r
def bZ(vs:List Vol)(nm:LU):List Vol:=vs.filter λw=> !(w.nm==nm)
def fV(vs:List Vol)(v:Vol):List Vol:=qW v (bZ vs v.nm)
def aN(vs:List Vol)(nm:LU):Option Vol:=vs.find? λw=>w.nm==nm
def gU(vs:List Vol):Prop:=vs.Pairwise λa b=>bytesBefore a.nm b.nm=true
theorem LF{v x:Vol}{vs:List Vol}:x∈qW v vs↔x=v∨x∈vs:=by
 induction vs with
 |nil=>simp[qW]
 | cons w r ih=>
  unfold qW
  split
  ·simp
  ·simp only[Yl,ih]
   constructor
   ·rintro(h|h|h)
    ·exact .inr (.inl h)
    ·exact .inl h
    ·exact .inr (.inr h)
   ·rintro(h|h|h)
    ·exact .inr (.inl h)
    ·exact .inl h
    ·exact .inr (.inr h)
theorem CW(v:Vol)(vs:List Vol):(qW v vs).length=vs.length+1:=by induction vs <;> grind [qW]
theorem Km(f:Vol->Int)(v:Vol)(vs:List Vol):((qW v vs).map f).sum=f v+(vs.map f).sum:=by
 induction vs with
 |nil=>simp[qW]
 | cons w r ih=>
  unfold qW
  split
  ·simp
  ·simp only[List.map_cons,List.sum_cons,ih];omega
theorem iB{x:Vol}{vs:List Vol}{nm:LU}:x∈bZ vs nm↔x∈vs/\x.nm≠nm:=by simp[bZ]
theorem dM{x v:Vol}{vs:List Vol}:x∈fV vs v↔x=v∨(x∈vs/\x.nm≠v.nm):=by unfold fV;rw[LF,iB]
theorem sorted_del{vs:List Vol}(h:gU vs)(nm:LU):gU (bZ vs nm):=h.filter _
theorem NS{v:Vol}{vs:List Vol}(h:gU vs)(hne:∀w∈vs,w.nm≠v.nm):gU (qW v vs):=by
 induction vs with
 |nil=>simp[qW,gU]
 | cons w r ih=>
  obtain⟨h1,h2⟩:=Yk.1 h;unfold qW
  split
  ·rename_i hb
   refine Yk.2 ⟨λx hx=> ?_,h⟩;rcases Yl.1 hx with rfl|hx
   ·exact hb
   ·exact WideShapes.bytes_trans _ _ _ hb (h1 x hx)
  ·rename_i hb
   have hw:bytesBefore w.nm v.nm=true:=(WideAt.bytes_total w.nm v.nm (hne w sM)).resolve_right (by simpa using hb);refine Yk.2 ⟨λx hx=> ?_,ih h2 λx hx=>hne x (by simp[hx])⟩;rcases LF.1 hx with rfl|hx
   ·exact hw
   ·exact h1 x hx
theorem sorted_put{v:Vol}{vs:List Vol}(h:gU vs):gU (fV vs v):=NS (sorted_del h _) λ_ hw=>(iB.1 hw).2
theorem Cu{vs:List Vol}(h:gU vs){a b:Vol}(ha:a∈vs)(hb:b∈vs)(he:a.nm=b.nm):a=b:=by
 induction vs with
 |nil=>simp at ha
 | cons w r ih=>
  obtain⟨h1,h2⟩:=Yk.1 h;rcases Yl.1 ha with rfl|ha'
  ·rcases Yl.1 hb with rfl|hb'
   ·rfl
   ·have:=h1 b hb';rw[he,WideAt.bytes_irrefl]at this;cases this
  ·rcases Yl.1 hb with rfl|hb'
   ·have:=h1 a ha';rw[he,WideAt.bytes_irrefl]at this;cases this
   ·exact ih h2 ha' hb'
theorem aC{vs:List Vol}{nm:LU}{v:Vol}(h:aN vs nm=some v):v∈vs/\v.nm=nm:=
 ⟨List.mem_of_find?_eq_some h,by simpa using List.find?_some h⟩
theorem xJ{vs:List Vol}{nm:LU}:aN vs nm=none↔ ∀w∈vs,w.nm≠nm:=by simp[aN]
theorem rH{vs:List Vol}(h:gU vs){v:Vol}(hv:v∈vs):aN vs v.nm=some v:=by
 cases hg:aN vs v.nm with
 |none=>exact absurd rfl (xJ.1 hg v hv)
 | some w=>
  obtain⟨h1,h2⟩:=aC hg;rw[Cu h h1 hv h2]
theorem sU{vs:List Vol}(h:gU vs)(v:Vol)(nm:LU):aN (fV vs v) nm=if nm=v.nm then some v else aN vs nm:=by
 split
 ·rename_i he
  subst he;exact rH (sorted_put h) (dM.2 (.inl rfl))
 ·rename_i he
  cases hg:aN vs nm with
  | none=>
   rw[xJ]at hg ⊢;intro w hw;rcases dM.1 hw with rfl|hw
   ·exactλh=>he h.symm
   ·exact hg w hw.1
  | some w=>
   obtain⟨h1,rfl⟩:=aC hg;exact rH (sorted_put h) (dM.2 (.inr ⟨h1,he⟩))
theorem DD(f:Vol->Int){vs:List Vol}(h:gU vs){v:Vol}(hv:aN vs v.nm=some v):((bZ vs v.nm).map f).sum+f v=(vs.map f).sum:=by
 induction vs with
 |nil=>simp[aN]at hv
 | cons w r ih=>
  obtain⟨h1,h2⟩:=Yk.1 h;by_cases he:w.nm=v.nm
  ·have hw:w=v:=Cu h sM (aC hv).1 he;subst hw;have:bZ (w::r) w.nm=r:=by
    unfold bZ;rw[List.filter_cons_of_neg sM,List.filter_eq_self];intro x hx;have:=h1 x hx;simp only[Bool.not_eq_true',beq_eq_false_iff_ne,ne_eq];intro hn;rw[hn,WideAt.bytes_irrefl]at this;cases this
   rw[this];simp only[List.map_cons,List.sum_cons];omega
  ·have hg:aN r v.nm=some v:=by
    have h3:=hv;unfold aN at h3 ⊢;rw[List.find?_cons_of_neg (by simpa using he)]at h3;exact h3
   have:=ih h2 hg;unfold bZ at this ⊢;rw[List.filter_cons_of_pos (by simpa using he)];simp only[List.map_cons,List.sum_cons];omega
theorem sW{vs:List Vol}{nm:LU}(h:aN vs nm=none):bZ vs nm=vs:=by
 unfold bZ;rw[List.filter_eq_self];intro x hx
 simpa using xJ.1 h x hx
theorem Qs{vs:List Vol}(h:gU vs){v:Vol}(hv:aN vs v.nm=some v):(bZ vs v.nm).length+1=vs.length:=by
 have:=DD (λ_=>1) h hv;have hc:∀l:List Vol,(l.map λ_=>(1:Int)).sum=l.length:=by
  intro l
  induction l with
  |nil=>rfl
  |cons a r ih=>simp only[List.map_cons,List.sum_cons,List.length_cons,ih];omega
 rw[hc,hc]at this;omega
theorem OB{vs:List Vol}(h:gU vs){v w:Vol}(hv:aN vs v.nm=some w):(fV vs v).length=vs.length:=by
 obtain⟨h1,h2⟩:=aC hv;have:=Qs h (v:=w) (by rw[h2];exact hv);unfold fV;rw[CW,<-h2];omega
def tC(N:Nat)(vs:List Vol):List Int:=vs.foldl (λC v=>eU C v.l 1) (List.replicate N 0)
def iI(vs:List Vol)(i:Nat):Int:=(vs.map λv=>cnt v.l i).sum
theorem QH(N:Nat)(vs:List Vol)(k:Nat)(h:k<vs.length):tC N (vs.take (k+1))=eU (tC N (vs.take k)) vs[k].l 1:=by
 unfold tC;rw[Qh h,List.foldl_append];rfl
theorem Mq(vs:List Vol):∀C:List Int,(vs.foldl (λC v=>eU C v.l 1) C).length=C.length:=by
 induction vs with
 |nil=>intro C;rfl
 |cons v r ih=>intro C;rw[List.foldl_cons,ih,eT]
theorem lZ(N:Nat)(vs:List Vol):(tC N vs).length=N:=by simp[tC,Mq]
theorem sZ(N:Nat)(vs:List Vol)(hp:∀v∈vs,aQ N v.l=true)(i:Nat)(hi:i<N):(tC N vs).getD i 0=iI vs i:=by
 have h:∀(vs:List Vol) (C:List Int),C.length=N->(∀v∈vs,aQ N v.l=true)->(vs.foldl (λC v=>eU C v.l 1) C).getD i 0=C.getD i 0+iI vs i:=by
  intro vs
  induction vs with
  |nil=>intro C _ _;simp[iI]
  | cons v r ih=>
   intro C hC hp;rw[List.foldl_cons,ih (eU C v.l 1) (by rw[eT,hC]) λw hw=>hp w (by simp[hw]),mF v.l 1 C (by rw[hC];exact hp v sM) i oM];simp only[iI,List.map_cons,List.sum_cons];omega
 have:=h vs (List.replicate N 0) sM hp;unfold tC;rw[this];have h0:(List.replicate N (0:Int)).getD i 0=0:=by
  rw[Ql,List.getElem?_replicate]
  split <;> rfl
 omega
theorem uV(vs:List Vol)(i:Nat)(M:Nat)(h:∀v∈vs,v.l.length<=M):0<=iI vs i/\iI vs i<=M*vs.length:=by
 induction vs with
 |nil=>simp[iI]
 | cons v r ih=>
  have h1:=ih λw hw=>h w (by simp[hw]);have h2:=bU v.l i;have h3:=h v sM;simp only[iI,List.map_cons,List.sum_cons,List.length_cons]at h1 ⊢;rw[show((r.length+1:Nat):Int)=r.length+1 by omega,Int.mul_add];omega
theorem MP(N:Nat)(vs:List Vol)(hp:∀v∈vs,aQ N v.l=true)(h:∀v∈vs,v.l.length<=65536)(hl:vs.length<=32):inR 0 2097152 (tC N vs):=by
 refine pM.2 λi hi=> ?_;rw[lZ]at hi;rw[sZ N vs hp i hi];have:=uV vs i 65536 h;omega
theorem xO{N:Nat}{vs:List Vol}{C:List Int}(hp:∀v∈vs,aQ N v.l=true)(hC:C.length=N)(h:∀i,i<N->C.getD i 0=iI vs i):C=tC N vs:=by grind [QC,lZ,sZ]
theorem Bd{vs:List Vol}(h:gU vs)(v:Vol)(i:Nat):iI (fV vs v) i=cnt v.l i+iI (bZ vs v.nm) i:=Km _ _ _
theorem oL{vs:List Vol}(h:gU vs){v:Vol}(hv:aN vs v.nm=some v)(i:Nat):iI (bZ vs v.nm) i+cnt v.l i=iI vs i:=DD (λv=>cnt v.l i) h hv
structure Vol.ok(N:Nat)(v:Vol):Prop where
 name:bC v.nm=true
 n1:1<=v.n
 n2:v.n<=65536
 r0:0<=v.r
 r1:v.r<=v.n
 valid:aH v.l=true
 norm:fT v.l=true
 ins:inside v.l v.n
 perm:aQ N v.l=true
theorem Vol.ok.short{N:Nat}{v:Vol}(h:v.ok N):v.l.length<=65536/\(v.l.length:Int)<=v.n:=by
 refine⟨nL h.valid,?_⟩;have:=yH v.l v.n 0 (by have:=h.n1;omega) h.ins h.valid;omega
structure Fam.ok(F:Fam):Prop where
 hN:F.N<=65536
 sorted:gU F.vs
 few:F.vs.length<=32
 vol:∀v∈F.vs,v.ok F.N
def Fam.C(F:Fam):List Int:=tC F.N F.vs
theorem Fam.aIz(F:Fam):F.C.length=F.N:=lZ _ _
theorem Fam.ok.get{F:Fam}(h:F.ok)(i:Nat)(hi:i<F.N):F.C.getD i 0=iI F.vs i:=sZ _ _ (λv hv=>(h.vol v hv).perm) i hi
theorem Fam.ok.range{F:Fam}(h:F.ok):inR 0 2097152 F.C:=MP _ _ (λv hv=>(h.vol v hv).perm) (λv hv=>(h.vol v hv).short.1) h.few
def eP:Fam:=⟨0,[]⟩
theorem iZ:eP.ok:=⟨Yf _,List.Pairwise.nil,Yf _,by simp[eP]⟩
def eY(F G:Fam):List E:=bW (picks (oJ F.C G.C) F.N)
def inB(p n m:Int):Bool:=decide (0<=p/\0<=n/\p<=m/\n<=m-p)
theorem iK(p n m:Int):inB p n m=true↔0<=p/\0<=n/\p<=m/\n<=m-p:=decide_eq_true_iff
def BF(n r:Int):Bool:=decide (1<=n/\n<=65536/\0<=r/\r<=n)
def aW(F:Fam)(nm:LU)(n r:Int):Fam × Int:=
 if (bC nm&&BF n r)=false then (eP,1)
 else if (aN F.vs nm).isSome then (eP,10)
 else if 32<=F.vs.length then (eP,7)
 else (⟨F.N,fV F.vs ⟨nm,n,r,[]⟩⟩,0)
def bJ(F:Fam)(nm other:LU):Fam × Int:=match aN F.vs nm with
 |none=>(eP,9)
 | some v=>
  if bC other=false then (eP,1)
  else if (aN F.vs other).isSome then (eP,10)
  else if 32<=F.vs.length then (eP,7)
  else (⟨F.N,fV F.vs ⟨other,v.n,0,v.l⟩⟩,0)
def aZ(F:Fam)(nm:LU):Fam × List E × Int:=match aN F.vs nm with
 |none=>(eP,[],9)
 |some _=>(⟨F.N,bZ F.vs nm⟩,eY F ⟨F.N,bZ F.vs nm⟩,0)
def Vol.set(v:Vol)(l:List E):Vol:=⟨v.nm,v.n,v.r,l⟩
def Fam.with(F:Fam)(v:Vol):Fam:=⟨F.N,fV F.vs v⟩
def rA(N:Nat)(x:E):Bool:=decide (1<=x.n/\0<=x.s/\x.s+x.n<=N)
def aV(F:Fam)(nm:LU)(x:E):Fam × List E × Int:=match aN F.vs nm with
 |none=>(eP,[],9)
 |some v=>if (inB x.a x.n v.n&&rA F.N x)=false then (eP,[],2)else (F.with (v.set (bM v.l x)),eY F (F.with (v.set (bM v.l x))),0)
def bS(F:Fam)(nm:LU)(p n:Int):Fam × List E × Int:=match aN F.vs nm with
 |none=>(eP,[],9)
 |some v=>if inB p n v.n=false then (eP,[],2)else (F.with (v.set (gD v.l p n)),eY F (F.with (v.set (gD v.l p n))),0)
def aX(F:Fam)(nm:LU)(p:Int):Int × Bool × Int:=match aN F.vs nm with
 |none=>(0,false,9)
 |some v=>if inB p 1 v.n=false then (0,false,2)else (fU v.l p,fI v.l p,0)
def dP(F:Fam)(nm:LU)(p n:Int):List E × Int:=match aN F.vs nm with
 |none=>([],9)
 |some v=>if inB p n v.n=false then ([],2)else (inL v.l p n,0)
structure oW where
 nm:LU
 n:Int
 r:Int
 m:Int
 x:Int
def YC(C:List Int)(v:Vol):oW:=⟨v.nm,v.n,v.r,aR v.l,bF C v.l⟩
def dW(F:Fam)(nm:LU):oW × Int:=match aN F.vs nm with
 |none=>(⟨[],0,0,0,0⟩,9)
 |some v=>(YC F.C v,0)
theorem Fam.ok.with{F:Fam}(h:F.ok){v w:Vol}(hv:v.ok F.N)(hw:aN F.vs v.nm=some w):(F.with v).ok:=
 ⟨h.hN,sorted_put h.sorted,by show(fV _ _).length<=32;rw[OB h.sorted hw];exact h.few,λu hu=>by
  rcases dM.1 hu with rfl|hu
  ·exact hv
  ·exact h.vol u hu.1⟩
theorem Fam.ok.add{F:Fam}(h:F.ok){v:Vol}(hv:v.ok F.N)(hw:aN F.vs v.nm=none)(hl:F.vs.length<32):(⟨F.N,fV F.vs v⟩:Fam).ok:=
 ⟨h.hN,sorted_put h.sorted,by show(qW _ _).length<=32;rw[CW,sW hw];omega,λu hu=>by
  rcases dM.1 hu with rfl|hu
  ·exact hv
  ·exact h.vol u hu.1⟩
theorem Fam.ok.del{F:Fam}(h:F.ok)(nm:LU):(⟨F.N,bZ F.vs nm⟩:Fam).ok:=
 ⟨h.hN,sorted_del h.sorted _,Nat.le_trans (List.length_filter_le _ _) h.few,λu hu=>h.vol u (iB.1 hu).1⟩
theorem Vol.ok.put{N:Nat}{v:Vol}(h:v.ok N)(hN:N<=65536){x:E}(hx:(inB x.a x.n v.n&&rA N x)=true):okB x=true/\(v.set (bM v.l x)).ok N:=by
 rw[Qd,iK]at hx;obtain⟨⟨h1,h2,h3,h4⟩,hs⟩:=hx;have hs:1<=x.n/\0<=x.s/\x.s+x.n<=N:=Qt hs;have hn:=h.n2;have hok:okB x=true:=(aB x).2 ⟨hs.1,h1,hs.2.1,oM,oM⟩;exact⟨hok,h.name,h.n1,h.n2,h.r0,h.r1,Ej v.l x hok h.valid,Lx _ _,Pz hok (show x.a+x.n<=v.n by omega) h.valid h.ins,Xf h.perm hs⟩
theorem Vol.ok.cut{N:Nat}{v:Vol}(h:v.ok N){p n:Int}(hp:inB p n v.n=true):fA p n 65536=true/\(v.set (gD v.l p n)).ok N:=by
 obtain⟨h1,h2,h3,h4⟩:=(iK _ _ _).1 hp;have hn:=h.n2;exact⟨Qo oM,h.name,h.n1,h.n2,h.r0,h.r1,QB v.l p n h2 h.valid,Xw _ _ _ h2 h.valid,PD _ _ h2 h.valid h.ins,Xh _ _ h2 h.valid h.perm⟩
theorem Hd{F:Fam}(h:F.ok)(nm:LU)(n r:Int):(aW F nm n r).1.ok:=by
 unfold aW
 split
 ·exact iZ
 ·rename_i h1
  split
  ·exact iZ
  ·rename_i h2
   split
   ·exact iZ
   ·rename_i h3
    simp only[Bool.not_eq_false,Qd]at h1;obtain⟨q1,q2,q3,q4⟩:1<=n/\n<=65536/\0<=r/\r<=n:=Qt h1.2;refine h.add (v:=⟨nm,n,r,[]⟩) ⟨h1.1,q1,q2,q3,q4,rfl,rfl,λx hx=>by simp at hx,rfl⟩ (by simpa using h2) oM
theorem Lp{F:Fam}(h:F.ok)(nm other:LU):(bJ F nm other).1.ok:=by
 unfold bJ
 split
 ·exact iZ
 ·rename_i v hv
  have hk:=h.vol v (aC hv).1
  split
  ·exact iZ
  ·rename_i h1
   split
   ·exact iZ
   ·rename_i h2
    split
    ·exact iZ
    ·rename_i h3
     exact h.add (v:=⟨other,v.n,0,v.l⟩) ⟨by simpa using h1,hk.n1,hk.n2,Int.le_refl _,by have:=hk.n1;show(0:Int)<=v.n;omega,hk.valid,hk.norm,hk.ins,hk.perm⟩ (by simpa using h2) oM
theorem BC{F:Fam}(h:F.ok)(nm:LU):(aZ F nm).1.ok:=by
 unfold aZ
 split
 ·exact iZ
 ·exact h.del nm
theorem mU{F:Fam}(h:F.ok)(nm:LU)(x:E):(aV F nm x).1.ok:=by
 unfold aV
 split
 ·exact iZ
 ·rename_i v hv
  obtain⟨h1,h2⟩:=aC hv
  split
  ·exact iZ
  ·rename_i hx
   exact h.with ((h.vol v h1).put h.hN (by simpa using hx)).2 (w:=v) (by show aN F.vs v.nm=_;rw[h2];exact hv)
theorem Ep{F:Fam}(h:F.ok)(nm:LU)(p n:Int):(bS F nm p n).1.ok:=by
 unfold bS
 split
 ·exact iZ
 ·rename_i v hv
  obtain⟨h1,h2⟩:=aC hv
  split
  ·exact iZ
  ·rename_i hx
   exact h.with ((h.vol v h1).cut (by simpa using hx)).2 (w:=v) (by show aN F.vs v.nm=_;rw[h2];exact hv)
theorem Fb{F:Fam}(h:F.ok){v:Vol}(hv:aN F.vs v.nm=some v):eU F.C v.l (-1)=(⟨F.N,bZ F.vs v.nm⟩:Fam).C:=by
 have hk:=h.vol v (aC hv).1;refine xO (λu hu=>(h.vol u (iB.1 hu).1).perm) (by rw[eT,F.aIz]) λi hi=> ?_;rw[mF v.l (-1) _ sh23 i sh24,h.get i hi,<-oL h.sorted hv i];show _=iI (bZ F.vs v.nm) i;omega
theorem Jy{F:Fam}(h:F.ok){v:Vol}(hv:aN F.vs v.nm=some v):bW (gN (eU F.C v.l (-1)) v.l)=eY F ⟨F.N,bZ F.vs v.nm⟩:=by
 have hk:=h.vol v (aC hv).1;rw[Mi F.C v.l (by rw[F.aIz];exact h.hN) sh23 λi hi=>(pM.1 h.range i hi).1,Fb h hv,F.aIz];rfl
theorem IB{F:Fam}(h:F.ok){v:Vol}(hv:v∈F.vs){u:Vol}(hu:aN F.vs u.nm=none)(hl:u.l=v.l):eU F.C v.l 1=(⟨F.N,fV F.vs u⟩:Fam).C:=by
 have hk:=h.vol v hv;refine xO (λw hw=> ?_) (by rw[eT,F.aIz]) λi hi=> ?_
 ·rcases dM.1 hw with rfl|hw
  ·rw[hl];exact hk.perm
  ·exact(h.vol w hw.1).perm
 ·rw[mF v.l 1 _ sh23 i sh24,h.get i hi,Bd h.sorted,sW hu,hl];omega
theorem Fe{F:Fam}(h:F.ok){u:Vol}(hu:aN F.vs u.nm=none)(hl:u.l=[]):F.C=(⟨F.N,fV F.vs u⟩:Fam).C:=by
 refine xO (λw hw=> ?_) F.aIz λi hi=> ?_
 ·rcases dM.1 hw with rfl|hw
  ·rw[hl];rfl
  ·exact(h.vol w hw.1).perm
 ·rw[h.get i hi,Bd h.sorted,sW hu,hl];simp[cnt]
section
variable{F:Fam}{v:Vol}{l':List E}
theorem Cg(h:F.ok)(hv:aN F.vs v.nm=some v)(i:Nat):iI (F.with (v.set l')).vs i+cnt v.l i=iI F.vs i+cnt l' i:=by
 have h1:=Bd h.sorted (v.set l') i;have h2:=oL h.sorted hv i;show iI (fV F.vs (v.set l')) i+_=_;rw[h1,<-h2];show cnt l' i+iI (bZ F.vs v.nm) i+_=_;omega
theorem GV(h:F.ok)(hp:aQ F.N l'=true):∀w∈(F.with (v.set l')).vs,aQ F.N w.l=true:=λw hw=>by
 rcases dM.1 hw with rfl|hw
 ·exact hp
 ·exact(h.vol w hw.1).perm
theorem MW(h:F.ok)(hv:aN F.vs v.nm=some v){C:List Int}{old:List E}(hC:C.length=F.N)(hold:aQ F.N old=true)(hp:aQ F.N l'=true)(hi:∀i,i<F.N->C.getD i 0-cnt old i=iI F.vs i+cnt l' i-cnt v.l i):eU C old (-1)=(F.with (v.set l')).C:=by
 refine xO (GV h hp) (by rw[eT,hC];rfl) λi hi'=> ?_;have hi':i<F.N:=hi';rw[mF old (-1) C (by rw[hC];exact hold) i oM];have:=hi i hi';have:=Cg h hv (l':=l') i;omega
theorem EP(h:F.ok){C:List Int}{old:List E}(hC:C.length=F.N)(hold:aQ F.N old=true)(hc:eU C old (-1)=(F.with (v.set l')).C)(h0:∀i,i<F.N->0<=C.getD i 0)
  (hz:∀i,i<F.N->(F.with (v.set l')).C.getD i 0=0->(0<C.getD i 0↔0<F.C.getD i 0)):bW (gN (eU C old (-1)) old)=eY F (F.with (v.set l')):=by
 rw[Mi C old (by rw[hC];exact h.hN) (by rw[hC];exact hold) (λi hi=>h0 i oM),hc,hC];unfold eY;rw[vX _ (oJ F.C (F.with (v.set l')).C) F.N λi hi=> ?_];unfold oJ;by_cases hz':(F.with (v.set l')).C.getD i 0=0
 ·have:=hz i hi hz';by_cases h1:0<C.getD i 0
  ·rw[Qo h1,Qo (this.1 h1)]
  ·rw[Qp h1,Qp λh2=>h1 (this.2 h2)]
 ·rw[Qp hz'];rfl
end
theorem Vf{F:Fam}(h:F.ok){v:Vol}(hv:aN F.vs v.nm=some v){p n:Int}(hp:inB p n v.n=true):
  aQ F.N (inL v.l p n)=true/\eU F.C (inL v.l p n) (-1)=(F.with (v.set (gD v.l p n))).C/\bW (gN (eU F.C (inL v.l p n) (-1)) (inL v.l p n))=eY F (F.with (v.set (gD v.l p n))):=by
 have hk:=h.vol v (aC hv).1;obtain⟨hw,hk'⟩:=hk.cut hp;have h1:=Dw p n hk.perm;have h2:=MW h hv (l':=gD v.l p n) F.aIz h1 hk'.perm λi hi=>by
  rw[h.get i hi,<-Sd v.l p n i hw hk.valid];omega
 exact⟨h1,h2,EP h F.aIz h1 h2 (λi hi=>(pM.1 h.range i sh24).1) λi hi _=>Iff.rfl⟩
theorem QO{F:Fam}(h:F.ok){v:Vol}(hv:aN F.vs v.nm=some v){x:E}(hx:(inB x.a x.n v.n&&rA F.N x)=true):
  aQ F.N [x]=true/\aQ F.N (inL v.l x.a x.n)=true/\eU (eU F.C [x] 1) (inL v.l x.a x.n) (-1)=(F.with (v.set (bM v.l x))).C/\
   bW (gN (eU (eU F.C [x] 1) (inL v.l x.a x.n) (-1)) (inL v.l x.a x.n))=eY F (F.with (v.set (bM v.l x))):=by
 have hk:=h.vol v (aC hv).1;obtain⟨hok,hk'⟩:=hk.put h.hN hx;have hs:1<=x.n/\0<=x.s/\x.s+x.n<=F.N:=Qt (Qd _ _ ▸ hx).2;have h0:aQ F.N [x]=true:=(aP _ _).2 λy hy=>by simp at hy;rw[hy];exact hs
 have h1:=Dw x.a x.n hk.perm;have hl:(eU F.C [x] 1).length=F.N:=by rw[eT,F.aIz]
 have hg:∀i,i<F.N->(eU F.C [x] 1).getD i 0=iI F.vs i+uU x i:=λi hi=>by
  rw[mF [x] 1 _ (by rw[F.aIz];exact h0) i sh24,h.get i hi,mD];omega
 have hX:∀i,0<=uU x i:=λi=>by unfold uU;split <;> omega
 have h2:=MW h hv (l':=bM v.l x) hl h1 hk'.perm λi hi=>by
  rw[hg i hi];have:=DF v.l x i hok hk.valid;omega
 refine⟨h0,h1,h2,EP h hl h1 h2 (λi hi=> ?_) λi hi hz=> ?_⟩
 ·rw[hg i hi];have:=(uV F.vs i 65536 λv hv=>(h.vol v hv).short.1).1;have:=hX i;omega
 ·rw [hg i hi,h.get i hi];have hz':iI (F.with (v.set (bM v.l x))).vs i=0:=by
   rw[<-hz];exact(sZ _ _ (GV h hk'.perm) i hi).symm
  have q1:=Cg h hv (l':=bM v.l x) i;have q2:=DF v.l x i hok hk.valid;have q3:=(uV (F.with (v.set (bM v.l x))).vs i 65536 λw hw=>by
   rcases dM.1 hw with rfl|hw
   ·exact hk'.short.1
   ·exact(h.vol w hw.1).short.1).1
  have q4:0<=iI (bZ F.vs v.nm) i:=(uV _ i 65536 λw hw=>(h.vol w (iB.1 hw).1).short.1).1;have q5:=Bd h.sorted (v.set (bM v.l x)) i;have q6:cnt (bM v.l x) i=0:=by
   have:=(bU (bM v.l x) i).1;have q7:iI (F.with (v.set (bM v.l x))).vs i=cnt (bM v.l x) i+iI (bZ F.vs v.nm) i:=q5;omega
  have q8:uU x i=0:=by
   have q9:cnt (aI v.l 0 x.a++([x]++aI v.l (x.a+x.n) 65536)) i=0:=by
    refine(Bc _ i λy hy=> ?_).symm.trans q6;simp only[Qn,List.mem_singleton]at hy;rcases hy with hy|rfl|hy
    ·exact dO v.l _ _ (aL hk.valid) y hy
    ·exact hok
    ·exact dO v.l _ _ (aL hk.valid) y hy
   rw[gF,gF,mD]at q9;have:=(bU (aI v.l 0 x.a) i).1;have:=(bU (aI v.l (x.a+x.n) 65536) i).1;have:=hX i;omega
  omega
end Go.Proofs.YtphfgbbbejloaaaGreatDoor
