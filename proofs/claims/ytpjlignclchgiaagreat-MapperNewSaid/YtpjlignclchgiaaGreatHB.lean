/-
  Plain laws on free runs: clipping, what is taken, what is put back.
  Plain laws on maps of slots: which slots a list names, whether one is named twice, the free runs of a list of marks.
  Plain laws on free runs: where a run fits, the lowest slots, what Take chooses.
  Conditions: as each theorem says.
-/
import Derived.Test.YtpjlignclchgiaaGreatGA
namespace Go.Proofs.YtpjlignclchgiaaGreat
set_option linter.unusedSimpArgs false
set_option linter.unusedVariables false
set_option maxRecDepth 100000
set_option maxHeartbeats 16000000
def runE (f t:Int):E:=⟨0,t-f,f⟩
def beforeL (l:List E) (p:Int):List E:=(l.filter fun x=>decide (x.s<p)).map fun x=>runE x.s (min (x.s+x.n) p)
def fromL (l:List E) (p:Int):List E:=(l.filter fun x=>decide (p<x.s+x.n)).map fun x=>runE (max x.s p) (x.s+x.n)
theorem beforeL_take (l:List E) (p:Int) (k:Nat) (h:k<l.length):beforeL (l.take (k+1)) p=if l[k].s<p then beforeL (l.take k) p++[runE l[k].s (min (l[k].s+l[k].n) p)]else beforeL (l.take k) p:=by
 rw[List.take_succ_eq_append_getElem h];simp only[beforeL,List.filter_append,List.map_append,List.filter_cons,List.filter_nil];by_cases hp:l[k].s<p
 ·simp[hp]
 ·simp[hp]
theorem fromL_take (l:List E) (p:Int) (k:Nat) (h:k<l.length):fromL (l.take (k+1)) p=if p<l[k].s+l[k].n then fromL (l.take k) p++[runE (max l[k].s p) (l[k].s+l[k].n)]else fromL (l.take k) p:=by
 rw[List.take_succ_eq_append_getElem h];simp only[fromL,List.filter_append,List.map_append,List.filter_cons,List.filter_nil];by_cases hp:p<l[k].s+l[k].n
 ·simp[hp]
 ·simp[hp]
theorem beforeL_length (l:List E) (p:Int):(beforeL l p).length≤l.length:=by
 unfold beforeL;rw[List.length_map];exact List.length_filter_le _ _
theorem fromL_length (l:List E) (p:Int):(fromL l p).length≤l.length:=by
 unfold fromL;rw[List.length_map];exact List.length_filter_le _ _
theorem runE_ok {f t:Int} (h0:0≤f) (h1:f<t) (h2:t≤65536):okB (runE f t)=true:=(okB_iff _).2 ⟨by simp only[runE];omega,by simp[runE],by simp only[runE];omega,by simp only[runE];omega,by simp only[runE];omega⟩
theorem inX_run (f t:Int) (i:Nat):inX (runE f t) i=true↔f≤(i:Int)∧(i:Int)<t:=by
 rw[inX_iff];simp only[runE];omega
theorem hasB_append (A B:List E) (i:Nat):hasB (A++B) i=(hasB A i||hasB B i):=by simp[hasB]
theorem hasB_one (x:E) (h:okB x=true) (i:Nat):hasB [x] i=inX x i:=by simp[hasB,h]
theorem hasB_cons (x:E) (l:List E) (h:okB x=true) (i:Nat):hasB (x::l) i=(inX x i||hasB l i):=by simp[hasB,h]
theorem hasB_nil (i:Nat):hasB [] i=false:=rfl
theorem canon_cons {x:E} {r:List E} (h:Canon (x::r)):(x.a=0∧okB x=true)∧Canon r∧ ∀y∈r,x.s+x.n<y.s:=by
 obtain⟨h1,h2⟩:=h;rw[List.pairwise_cons]at h2;exact⟨h1 x (by simp),⟨fun y hy=>h1 y (by simp[hy]),h2.2⟩,h2.1⟩
theorem canon_of {x:E} {r:List E} (h1:x.a=0) (h2:okB x=true) (h3:Canon r) (h4:∀ y∈r,x.s+x.n<y.s):Canon (x::r):=by
 refine⟨fun y hy=> ?_,List.pairwise_cons.2 ⟨h4,h3.2⟩⟩;simp at hy;rcases hy with rfl|hy
 ·exact⟨h1,h2⟩
 ·exact h3.1 y hy
theorem canon_nil:Canon []:=⟨by simp,by simp⟩
theorem beforeL_cons (x:E) (l:List E) (p:Int):beforeL (x::l) p=(if x.s<p then [runE x.s (min (x.s+x.n) p)]else [])++beforeL l p:=by
 by_cases h:x.s<p <;> simp[beforeL,h]
theorem fromL_cons (x:E) (l:List E) (p:Int):fromL (x::l) p=(if p<x.s+x.n then [runE (max x.s p) (x.s+x.n)]else [])++fromL l p:=by
 by_cases h:p<x.s+x.n <;> simp[fromL,h]
theorem beforeL_mem {l:List E} {p:Int} {y:E} (h:y∈beforeL l p):∃ x∈l,x.s<p∧y=runE x.s (min (x.s+x.n) p):=by
 obtain⟨x,hx,rfl⟩:=List.mem_map.1 h;obtain⟨h1,h2⟩:=List.mem_filter.1 hx;exact⟨x,h1,of_decide_eq_true h2,rfl⟩
theorem fromL_mem {l:List E} {p:Int} {y:E} (h:y∈fromL l p):∃ x∈l,p<x.s+x.n∧y=runE (max x.s p) (x.s+x.n):=by
 obtain⟨x,hx,rfl⟩:=List.mem_map.1 h;obtain⟨h1,h2⟩:=List.mem_filter.1 hx;exact⟨x,h1,of_decide_eq_true h2,rfl⟩
theorem beforeL_canon (l:List E) (p:Int):Canon l→Canon (beforeL l p):=by
 induction l with
 |nil=>intro _;exact canon_nil
 | cons x r ih=>
  intro h;obtain⟨⟨_,h2⟩,h3,h4⟩:=canon_cons h;obtain⟨e1,e2,e3,e4,e5⟩:=(okB_iff x).1 h2;rw[beforeL_cons];by_cases hp:x.s<p
  ·rw[if_pos hp];refine canon_of rfl (runE_ok e3 (by omega) (by omega)) (ih h3) fun y hy=> ?_;obtain⟨z,hz,_,rfl⟩:=beforeL_mem hy;have:=h4 z hz;simp only[runE];omega
  ·rw[if_neg hp];exact ih h3
theorem fromL_canon (l:List E) (p:Int):Canon l→Canon (fromL l p):=by
 induction l with
 |nil=>intro _;exact canon_nil
 | cons x r ih=>
  intro h;obtain⟨⟨_,h2⟩,h3,h4⟩:=canon_cons h;obtain⟨e1,e2,e3,e4,e5⟩:=(okB_iff x).1 h2;rw[fromL_cons];by_cases hp:p<x.s+x.n
  ·rw[if_pos hp];refine canon_of rfl (runE_ok (by omega) (by omega) (by omega)) (ih h3) fun y hy=> ?_;obtain⟨z,hz,_,rfl⟩:=fromL_mem hy;have:=h4 z hz;simp only[runE];omega
  ·rw[if_neg hp];exact ih h3
theorem hasB_before (l:List E) (p:Int) (i:Nat):Canon l→hasB (beforeL l p) i=(hasB l i&&decide ((i:Int)<p)):=by
 induction l with
 |nil=>intro _;simp[beforeL,hasB]
 | cons x r ih=>
  intro h;obtain⟨⟨_,h2⟩,h3,h4⟩:=canon_cons h;obtain⟨e1,e2,e3,e4,e5⟩:=(okB_iff x).1 h2;rw[beforeL_cons,hasB_append,ih h3,hasB_cons x r h2,Bool.and_or_distrib_right];congr 1;by_cases hp:x.s<p
  ·rw[if_pos hp,hasB_one _ (runE_ok e3 (by omega) (by omega)),Bool.eq_iff_iff,inX_run];simp only[Bool.and_eq_true,inX_iff,decide_eq_true_eq];omega
  ·rw[if_neg hp,hasB_nil]
   symm
   rw[Bool.eq_false_iff];simp only[ne_eq,Bool.and_eq_true,inX_iff,decide_eq_true_eq];omega
theorem hasB_from (l:List E) (p:Int) (i:Nat):Canon l→hasB (fromL l p) i=(hasB l i&&decide (p≤(i:Int))):=by
 induction l with
 |nil=>intro _;simp[fromL,hasB]
 | cons x r ih=>
  intro h;obtain⟨⟨_,h2⟩,h3,h4⟩:=canon_cons h;obtain⟨e1,e2,e3,e4,e5⟩:=(okB_iff x).1 h2;rw[fromL_cons,hasB_append,ih h3,hasB_cons x r h2,Bool.and_or_distrib_right];congr 1;by_cases hp:p<x.s+x.n
  ·rw[if_pos hp,hasB_one _ (runE_ok (by omega) (by omega) (by omega)),Bool.eq_iff_iff,inX_run];simp only[Bool.and_eq_true,inX_iff,decide_eq_true_eq];omega
  ·rw[if_neg hp,hasB_nil]
   symm
   rw[Bool.eq_false_iff];simp only[ne_eq,Bool.and_eq_true,inX_iff,decide_eq_true_eq];omega
def lessX (l:List E) (x:E):List E:=beforeL l x.s++fromL (fromL l x.s) (x.s+x.n)
def withoutL (l less:List E):List E:=less.foldl lessX l
theorem withoutL_take (l less:List E) (k:Nat) (h:k<less.length):withoutL l (less.take (k+1))=lessX (withoutL l (less.take k)) less[k]:=by
 rw[List.take_succ_eq_append_getElem h];simp only[withoutL,List.foldl_append,List.foldl_cons,List.foldl_nil]
theorem canon_append {A B:List E} (hA:Canon A) (hB:Canon B) (h:∀ x∈A,∀y∈B,x.s+x.n<y.s):Canon (A++B):=by
 refine⟨fun x hx=> ?_,List.pairwise_append.2 ⟨hA.2,hB.2,h⟩⟩;rcases List.mem_append.1 hx with h1|h1
 ·exact hA.1 x h1
 ·exact hB.1 x h1
theorem lessX_canon (l:List E) (x:E) (hl:Canon l) (hx:1≤x.n):Canon (lessX l x):=by
 refine canon_append (beforeL_canon _ _ hl) (fromL_canon _ _ (fromL_canon _ _ hl)) fun y hy z hz=> ?_;obtain⟨u,_,_,rfl⟩:=beforeL_mem hy;obtain⟨v,_,_,rfl⟩:=fromL_mem hz;simp only[runE];omega
theorem hasB_less (l:List E) (x:E) (hl:Canon l) (i:Nat) (hx:1≤x.n):hasB (lessX l x) i=(hasB l i&& !inX x i):=by
 unfold lessX;rw[hasB_append,hasB_before _ _ _ hl,hasB_from _ _ _ (fromL_canon _ _ hl),hasB_from _ _ _ hl];cases hasB l i
 ·rfl
 ·rw[Bool.eq_iff_iff];simp only[Bool.true_and,Bool.or_eq_true,Bool.and_eq_true,decide_eq_true_eq,Bool.not_eq_true',Bool.eq_false_iff,ne_eq,inX_iff];omega
theorem without_facts (less:List E) (h:∀ x∈less,okB x=true):∀ l,Canon l→Canon (withoutL l less)∧ ∀i,hasB (withoutL l less) i=(hasB l i&& !hasB less i):=by
 induction less with
 |nil=>intro l hl;exact⟨hl,fun i=>by simp[withoutL,hasB]⟩
 | cons x r ih=>
  intro l hl;have hx:=h x (by simp);have hn:=((okB_iff x).1 hx).1;obtain⟨h1,h2⟩:=ih (fun y hy=>h y (by simp[hy])) (lessX l x) (lessX_canon l x hl hn);refine⟨h1,fun i=> ?_⟩;have:withoutL l (x::r)=withoutL (lessX l x) r:=rfl;rw[this,h2,hasB_less l x hl i hn,hasB_cons x r hx];cases hasB l i <;> cases inX x i <;> cases hasB r i <;> rfl
def longB (n:Int) (y:E):Bool:=decide (n≤y.n)
def fitS (l:List E) (n:Int):Option Int:=(l.find? (longB n)).map E.s
theorem find_at (l:List E) (f:E→Bool) (x:E) (h:l.find? f=some x):∃ (k:Nat) (hk:k<l.length),l[k]=x∧(∀y∈l.take k,f y=false)∧f x=true:=by
 induction l with
 |nil=>simp at h
 | cons z r ih=>
  by_cases hz:f z=true
  ·rw[List.find?_cons_of_pos hz]at h;injection h with h;subst h;exact⟨0,by simp,rfl,by simp,hz⟩
  ·rw[List.find?_cons_of_neg hz]at h;obtain⟨k,hk,h1,h2,h3⟩:=ih h;refine⟨k+1,by simpa using hk,by simpa using h1,fun y hy=> ?_,h3⟩;rw[List.take_succ_cons,List.mem_cons]at hy;rcases hy with rfl|hy
   ·simpa using hz
   ·exact h2 y hy
def lowStep (st:List E × Int) (x:E):List E × Int:=(if 0<min st.2 x.n then st.1++[⟨0,min st.2 x.n,x.s⟩]else st.1,st.2-min st.2 x.n)
def lowAll (l:List E) (n:Int):List E × Int:=l.foldl lowStep ([],n)
theorem lowAll_take (l:List E) (n:Int) (k:Nat) (h:k<l.length):lowAll (l.take (k+1)) n=lowStep (lowAll (l.take k) n) l[k]:=by
 rw[List.take_succ_eq_append_getElem h];simp only[lowAll,List.foldl_append,List.foldl_cons,List.foldl_nil]
theorem low_facts (l:List E) (n:Int) (hn:0≤n) (h:∀ x∈l,1≤x.n) (k:Nat):k≤l.length→(0≤(lowAll (l.take k) n).2∧(lowAll (l.take k) n).2≤n)∧(lowAll (l.take k) n).1.length≤k:=by
 induction k with
 |zero=>intro _;simp[lowAll,hn]
 | succ k ih=>
  intro hk;have hlt:k<l.length:=by omega
  obtain⟨⟨h1,h2⟩,h3⟩:=ih (by omega);have h4:=h _ (List.getElem_mem hlt);rw[lowAll_take l n k hlt];simp only[lowStep];refine⟨by omega,?_⟩
  split
  ·simp;omega
  ·omega
def E.flat (x:E):E:=⟨0,x.n,x.s⟩
def flatL (l:List E):List E:=l.map E.flat
theorem flat_wf {N:Nat} {l:List E} (hN:N≤65536) (h:permB N l=true):wfL (flatL l):=by
 intro x hx;obtain⟨y,hy,rfl⟩:=List.mem_map.1 hx;have:=(permB_iff _ _).1 h y hy;exact⟨by simp[E.flat],by simp only[E.flat];omega,by simp only[E.flat];omega⟩
def onceB (l:List E):Bool:=(lenL (runsL (flatL l))==lenL l)
def listF (l:List E) (i:Nat):Bool:=l.any fun x=>inX x i
theorem listF_append (A B:List E) (i:Nat):listF (A++B) i=(listF A i||listF B i):=by simp[listF]
theorem listF_one (x:E) (i:Nat):listF [x] i=inX x i:=by simp[listF]
theorem listF_iff (l:List E) (i:Nat):listF l i=true↔ ∃x∈l,x.s≤(i:Int)∧(i:Int)<x.s+x.n:=by
 simp only[listF,List.any_eq_true,inX_iff]
theorem listF_far {N:Nat} {l:List E} (h:permB N l=true) (i:Nat) (hi:N≤i):listF l i=false:=by
 rw[Bool.eq_false_iff];intro hc;obtain⟨x,hx,h1,h2⟩:=(listF_iff _ _).1 hc;have:=(permB_iff _ _).1 h x hx;omega
theorem flat_ok {N:Nat} {l:List E} (hN:N≤65536) (h:permB N l=true):∀ x∈flatL l,okB x=true:=by
 intro x hx;obtain⟨y,hy,rfl⟩:=List.mem_map.1 hx;have:=(permB_iff _ _).1 h y hy;exact(okB_iff _).2 ⟨by simp only[E.flat];omega,by simp[E.flat],by simp only[E.flat];omega,by simp only[E.flat];omega,by simp only[E.flat];omega⟩
theorem hasB_flat {N:Nat} {l:List E} (hN:N≤65536) (h:permB N l=true) (i:Nat):hasB (flatL l) i=listF l i:=by
 rw[Bool.eq_iff_iff,listF_iff];have hok:=flat_ok hN h;simp only[hasB,List.any_eq_true,Bool.and_eq_true,inX_iff]
 constructor
 ·rintro⟨x,hx,_,h1,h2⟩;obtain⟨y,hy,rfl⟩:=List.mem_map.1 hx;exact⟨y,hy,h1,h2⟩
 ·rintro⟨y,hy,h1,h2⟩;have hm:y.flat∈flatL l:=List.mem_map.2 ⟨y,hy,rfl⟩;exact⟨y.flat,hm,hok _ hm,h1,h2⟩
theorem area_listF {N:Nat} {l:List E} (hN:N≤65536) (h:permB N l=true):lenL (runsL (flatL l))=area (listF l) N:=by
 rw[lenL_canon _ (runs_facts _).1,area_congr _ (listF l) _ fun i _=>by rw[hasB_runs,hasB_flat hN h],area_cut _ N 65536 hN fun i hi _=>listF_far h i hi]
def clashN (N:Nat) (l:List E) (x:E):Nat:=area (fun i=>listF l i&&inX x i) N
def gapN (N:Nat) (l:List E):Int:=lenL l-area (listF l) N
theorem lenL_append (A B:List E):lenL (A++B)=lenL A+lenL B:=by simp[lenL]
theorem lenL_one (x:E):lenL [x]=x.n:=by simp[lenL]
theorem gap_nil (N:Nat):gapN N []=0:=by
 unfold gapN;rw[area_false (listF []) _ fun i _=>rfl];rfl
theorem gap_snoc (N:Nat) (l:List E) (x:E) (h:1≤x.n∧0≤x.s∧x.s+x.n≤N):gapN N (l++[x])=gapN N l+clashN N l x:=by
 unfold gapN clashN;have h1:=area_or_and (listF l) (inX x) N;have h2:=area_inX x N h.2.1 (by omega) h.2.2;rw[lenL_append,lenL_one,area_congr (listF (l++[x])) (fun i=>listF l i||inX x i) N fun i _=>by rw[listF_append,listF_one]];omega
theorem once_iff {N:Nat} {l:List E} (hN:N≤65536) (h:permB N l=true):onceB l=true↔gapN N l=0:=by
 unfold onceB gapN;rw[area_listF hN h,beq_iff_eq];omega
def rangeB (N:Nat) (l:List E):Bool:=permB N l&&onceB l
theorem range_yes {N:Nat} {l:List E} (hN:N≤65536) (hp:permB N l=true) (hg:gapN N l=0):rangeB N l=true:=by
 unfold rangeB;rw[hp,(once_iff hN hp).2 hg];rfl
theorem range_parts {N:Nat} {l:List E} (hN:N≤65536) (h:rangeB N l=true):permB N l=true∧onceB l=true∧gapN N l=0:=by
 unfold rangeB at h;rw[Bool.and_eq_true]at h;exact⟨h.1,h.2,(once_iff hN h.1).1 h.2⟩
def freeF (M:List Bool) (i:Nat):Bool:= !M.getD i true
def freeR (M:List Bool):List E:=runsL (picks (freeF M) M.length)
theorem freeR_canon (M:List Bool):Canon (freeR M):=(runs_facts _).1
theorem freeF_far (M:List Bool) (i:Nat) (h:M.length≤i):freeF M i=false:=by
 unfold freeF;rw[List.getD_eq_getElem?_getD,List.getElem?_eq_none h];rfl
theorem freeF_in (M:List Bool) (i:Nat) (h:i<M.length):freeF M i= !M.getD i false:=by
 unfold freeF;rw[List.getD_eq_getElem?_getD,List.getD_eq_getElem?_getD,List.getElem?_eq_getElem h];rfl
theorem freeF_lt {M:List Bool} {i:Nat} (h:freeF M i=true):i<M.length:=by
 rcases Nat.lt_or_ge i M.length with h1|h1
 ·exact h1
 ·rw[freeF_far M i h1]at h;cases h
theorem hasB_free (M:List Bool) (hN:M.length≤65536) (i:Nat):hasB (freeR M) i=freeF M i:=by
 unfold freeR;rw[hasB_runs,hasB_picks _ _ hN];by_cases h:i<M.length
 ·simp[h]
 ·rw[freeF_far M i (by omega)];simp
theorem lenL_free (M:List Bool) (hN:M.length≤65536):lenL (freeR M)=area (freeF M) M.length:=lenL_picks _ _ hN
def chgM (M:List Bool) (l:List E) (u:Bool):List Bool:=mk (fun i=>if listF l i then u else M.getD i false) M.length
theorem chgM_length (M:List Bool) (l:List E) (u:Bool):(chgM M l u).length=M.length:=mk_length _ _
def stN (M:List Bool) (l:List E) (u:Bool):Nat:=area (fun i=>listF l i&&(M.getD i false==u)) M.length
theorem free_chg (M:List Bool) (l:List E) (u:Bool) (i:Nat) (hi:i<M.length):freeF (chgM M l u) i=if listF l i then !u else freeF M i:=by
 rw[freeF_in _ _ (by rw[chgM_length];exact hi),freeF_in _ _ hi];unfold chgM;rw[mk_get _ _ _ hi]
 split <;> rfl
theorem hasB_chg (M:List Bool) (l:List E) (u:Bool) (hN:M.length≤65536) (i:Nat):hasB (freeR (chgM M l u)) i=(decide (i<M.length)&&if listF l i then !u else freeF M i):=by
 rw[hasB_free _ (by rw[chgM_length];exact hN)];by_cases hi:i<M.length
 ·rw[free_chg _ _ _ _ hi];simp[hi]
 ·rw[freeF_far _ _ (by rw[chgM_length];omega)];simp[hi]
section
variable {M:List Bool} {l:List E} (hN:M.length≤65536) (hp:permB M.length l=true)
include hN hp
theorem without_free:Canon (withoutL (freeR M) (runsL (flatL l)))∧ ∀i,hasB (withoutL (freeR M) (runsL (flatL l))) i=(freeF M i&& !listF l i):=by
 obtain⟨h1,h2⟩:=without_facts (runsL (flatL l)) (fun x hx=>((runs_facts (flatL l)).1.1 x hx).2) (freeR M) (freeR_canon M);exact⟨h1,fun i=>by rw[h2,hasB_free M hN,hasB_runs,hasB_flat hN hp]⟩
theorem mark_is:withoutL (freeR M) (runsL (flatL l))=freeR (chgM M l true):=by
 obtain⟨h1,h2⟩:=without_free hN hp;refine runs_ext h1 (freeR_canon _) fun i _=> ?_;rw[h2,hasB_chg _ _ _ hN];by_cases hi:i<M.length
 ·cases listF l i <;> simp[hi]
 ·rw[freeF_far M i (by omega)];simp[hi]
theorem mark_size:lenL (withoutL (freeR M) (runsL (flatL l)))+lenL (runsL (flatL l))=lenL (freeR M)↔stN M l true=0:=by
 obtain ⟨h1,h2⟩:=without_free hN hp;have e1:lenL (withoutL (freeR M) (runsL (flatL l)))=area (fun i=>freeF M i&& !listF l i) M.length:=by
  rw[lenL_canon _ h1,area_congr _ _ _ fun i _=>h2 i,area_cut _ _ _ hN fun i hi _=>by rw[freeF_far M i hi];rfl]
 have e2:=area_listF hN hp;have e3:=lenL_free M hN;have e4:=area_split (freeF M) (listF l) M.length;have e5:=area_split (listF l) (freeF M) M.length;have e6:area (fun i=>freeF M i&&listF l i) M.length=area (fun i=>listF l i&&freeF M i) M.length:=area_congr _ _ _ fun i _=>Bool.and_comm _ _;have e7:area (fun i=>listF l i&& !freeF M i) M.length=stN M l true:=area_congr _ _ _ fun i hi=>by
  rw[freeF_in M i hi];cases listF l i <;> cases M.getD i false <;> rfl
 rw[e1,e2,e3];omega
theorem hasB_both:Canon (runsL (freeR M++runsL (flatL l)))∧ ∀i,hasB (runsL (freeR M++runsL (flatL l))) i=(freeF M i||listF l i):=by
 refine⟨(runs_facts _).1,fun i=> ?_⟩;rw[hasB_runs,hasB_append,hasB_free M hN,hasB_runs,hasB_flat hN hp]
theorem give_is:runsL (freeR M++runsL (flatL l))=freeR (chgM M l false):=by
 obtain⟨h1,h2⟩:=hasB_both hN hp;refine runs_ext h1 (freeR_canon _) fun i _=> ?_;rw[h2,hasB_chg _ _ _ hN];by_cases hi:i<M.length
 ·cases listF l i <;> simp[hi]
 ·rw[freeF_far M i (by omega),listF_far hp i (by omega)];simp[hi]
theorem give_size:lenL (runsL (freeR M++runsL (flatL l)))=lenL (freeR M)+lenL (runsL (flatL l))↔stN M l false=0:=by
 obtain ⟨h1,h2⟩:=hasB_both hN hp;have e1:lenL (runsL (freeR M++runsL (flatL l)))=area (fun i=>freeF M i||listF l i) M.length:=by
  rw[lenL_canon _ h1,area_congr _ _ _ fun i _=>h2 i,area_cut _ _ _ hN fun i hi _=>by rw[freeF_far M i hi,listF_far hp i hi];rfl]
 have e2:=area_listF hN hp;have e3:=lenL_free M hN;have e4:=area_or_and (freeF M) (listF l) M.length;have e7:area (fun i=>freeF M i&&listF l i) M.length=stN M l false:=area_congr _ _ _ fun i hi=>by
  rw[freeF_in M i hi];cases listF l i <;> cases M.getD i false <;> rfl
 rw[e1,e2,e3];omega
end
theorem canon_sep {R:List E} (h:Canon R) {x y:E} (hx:x∈R) (hy:y∈R):x=y∨x.s+x.n<y.s∨y.s+y.n<x.s:=by
 obtain⟨i,hi,rfl⟩:=List.getElem_of_mem hx;obtain⟨j,hj,rfl⟩:=List.getElem_of_mem hy;have hp:=List.pairwise_iff_getElem.1 h.2;rcases Nat.lt_trichotomy i j with h1|h1|h1
 ·exact .inr (.inl (hp i j hi hj h1))
 ·subst h1;exact .inl rfl
 ·exact .inr (.inr (hp j i hj hi h1))
theorem canon_span {R:List E} (h:Canon R) (t:Nat) (n:Nat):(∀j,j<n+1→hasB R (t+j)=true)→ ∃x∈R,x.s≤(t:Int)∧(t:Int)+(n+1:Nat)≤x.s+x.n:=by
 induction n with
 | zero=>
  intro hj;obtain⟨x,hx,_,h1,h2⟩:=(hasB_iff _ _).1 (hj 0 (by omega));exact⟨x,hx,by omega,by omega⟩
 | succ n ih=>
  intro hj;obtain⟨x,hx,h1,h2⟩:=ih fun j hjn=>hj j (by omega);obtain⟨y,hy,_,h3,h4⟩:=(hasB_iff _ _).1 (hj (n+1) (by omega));rcases canon_sep h hx hy with rfl|h5|h5
  ·exact⟨x,hx,h1,by omega⟩
  ·omega
  ·omega
def roomB (M:List Bool) (s n:Nat):Bool:=(List.range n).all fun j=>freeF M (s+j)
theorem roomB_iff (M:List Bool) (s n:Nat):roomB M s n=true↔ ∀j,j<n→freeF M (s+j)=true:=by
 simp[roomB]
theorem hasB_mem {R:List E} {x:E} (h:Canon R) (hx:x∈R) (i:Nat) (h1:x.s≤(i:Int)) (h2:(i:Int)<x.s+x.n):hasB R i=true:=
 (hasB_iff _ _).2 ⟨x,hx,(h.1 x hx).2,h1,h2⟩
theorem fit_gen {R:List E} (h:Canon R) (n:Nat) (hn:1≤n):
  (fitS R n=none→ ∀t:Nat,∃j,j<n∧hasB R (t+j)=false)∧
  (∀s,fitS R n=some s→ ∃s':Nat,s=s'∧(∀j,j<n→hasB R (s'+j)=true)∧ ∀t:Nat,t<s'→ ∃j,j<n∧hasB R (t+j)=false):=by
 have key:∀ t:Nat,(∀j,j<n→hasB R (t+j)=true)→ ∃x∈R,x.s≤(t:Int)∧(t:Int)+n≤x.s+x.n:=fun t ht=>by
  obtain⟨m,rfl⟩:∃ m,n=m+1:=⟨n-1,by omega⟩;exact canon_span h t m ht
 have neg:∀ t:Nat,¬(∀j,j<n→hasB R (t+j)=true)→ ∃j,j<n∧hasB R (t+j)=false:=fun t ht=>by
  refine Classical.byContradiction fun hc=>ht fun j hj=> ?_;rw[←Bool.not_eq_false];exact fun hf=>hc ⟨j,hj,hf⟩
 constructor
 ·intro hf t;refine neg t fun ht=> ?_;obtain⟨x,hx,h1,h2⟩:=key t ht;unfold fitS at hf;rw[Option.map_eq_none_iff,List.find?_eq_none]at hf;exact hf x hx (by simp[longB];omega)
 ·intro s hs;obtain⟨x,hx,rfl⟩:=Option.map_eq_some_iff.1 hs;obtain⟨k,hk,hlk,hkf,hfx⟩:=find_at R (longB n) x hx;have hxm:x∈R:=by rw[←hlk];exact List.getElem_mem hk
  obtain⟨c1,c2,c3,c4,c5⟩:=(okB_iff _).1 (h.1 x hxm).2;have hnx:(n:Int)≤x.n:=of_decide_eq_true hfx;refine⟨x.s.toNat,by omega,fun j hj=>hasB_mem h hxm _ (by omega) (by omega),fun t ht=>neg t fun hc=> ?_⟩;obtain⟨y,hy,h1,h2⟩:=key t hc;obtain⟨j,hj,rfl⟩:=List.getElem_of_mem hy;have hp:=List.pairwise_iff_getElem.1 h.2;rcases Nat.lt_trichotomy j k with hjk|hjk|hjk
  ·have:=hkf R[j] (List.mem_take_iff_getElem.2 ⟨j,by omega,rfl⟩);simp[longB]at this;omega
  ·subst hjk;rw[hlk]at h1;omega
  ·have:=hp k j hk hj hjk;rw[hlk]at this;omega
theorem from_free (M:List Bool) (hN:M.length≤65536) (h:Nat):Canon (fromL (freeR M) h)∧ ∀i,hasB (fromL (freeR M) h) i=(freeF M i&&decide (h≤i)):=by
 refine⟨fromL_canon _ _ (freeR_canon M),fun i=> ?_⟩;rw[hasB_from _ _ _ (freeR_canon M),hasB_free M hN];congr 1;rw[Bool.eq_iff_iff];simp
theorem before_free (M:List Bool) (hN:M.length≤65536) (h:Nat):Canon (beforeL (freeR M) h)∧ ∀i,hasB (beforeL (freeR M) h) i=(freeF M i&&decide (i<h)):=by
 refine⟨beforeL_canon _ _ (freeR_canon M),fun i=> ?_⟩;rw[hasB_before _ _ _ (freeR_canon M),hasB_free M hN];congr 1;rw[Bool.eq_iff_iff];simp
theorem room_not {M:List Bool} {t n j:Nat} (hj:j<n) (h:freeF M (t+j)=false):roomB M t n=false:=by
 rw[Bool.eq_false_iff];intro hc;rw[(roomB_iff _ _ _).1 hc j hj]at h;cases h
theorem fit_from_some {M:List Bool} (hN:M.length≤65536) {h n:Nat} (hn:1≤n) {s:Int} (hf:fitS (fromL (freeR M) h) n=some s):
  ∃s':Nat,s=s'∧h≤s'∧roomB M s' n=true∧ ∀t,h≤t→t<s'→roomB M t n=false:=by
 obtain⟨h1,h2⟩:=from_free M hN h;obtain⟨s',e,hall,hno⟩:=(fit_gen h1 n hn).2 s hf;have h0:=hall 0 (by omega);rw[h2,Bool.and_eq_true]at h0;have h0':=of_decide_eq_true h0.2;refine⟨s',e,by omega,(roomB_iff _ _ _).2 fun j hj=> ?_,fun t ht hts=> ?_⟩
 ·have:=hall j hj;rw[h2,Bool.and_eq_true]at this;exact this.1
 ·obtain⟨j,hj,hb⟩:=hno t hts;refine room_not hj ?_;rw[h2]at hb
  simpa [show h≤t+j by omega]using hb
theorem fit_some' {M:List Bool} (hN:M.length≤65536) {n:Nat} (hn:1≤n) {s:Int} (hf:fitS (freeR M) n=some s):
  ∃s':Nat,s=s'∧roomB M s' n=true∧ ∀t,t<s'→roomB M t n=false:=by
 obtain⟨s',e,hall,hno⟩:=(fit_gen (freeR_canon M) n hn).2 s hf;refine⟨s',e,(roomB_iff _ _ _).2 fun j hj=> ?_,fun t hts=> ?_⟩
 ·have:=hall j hj
  rwa [hasB_free M hN]at this
 ·obtain⟨j,hj,hb⟩:=hno t hts;rw[hasB_free M hN]at hb;exact room_not hj hb
def firstF (f:Nat→Bool) (n:Nat) (i:Nat):Bool:=f i&&decide (area f i<n)
theorem area_first (f:Nat→Bool) (n k:Nat):area (firstF f n) k=min n (area f k):=by
 induction k with
 |zero=>simp[area]
 | succ k ih=>
  simp only[area,ih];unfold firstF;cases hf:f k
  ·simp
  ·by_cases h:area f k<n
   ·simp[h];omega
   ·simp[h];omega
theorem lowAll_snoc (l:List E) (x:E) (n:Int):lowAll (l++[x]) n=lowStep (lowAll l n) x:=by
 simp only[lowAll,List.foldl_append,List.foldl_cons,List.foldl_nil]
theorem canon_snoc_inv {l:List E} {x:E} (h:Canon (l++[x])):Canon l∧(x.a=0∧okB x=true)∧ ∀y∈l,y.s+y.n<x.s:=by
 obtain⟨h1,h2⟩:=h;rw[List.pairwise_append]at h2;exact⟨⟨fun y hy=>h1 y (by simp[hy]),h2.1⟩,h1 x (by simp),fun y hy=>h2.2.2 y hy x (by simp)⟩
theorem canon_snoc {l:List E} {x:E} (h:Canon l) (h1:x.a=0) (h2:okB x=true) (h3:∀ y∈l,y.s+y.n<x.s):Canon (l++[x]):=
 canon_append h ⟨by intro y hy;simp at hy;subst hy;exact⟨h1,h2⟩,by simp⟩ fun y hy z hz=>by simp at hz;subst hz;exact h3 y hy
theorem lenL_nonneg {l:List E} (h:Canon l):0≤lenL l:=by rw[lenL_canon l h];omega
theorem low_is (l:List E) (n:Nat):Canon l→Canon (lowAll l n).1∧(∀y∈(lowAll l n).1,∃z∈l,y.s+y.n≤z.s+z.n)∧(∀i,hasB (lowAll l n).1 i=firstF (hasB l) n i)∧(lowAll l n).2=n-min (n:Int) (lenL l):=by
 refine snoc_ind (P:=fun l=>Canon l→Canon (lowAll l n).1∧(∀y∈(lowAll l n).1,∃z∈l,y.s+y.n≤z.s+z.n)∧(∀i,hasB (lowAll l n).1 i=firstF (hasB l) n i)∧(lowAll l n).2=n-min (n:Int) (lenL l)) (fun _=> ?_) (fun l x ih h=> ?_) l
 ·refine⟨canon_nil,by simp[lowAll],fun i=>by simp[lowAll,hasB,firstF],?_⟩;simp[lowAll,lenL];omega
 ·obtain ⟨hl,⟨hx0,hx⟩,hbe⟩:=canon_snoc_inv h;obtain⟨c1,c2,c3,c4,c5⟩:=(okB_iff _).1 hx;obtain⟨i1,i2,i3,i4⟩:=ih hl;have hl0:=lenL_nonneg hl;rw[lowAll_snoc];generalize lowAll l n=st at *;obtain⟨A,m⟩:=st;simp only at i1 i2 i3 i4;have hlen:lenL (l++[x])=lenL l+x.n:=by rw[lenL_append,lenL_one]
  have hAe:∀ y∈A,y.s+y.n<x.s:=fun y hy=>by
   obtain⟨z,hz,hz2⟩:=i2 y hy;have:=hbe z hz;omega
  have hfar:∀ i:Nat,x.s≤(i:Int)→hasB l i=false:=fun i hi=>by
   rw[Bool.eq_false_iff];intro hc;obtain⟨y,hy,_,h1,h2⟩:=(hasB_iff _ _).1 hc;have:=hbe y hy;omega
  have hal:∀ i:Nat,x.s≤(i:Int)→(area (hasB l) i:Int)=lenL l:=fun i hi=>by
   rw[lenL_canon l hl];rcases Nat.le_total i 65536 with h1|h1
   ·rw[area_cut _ i 65536 h1 fun j hj _=>hfar j (by omega)]
   ·rw[area_cut _ 65536 i h1 fun j hj _=>hfar j (by omega)]
  have hax:∀ i:Nat,(i:Int)≤x.s→area (hasB (l++[x])) i=area (hasB l) i:=fun i hi=>area_congr _ _ _ fun j hj=>by
   rw [hasB_append,hasB_one x hx];have:inX x j=false:=by
    rw[Bool.eq_false_iff];intro hc;have:=(inX_iff _ _).1 hc;omega
   rw[this,Bool.or_false]
  have hain:∀ i:Nat,x.s≤(i:Int)→(i:Int)<x.s+x.n→(area (hasB (l++[x])) i:Int)=lenL l+(i-x.s):=fun i h1 h2=>by
   have e1:area (hasB (l++[x])) i=area (fun j=>hasB l j||inX x j) i:=area_congr _ _ _ fun j _=>by rw[hasB_append,hasB_one x hx]
   have e2:=area_or (hasB l) (inX x) i fun j _ ha hb=>by
    have:=(inX_iff _ _).1 hb;rw[hfar j this.1]at ha;cases ha
   have e3:area (inX x) i=min (x.s+x.n).toNat i-min x.s.toNat i:=by
    rw [←area_span _ _ _ (by omega)];exact area_congr _ _ _ fun j _=>by
     rw[Bool.eq_iff_iff,inX_iff];simp only[Bool.and_eq_true,decide_eq_true_eq];omega
   have e4:=hal i h1;rw[e1,e2,e3];omega
  have hmain:∀ i,firstF (hasB (l++[x])) n i=(firstF (hasB l) n i||(inX x i&&decide ((i:Int)<x.s+m))):=fun i=>by
   unfold firstF;rw[hasB_append,hasB_one x hx];by_cases h1:(i:Int)<x.s
   ·have e:inX x i=false:=by rw[Bool.eq_false_iff];intro hc;have:=(inX_iff _ _).1 hc;omega
    rw[e,hax i (by omega)];simp
   ·rw [hfar i (by omega)];by_cases h2:(i:Int)<x.s+x.n
    ·have e:=hain i (by omega) h2;have e1:inX x i=true:=(inX_iff _ _).2 ⟨by omega,h2⟩;rw[e1];simp only[Bool.false_or,Bool.true_and,Bool.false_and];rw[Bool.eq_iff_iff];simp only[decide_eq_true_eq];omega
    ·have e1:inX x i=false:=by rw[Bool.eq_false_iff];intro hc;have:=(inX_iff _ _).1 hc;omega
     rw[e1];simp
  simp only[lowStep];by_cases hk:0<min m x.n
  ·rw [if_pos hk];have hok:okB (⟨0,min m x.n,x.s⟩:E)=true:=(okB_iff _).2 ⟨by simp only;omega,by simp,by simp only;omega,by simp only;omega,by simp only;omega⟩;refine⟨canon_snoc i1 rfl hok fun y hy=>hAe y hy,fun y hy=> ?_,fun i=> ?_,by rw[hlen];omega⟩
   ·rcases List.mem_append.1 hy with h1|h1
    ·obtain⟨z,hz,hz2⟩:=i2 y h1;exact⟨z,by simp[hz],hz2⟩
    ·simp at h1;subst h1;exact⟨x,by simp,by simp only;omega⟩
   ·rw[hasB_append,hasB_one _ hok,i3,hmain];congr 1;rw[Bool.eq_iff_iff];simp only[Bool.and_eq_true,decide_eq_true_eq,inX_iff];omega
  ·rw [if_neg hk];refine⟨i1,fun y hy=> ?_,fun i=> ?_,by rw[hlen];omega⟩
   ·obtain⟨z,hz,hz2⟩:=i2 y hy;exact⟨z,by simp[hz],hz2⟩
   ·rw [i3,hmain];have:(inX x i&&decide ((i:Int)<x.s+m))=false:=by
     rw[Bool.eq_false_iff];simp only[ne_eq,Bool.and_eq_true,decide_eq_true_eq,inX_iff];omega
    rw[this,Bool.or_false]
theorem lenL_low (l:List E) (n:Nat) (h:Canon l):lenL (lowAll l n).1=min (n:Int) (lenL l):=by
 obtain⟨h1,_,h3,_⟩:=low_is l n h;rw[lenL_canon _ h1,lenL_canon _ h,area_congr _ _ _ fun i _=>h3 i,area_first];omega
def fromF (M:List Bool) (h:Nat) (i:Nat):Bool:=freeF M i&&decide (h≤i)
def piecesL (M:List Bool) (n h:Nat):List E:=(lowAll (fromL (freeR M) h) n).1++(lowAll (beforeL (freeR M) h) (n-min (n:Int) (lenL (fromL (freeR M) h)))).1
def takeL (M:List Bool) (n h:Nat):List E:=
 if n=0 then []else
 match fitS (fromL (freeR M) h) n with
 |some s=>[⟨0,n,s⟩]
 | none=>match fitS (freeR M) n with
  |some s=>[⟨0,n,s⟩]
  |none=>piecesL M n h
theorem takeL_behind (M:List Bool) (n h:Nat) (s:Int) (hn:1≤n) (hf:fitS (fromL (freeR M) h) n=some s):takeL M n h=[⟨0,n,s⟩]:=by
 unfold takeL;rw[if_neg (by omega),hf]
theorem takeL_any (M:List Bool) (n h:Nat) (s:Int) (hn:1≤n) (hf:fitS (fromL (freeR M) h) n=none) (hg:fitS (freeR M) n=some s):takeL M n h=[⟨0,n,s⟩]:=by
 unfold takeL;rw[if_neg (by omega),hf];simp only[hg]
theorem takeL_pieces (M:List Bool) (n h:Nat) (hn:1≤n) (hf:fitS (fromL (freeR M) h) n=none) (hg:fitS (freeR M) n=none):takeL M n h=piecesL M n h:=by
 unfold takeL;rw[if_neg (by omega),hf];simp only[hg]
theorem lenL_from (M:List Bool) (hN:M.length≤65536) (h:Nat):lenL (fromL (freeR M) h)=area (fromF M h) M.length:=by
 obtain⟨h1,h2⟩:=from_free M hN h;rw[lenL_canon _ h1,area_congr _ _ _ fun i _=>h2 i,area_cut _ _ _ hN fun i hi _=>by rw[freeF_far M i hi];rfl];rfl
theorem lenL_before (M:List Bool) (hN:M.length≤65536) (h:Nat):lenL (beforeL (freeR M) h)=area (fun i=>freeF M i&& !decide (h≤i)) M.length:=by
 obtain⟨h1,h2⟩:=before_free M hN h;rw[lenL_canon _ h1,area_congr _ _ _ fun i _=>h2 i,area_cut _ _ _ hN fun i hi _=>by rw[freeF_far M i hi];rfl];congr 1
 apply area_congr
 intro i _;congr 1;rw[Bool.eq_iff_iff];simp
theorem pieces_rest (M:List Bool) (hN:M.length≤65536) (n h:Nat):(n:Int)-min (n:Int) (lenL (fromL (freeR M) h))=((n-min n (area (fromF M h) M.length):Nat):Int):=by
 rw[lenL_from M hN];omega
structure Taken (M:List Bool) (n:Nat) (l:List E):Prop where
 perm:permB M.length l=true
 range:rangeB M.length l=true
 free:∀ i,listF l i=true→freeF M i=true
 len:lenL l=n
theorem Taken.st {M:List Bool} {n:Nat} {l:List E} (h:Taken M n l):stN M l true=0:=by
 unfold stN;rw[area_zero_iff];intro i hi;cases hl:listF l i
 ·rfl
 ·have:=h.free i hl;rw[freeF_in M i hi]at this;simp at this;rw[List.getD_eq_getElem?_getD,this];rfl
theorem gap_one (N:Nat) (x:E) (h:1≤x.n∧0≤x.s∧x.s+x.n≤N):gapN N [x]=0:=by
 have:=gap_snoc N [] x h;rw[List.nil_append,gap_nil]at this;rw[this,show clashN N [] x=0 from area_false _ _ fun i _=>rfl];rfl
theorem taken_one {M:List Bool} (hN:M.length≤65536) {s n:Nat} (hn:1≤n) (h:roomB M s n=true):Taken M n [⟨0,n,s⟩]:=by
 have hr:=(roomB_iff _ _ _).1 h;have hle:s+n≤M.length:=by
  have:=freeF_lt (hr (n-1) (by omega));omega
 have hp:permB M.length [(⟨0,n,s⟩:E)]=true:=(permB_iff _ _).2 fun x hx=>by simp at hx;subst hx;simp only;omega
 refine⟨hp,range_yes hN hp (gap_one _ _ (by simp only;omega)),fun i hi=> ?_,by simp[lenL]⟩;rw[listF_one]at hi;have:=(inX_iff _ _).1 hi;simp only at this;have h2:=hr (i-s) (by omega)
 rwa [show s+(i-s)=i by omega]at h2
theorem canon_lt {M:List Bool} {R:List E} (h:Canon R) (hf:∀ i,hasB R i=true→freeF M i=true):permB M.length R=true:=by
 refine(permB_iff _ _).2 fun x hx=> ?_;obtain⟨c1,c2,c3,c4,c5⟩:=(okB_iff _).1 (h.1 x hx).2;have:=freeF_lt (hf (x.s+x.n-1).toNat (hasB_mem h hx _ (by omega) (by omega)));omega
theorem listF_canon {R:List E} (h:Canon R) (i:Nat):listF R i=hasB R i:=by
 rw[Bool.eq_iff_iff,listF_iff,hasB_iff]
 constructor
 ·rintro⟨x,hx,h1,h2⟩;exact⟨x,hx,(h.1 x hx).2,h1,h2⟩
 ·rintro⟨x,hx,_,h1,h2⟩;exact⟨x,hx,h1,h2⟩
theorem taken_pieces {M:List Bool} (hN:M.length≤65536) {n h:Nat} (hfree:n≤area (freeF M) M.length):Taken M n (piecesL M n h):=by
 obtain ⟨f1,f2⟩:=from_free M hN h;obtain⟨b1,b2⟩:=before_free M hN h;have hle:=lenL_low _ n f1;unfold piecesL;rw[pieces_rest M hN];have hle2:=lenL_low _ (n-min n (area (fromF M h) M.length)) b1;obtain⟨c1,_,c3,_⟩:=low_is _ n f1;obtain⟨d1,_,d3,_⟩:=low_is _ (n-min n (area (fromF M h) M.length)) b1;have ef:=lenL_from M hN h;have eb:=lenL_before M hN h;have es:=area_split (freeF M) (fun i=>decide (h≤i)) M.length;have es':area (fun i=>freeF M i&&decide (h≤i)) M.length=area (fromF M h) M.length:=rfl;generalize (lowAll (fromL (freeR M) h) n).1=A at *;generalize hB:(lowAll (beforeL (freeR M) h) ((n-min n (area (fromF M h) M.length):Nat):Int)).1=B at *;have hA:∀ i,hasB A i=true→freeF M i=true∧h≤i:=fun i hi=>by
  rw[c3]at hi;unfold firstF at hi;rw[Bool.and_eq_true,f2,Bool.and_eq_true]at hi;exact⟨hi.1.1,of_decide_eq_true hi.1.2⟩
 have hBf:∀ i,hasB B i=true→freeF M i=true∧i<h:=fun i hi=>by
  rw[d3]at hi;unfold firstF at hi;rw[Bool.and_eq_true,b2,Bool.and_eq_true]at hi;exact⟨hi.1.1,of_decide_eq_true hi.1.2⟩
 have pA:=canon_lt c1 fun i hi=>(hA i hi).1;have pB:=canon_lt d1 fun i hi=>(hBf i hi).1;have hp:permB M.length (A++B)=true:=by
  rw[permB_iff];intro x hx;rcases List.mem_append.1 hx with h1|h1
  ·exact(permB_iff _ _).1 pA x h1
  ·exact(permB_iff _ _).1 pB x h1
 have hlen:lenL (A++B)=n:=by rw[lenL_append,hle,hle2];omega
 have hF:∀ i,listF (A++B) i=(hasB A i||hasB B i):=fun i=>by rw[listF_append,listF_canon c1,listF_canon d1]
 refine⟨hp,range_yes hN hp ?_,fun i hi=> ?_,hlen⟩
 ·unfold gapN;have e1:area (listF (A++B)) M.length=area (hasB A) M.length+area (hasB B) M.length:=by
   rw[area_congr _ _ _ fun i _=>hF i];exact area_or _ _ _ fun i _ h1 h2=>by have:=(hA i h1).2;have:=(hBf i h2).2;omega
  have e2:lenL A=area (hasB A) M.length:=by
   rw[lenL_canon _ c1,area_cut _ _ _ hN fun i hi _=> ?_];rw[Bool.eq_false_iff];intro hc;have:=freeF_lt (hA i hc).1;omega
  have e3:lenL B=area (hasB B) M.length:=by
   rw[lenL_canon _ d1,area_cut _ _ _ hN fun i hi _=> ?_];rw[Bool.eq_false_iff];intro hc;have:=freeF_lt (hBf i hc).1;omega
  rw[lenL_append,e1,e2,e3];omega
 ·rw[hF,Bool.or_eq_true]at hi;rcases hi with h1|h1
  ·exact(hA i h1).1
  ·exact(hBf i h1).1
theorem taken_is {M:List Bool} (hN:M.length≤65536) {n h:Nat} (hfree:n≤area (freeF M) M.length):Taken M n (takeL M n h):=by
 by_cases h0:n=0
 ·subst h0;refine⟨rfl,range_yes hN rfl (gap_nil _),(fun i hi=>by cases hi),rfl⟩
 ·cases hf:fitS (fromL (freeR M) h) n with
  | some s=>
   rw[takeL_behind M n h s (by omega) hf];obtain⟨s',rfl,_,hr,_⟩:=fit_from_some hN (by omega) hf;exact taken_one hN (by omega) hr
  | none=>
   cases hg:fitS (freeR M) n with
   | some s=>
    rw[takeL_any M n h s (by omega) hf hg];obtain⟨s',rfl,hr,_⟩:=fit_some' hN (by omega) hg;exact taken_one hN (by omega) hr
   | none=>
    rw[takeL_pieces M n h (by omega) hf hg];exact taken_pieces hN hfree
end Go.Proofs.YtpjlignclchgiaaGreat
