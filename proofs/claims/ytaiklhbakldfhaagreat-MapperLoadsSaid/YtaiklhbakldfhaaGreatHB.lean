/-
  Plain laws on free runs: clipping, what is taken, what is put back.
  Plain laws on maps of slots: which slots a list names, whether one is named twice, the free runs of a list of marks.
  Plain laws on free runs: where a run fits, the lowest slots, what Take chooses.
  Conditions: as each theorem says.
-/
import Derived.Test.YtaiklhbakldfhaaGreatGA
namespace Go.Proofs.YtaiklhbakldfhaaGreat
set_option linter.unusedSimpArgs false
set_option linter.unusedVariables false
set_option maxRecDepth 100000
set_option maxHeartbeats 16000000
def lD (f t:Int):E:=⟨0,t-f,f⟩
def beforeL (l:List E) (p:Int):List E:=(l.filter fun x=>decide (x.s<p)).map fun x=>lD x.s (min (x.s+x.n) p)
def dM (l:List E) (p:Int):List E:=(l.filter fun x=>decide (p<x.s+x.n)).map fun x=>lD (max x.s p) (x.s+x.n)
theorem aNs (l:List E) (p:Int) (k:Nat) (h:k<l.length):beforeL (l.take (k+1)) p=if l[k].s<p then beforeL (l.take k) p++[lD l[k].s (min (l[k].s+l[k].n) p)]else beforeL (l.take k) p:=by
 rw[List.take_succ_eq_append_getElem h];simp only[beforeL,List.filter_append,List.map_append,List.filter_cons,List.filter_nil];by_cases hp:l[k].s<p
 ·simp[hp]
 ·simp[hp]
theorem aVt (l:List E) (p:Int) (k:Nat) (h:k<l.length):dM (l.take (k+1)) p=if p<l[k].s+l[k].n then dM (l.take k) p++[lD (max l[k].s p) (l[k].s+l[k].n)]else dM (l.take k) p:=by
 rw[List.take_succ_eq_append_getElem h];simp only[dM,List.filter_append,List.map_append,List.filter_cons,List.filter_nil];by_cases hp:p<l[k].s+l[k].n
 ·simp[hp]
 ·simp[hp]
theorem wS (l:List E) (p:Int):(beforeL l p).length<=l.length:=by
 unfold beforeL;rw[List.length_map];exact List.length_filter_le _ _
theorem uD (l:List E) (p:Int):(dM l p).length<=l.length:=by
 unfold dM;rw[List.length_map];exact List.length_filter_le _ _
theorem aEn {f t:Int} (h0:0<=f) (h1:f<t) (h2:t<=65536):okB (lD f t)=true:=(aD _).2 ⟨by simp only[lD];omega,by simp[lD],by simp only[lD];omega,by simp only[lD];omega,by simp only[lD];omega⟩
theorem aXn (f t:Int) (i:Nat):inX (lD f t) i=true↔f<=(i:Int)/\(i:Int)<t:=by
 rw[fJ];simp only[lD];omega
theorem jE (A B:List E) (i:Nat):hasB (A++B) i=(hasB A i||hasB B i):=by simp[hasB]
theorem sU (x:E) (h:okB x=true) (i:Nat):hasB [x] i=inX x i:=by simp[hasB,h]
theorem aCg (x:E) (l:List E) (h:okB x=true) (i:Nat):hasB (x::l) i=(inX x i||hasB l i):=by simp[hasB,h]
theorem aRa (i:Nat):hasB [] i=false:=rfl
theorem uO {x:E} {r:List E} (h:Canon (x::r)):(x.a=0/\okB x=true)/\Canon r/\ ∀y∈r,x.s+x.n<y.s:=by
 obtain⟨h1,h2⟩:=h;rw[List.pairwise_cons]at h2;exact⟨h1 x (by simp),⟨fun y hy=>h1 y (by simp[hy]),h2.2⟩,h2.1⟩
theorem aSn {x:E} {r:List E} (h1:x.a=0) (h2:okB x=true) (h3:Canon r) (h4:∀ y∈r,x.s+x.n<y.s):Canon (x::r):=by
 refine⟨fun y hy=> ?_,List.pairwise_cons.2 ⟨h4,h3.2⟩⟩;simp at hy;rcases hy with rfl|hy
 ·exact⟨h1,h2⟩
 ·exact h3.1 y hy
theorem aCt:Canon []:=⟨by simp,by simp⟩
theorem aBd (x:E) (l:List E) (p:Int):beforeL (x::l) p=(if x.s<p then [lD x.s (min (x.s+x.n) p)]else [])++beforeL l p:=by
 by_cases h:x.s<p <;> simp[beforeL,h]
theorem aHi (x:E) (l:List E) (p:Int):dM (x::l) p=(if p<x.s+x.n then [lD (max x.s p) (x.s+x.n)]else [])++dM l p:=by
 by_cases h:p<x.s+x.n <;> simp[dM,h]
theorem aDy {l:List E} {p:Int} {y:E} (h:y∈beforeL l p):∃ x∈l,x.s<p/\y=lD x.s (min (x.s+x.n) p):=by
 obtain⟨x,hx,rfl⟩:=List.mem_map.1 h;obtain⟨h1,h2⟩:=List.mem_filter.1 hx;exact⟨x,h1,of_decide_eq_true h2,rfl⟩
theorem aKz {l:List E} {p:Int} {y:E} (h:y∈dM l p):∃ x∈l,p<x.s+x.n/\y=lD (max x.s p) (x.s+x.n):=by
 obtain⟨x,hx,rfl⟩:=List.mem_map.1 h;obtain⟨h1,h2⟩:=List.mem_filter.1 hx;exact⟨x,h1,of_decide_eq_true h2,rfl⟩
theorem kW (l:List E) (p:Int):Canon l->Canon (beforeL l p):=by
 induction l with
 |nil=>intro _;exact aCt
 | cons x r ih=>
  intro h;obtain⟨⟨_,h2⟩,h3,h4⟩:=uO h;obtain⟨e1,e2,e3,e4,e5⟩:=(aD x).1 h2;rw[aBd];by_cases hp:x.s<p
  ·rw[if_pos hp];refine aSn rfl (aEn e3 (by omega) (by omega)) (ih h3) fun y hy=> ?_;obtain⟨z,hz,_,rfl⟩:=aDy hy;have:=h4 z hz;simp only[lD];omega
  ·rw[if_neg hp];exact ih h3
theorem jF (l:List E) (p:Int):Canon l->Canon (dM l p):=by
 induction l with
 |nil=>intro _;exact aCt
 | cons x r ih=>
  intro h;obtain⟨⟨_,h2⟩,h3,h4⟩:=uO h;obtain⟨e1,e2,e3,e4,e5⟩:=(aD x).1 h2;rw[aHi];by_cases hp:p<x.s+x.n
  ·rw[if_pos hp];refine aSn rfl (aEn (by omega) (by omega) (by omega)) (ih h3) fun y hy=> ?_;obtain⟨z,hz,_,rfl⟩:=aKz hy;have:=h4 z hz;simp only[lD];omega
  ·rw[if_neg hp];exact ih h3
theorem aDt (l:List E) (p:Int) (i:Nat):Canon l->hasB (beforeL l p) i=(hasB l i&&decide ((i:Int)<p)):=by
 induction l with
 |nil=>intro _;simp[beforeL,hasB]
 | cons x r ih=>
  intro h;obtain⟨⟨_,h2⟩,h3,h4⟩:=uO h;obtain⟨e1,e2,e3,e4,e5⟩:=(aD x).1 h2;rw[aBd,jE,ih h3,aCg x r h2,Bool.and_or_distrib_right];congr 1;by_cases hp:x.s<p
  ·rw[if_pos hp,sU _ (aEn e3 (by omega) (by omega)),Bool.eq_iff_iff,aXn];simp only[Bool.and_eq_true,fJ,decide_eq_true_eq];omega
  ·rw[if_neg hp,aRa]
   symm
   rw[Bool.eq_false_iff];simp only[ne_eq,Bool.and_eq_true,fJ,decide_eq_true_eq];omega
theorem aCe (l:List E) (p:Int) (i:Nat):Canon l->hasB (dM l p) i=(hasB l i&&decide (p<=(i:Int))):=by
 induction l with
 |nil=>intro _;simp[dM,hasB]
 | cons x r ih=>
  intro h;obtain⟨⟨_,h2⟩,h3,h4⟩:=uO h;obtain⟨e1,e2,e3,e4,e5⟩:=(aD x).1 h2;rw[aHi,jE,ih h3,aCg x r h2,Bool.and_or_distrib_right];congr 1;by_cases hp:p<x.s+x.n
  ·rw[if_pos hp,sU _ (aEn (by omega) (by omega) (by omega)),Bool.eq_iff_iff,aXn];simp only[Bool.and_eq_true,fJ,decide_eq_true_eq];omega
  ·rw[if_neg hp,aRa]
   symm
   rw[Bool.eq_false_iff];simp only[ne_eq,Bool.and_eq_true,fJ,decide_eq_true_eq];omega
def aAp (l:List E) (x:E):List E:=beforeL l x.s++dM (dM l x.s) (x.s+x.n)
def dF (l less:List E):List E:=less.foldl aAp l
theorem aIs (l less:List E) (k:Nat) (h:k<less.length):dF l (less.take (k+1))=aAp (dF l (less.take k)) less[k]:=by
 rw[List.take_succ_eq_append_getElem h];simp only[dF,List.foldl_append,List.foldl_cons,List.foldl_nil]
theorem aBc {A B:List E} (hA:Canon A) (hB:Canon B) (h:∀ x∈A,∀y∈B,x.s+x.n<y.s):Canon (A++B):=by
 refine⟨fun x hx=> ?_,List.pairwise_append.2 ⟨hA.2,hB.2,h⟩⟩;rcases List.mem_append.1 hx with h1|h1
 ·exact hA.1 x h1
 ·exact hB.1 x h1
theorem aQn (l:List E) (x:E) (hl:Canon l) (hx:1<=x.n):Canon (aAp l x):=by
 refine aBc (kW _ _ hl) (jF _ _ (jF _ _ hl)) fun y hy z hz=> ?_;obtain⟨u,_,_,rfl⟩:=aDy hy;obtain⟨v,_,_,rfl⟩:=aKz hz;simp only[lD];omega
theorem bBg (l:List E) (x:E) (hl:Canon l) (i:Nat) (hx:1<=x.n):hasB (aAp l x) i=(hasB l i&& !inX x i):=by
 unfold aAp;rw[jE,aDt _ _ _ hl,aCe _ _ _ (jF _ _ hl),aCe _ _ _ hl];cases hasB l i
 ·rfl
 ·rw[Bool.eq_iff_iff];simp only[Bool.true_and,Bool.or_eq_true,Bool.and_eq_true,decide_eq_true_eq,Bool.not_eq_true',Bool.eq_false_iff,ne_eq,fJ];omega
theorem rW (less:List E) (h:∀ x∈less,okB x=true):∀ l,Canon l->Canon (dF l less)/\ ∀i,hasB (dF l less) i=(hasB l i&& !hasB less i):=by
 induction less with
 |nil=>intro l hl;exact⟨hl,fun i=>by simp[dF,hasB]⟩
 | cons x r ih=>
  intro l hl;have hx:=h x (by simp);have hn:=((aD x).1 hx).1;obtain⟨h1,h2⟩:=ih (fun y hy=>h y (by simp[hy])) (aAp l x) (aQn l x hl hn);refine⟨h1,fun i=> ?_⟩;have:dF l (x::r)=dF (aAp l x) r:=rfl;rw[this,h2,bBg l x hl i hn,aCg x r hx];cases hasB l i <;> cases inX x i <;> cases hasB r i <;> rfl
def oH (n:Int) (y:E):Bool:=decide (n<=y.n)
def oO (l:List E) (n:Int):Option Int:=(l.find? (oH n)).map E.s
theorem aXs (l:List E) (f:E->Bool) (x:E) (h:l.find? f=some x):∃ (k:Nat) (hk:k<l.length),l[k]=x/\(∀y∈l.take k,f y=false)/\f x=true:=by
 induction l with
 |nil=>simp at h
 | cons z r ih=>
  by_cases hz:f z=true
  ·rw[List.find?_cons_of_pos hz]at h;injection h with h;subst h;exact⟨0,by simp,rfl,by simp,hz⟩
  ·rw[List.find?_cons_of_neg hz]at h;obtain⟨k,hk,h1,h2,h3⟩:=ih h;refine⟨k+1,by simpa using hk,by simpa using h1,fun y hy=> ?_,h3⟩;rw[List.take_succ_cons,List.mem_cons]at hy;rcases hy with rfl|hy
   ·simpa using hz
   ·exact h2 y hy
def xN (st:List E × Int) (x:E):List E × Int:=(if 0<min st.2 x.n then st.1++[⟨0,min st.2 x.n,x.s⟩]else st.1,st.2-min st.2 x.n)
def cZ (l:List E) (n:Int):List E × Int:=l.foldl xN ([],n)
theorem aDp (l:List E) (n:Int) (k:Nat) (h:k<l.length):cZ (l.take (k+1)) n=xN (cZ (l.take k) n) l[k]:=by
 rw[List.take_succ_eq_append_getElem h];simp only[cZ,List.foldl_append,List.foldl_cons,List.foldl_nil]
theorem aKp (l:List E) (n:Int) (hn:0<=n) (h:∀ x∈l,1<=x.n) (k:Nat):k<=l.length->(0<=(cZ (l.take k) n).2/\(cZ (l.take k) n).2<=n)/\(cZ (l.take k) n).1.length<=k:=by
 induction k with
 |zero=>intro _;simp[cZ,hn]
 | succ k ih=>
  intro hk;have hlt:k<l.length:=by omega
  obtain⟨⟨h1,h2⟩,h3⟩:=ih (by omega);have h4:=h _ (List.getElem_mem hlt);rw[aDp l n k hlt];simp only[xN];refine⟨by omega,?_⟩
  split
  ·simp;omega
  ·omega
def E.flat (x:E):E:=⟨0,x.n,x.s⟩
def dY (l:List E):List E:=l.map E.flat
theorem bIy {N:Nat} {l:List E} (hN:N<=65536) (h:aS N l=true):wfL (dY l):=by
 intro x hx;obtain⟨y,hy,rfl⟩:=List.mem_map.1 hx;have:=(aO _ _).1 h y hy;exact⟨by simp[E.flat],by simp only[E.flat];omega,by simp only[E.flat];omega⟩
def vT (l:List E):Bool:=(aT (bT (dY l))==aT l)
def dX (l:List E) (i:Nat):Bool:=l.any fun x=>inX x i
theorem aAo (A B:List E) (i:Nat):dX (A++B) i=(dX A i||dX B i):=by simp[dX]
theorem aKr (x:E) (i:Nat):dX [x] i=inX x i:=by simp[dX]
theorem sQ (l:List E) (i:Nat):dX l i=true↔ ∃x∈l,x.s<=(i:Int)/\(i:Int)<x.s+x.n:=by
 simp only[dX,List.any_eq_true,fJ]
theorem aCb {N:Nat} {l:List E} (h:aS N l=true) (i:Nat) (hi:N<=i):dX l i=false:=by
 rw[Bool.eq_false_iff];intro hc;obtain⟨x,hx,h1,h2⟩:=(sQ _ _).1 hc;have:=(aO _ _).1 h x hx;omega
theorem bIz {N:Nat} {l:List E} (hN:N<=65536) (h:aS N l=true):∀ x∈dY l,okB x=true:=by
 intro x hx;obtain⟨y,hy,rfl⟩:=List.mem_map.1 hx;have:=(aO _ _).1 h y hy;exact(aD _).2 ⟨by simp only[E.flat];omega,by simp[E.flat],by simp only[E.flat];omega,by simp only[E.flat];omega,by simp only[E.flat];omega⟩
theorem aCf {N:Nat} {l:List E} (hN:N<=65536) (h:aS N l=true) (i:Nat):hasB (dY l) i=dX l i:=by
 rw[Bool.eq_iff_iff,sQ];have hok:=bIz hN h;simp only[hasB,List.any_eq_true,Bool.and_eq_true,fJ]
 constructor
 ·rintro⟨x,hx,_,h1,h2⟩;obtain⟨y,hy,rfl⟩:=List.mem_map.1 hx;exact⟨y,hy,h1,h2⟩
 ·rintro⟨y,hy,h1,h2⟩;have hm:y.flat∈dY l:=List.mem_map.2 ⟨y,hy,rfl⟩;exact⟨y.flat,hm,hok _ hm,h1,h2⟩
theorem zM {N:Nat} {l:List E} (hN:N<=65536) (h:aS N l=true):aT (bT (dY l))=aL (dX l) N:=by
 rw[fE _ (dV _).1,aN _ (dX l) _ fun i _=>by rw[qJ,aCf hN h],kG _ N 65536 hN fun i hi _=>aCb h i hi]
def aWo (N:Nat) (l:List E) (x:E):Nat:=aL (fun i=>dX l i&&inX x i) N
def aCi (N:Nat) (l:List E):Int:=aT l-aL (dX l) N
theorem rQ (A B:List E):aT (A++B)=aT A+aT B:=by simp[aT]
theorem aQo (x:E):aT [x]=x.n:=by simp[aT]
theorem aXp (N:Nat):aCi N []=0:=by
 unfold aCi;rw[dL (dX []) _ fun i _=>rfl];rfl
theorem bFy (N:Nat) (l:List E) (x:E) (h:1<=x.n/\0<=x.s/\x.s+x.n<=N):aCi N (l++[x])=aCi N l+aWo N l x:=by
 unfold aCi aWo;have h1:=wU (dX l) (inX x) N;have h2:=aSq x N h.2.1 (by omega) h.2.2;rw[rQ,aQo,aN (dX (l++[x])) (fun i=>dX l i||inX x i) N fun i _=>by rw[aAo,aKr]];omega
theorem aQa {N:Nat} {l:List E} (hN:N<=65536) (h:aS N l=true):vT l=true↔aCi N l=0:=by
 unfold vT aCi;rw[zM hN h,beq_iff_eq];omega
def nD (N:Nat) (l:List E):Bool:=aS N l&&vT l
theorem xB {N:Nat} {l:List E} (hN:N<=65536) (hp:aS N l=true) (hg:aCi N l=0):nD N l=true:=by
 unfold nD;rw[hp,(aQa hN hp).2 hg];rfl
theorem vJ {N:Nat} {l:List E} (hN:N<=65536) (h:nD N l=true):aS N l=true/\vT l=true/\aCi N l=0:=by
 unfold nD at h;rw[Bool.and_eq_true]at h;exact⟨h.1,h.2,(aQa hN h.1).1 h.2⟩
def dC (M:List Bool) (i:Nat):Bool:= !M.getD i true
def aV (M:List Bool):List E:=bT (picks (dC M) M.length)
theorem dA (M:List Bool):Canon (aV M):=(dV _).1
theorem kQ (M:List Bool) (i:Nat) (h:M.length<=i):dC M i=false:=by
 unfold dC;rw[List.getD_eq_getElem?_getD,List.getElem?_eq_none h];rfl
theorem oN (M:List Bool) (i:Nat) (h:i<M.length):dC M i= !M.getD i false:=by
 unfold dC;rw[List.getD_eq_getElem?_getD,List.getD_eq_getElem?_getD,List.getElem?_eq_getElem h];rfl
theorem wH {M:List Bool} {i:Nat} (h:dC M i=true):i<M.length:=by
 rcases Nat.lt_or_ge i M.length with h1|h1
 ·exact h1
 ·rw[kQ M i h1]at h;cases h
theorem jW (M:List Bool) (hN:M.length<=65536) (i:Nat):hasB (aV M) i=dC M i:=by
 unfold aV;rw[qJ,aHc _ _ hN];by_cases h:i<M.length
 ·simp[h]
 ·rw[kQ M i (by omega)];simp
theorem aCd (M:List Bool) (hN:M.length<=65536):aT (aV M)=aL (dC M) M.length:=aGs _ _ hN
def uX (M:List Bool) (l:List E) (u:Bool):List Bool:=mk (fun i=>if dX l i then u else M.getD i false) M.length
theorem wP (M:List Bool) (l:List E) (u:Bool):(uX M l u).length=M.length:=xM _ _
def stN (M:List Bool) (l:List E) (u:Bool):Nat:=aL (fun i=>dX l i&&(M.getD i false==u)) M.length
theorem bGc (M:List Bool) (l:List E) (u:Bool) (i:Nat) (hi:i<M.length):dC (uX M l u) i=if dX l i then !u else dC M i:=by
 rw[oN _ _ (by rw[wP];exact hi),oN _ _ hi];unfold uX;rw[aMx _ _ _ hi]
 split <;> rfl
theorem aRc (M:List Bool) (l:List E) (u:Bool) (hN:M.length<=65536) (i:Nat):hasB (aV (uX M l u)) i=(decide (i<M.length)&&if dX l i then !u else dC M i):=by
 rw[jW _ (by rw[wP];exact hN)];by_cases hi:i<M.length
 ·rw[bGc _ _ _ _ hi];simp[hi]
 ·rw[kQ _ _ (by rw[wP];omega)];simp[hi]
section
variable {M:List Bool} {l:List E} (hN:M.length<=65536) (hp:aS M.length l=true)
include hN hp
theorem zO:Canon (dF (aV M) (bT (dY l)))/\ ∀i,hasB (dF (aV M) (bT (dY l))) i=(dC M i&& !dX l i):=by
 obtain⟨h1,h2⟩:=rW (bT (dY l)) (fun x hx=>((dV (dY l)).1.1 x hx).2) (aV M) (dA M);exact⟨h1,fun i=>by rw[h2,jW M hN,qJ,aCf hN hp]⟩
theorem bIo:dF (aV M) (bT (dY l))=aV (uX M l true):=by
 obtain⟨h1,h2⟩:=zO hN hp;refine aOw h1 (dA _) fun i _=> ?_;rw[h2,aRc _ _ _ hN];by_cases hi:i<M.length
 ·cases dX l i <;> simp[hi]
 ·rw[kQ M i (by omega)];simp[hi]
theorem aKn:aT (dF (aV M) (bT (dY l)))+aT (bT (dY l))=aT (aV M)↔stN M l true=0:=by
 obtain ⟨h1,h2⟩:=zO hN hp;have e1:aT (dF (aV M) (bT (dY l)))=aL (fun i=>dC M i&& !dX l i) M.length:=by
  rw[fE _ h1,aN _ _ _ fun i _=>h2 i,kG _ _ _ hN fun i hi _=>by rw[kQ M i hi];rfl]
 have e2:=zM hN hp;have e3:=aCd M hN;have e4:=uQ (dC M) (dX l) M.length;have e5:=uQ (dX l) (dC M) M.length;have e6:aL (fun i=>dC M i&&dX l i) M.length=aL (fun i=>dX l i&&dC M i) M.length:=aN _ _ _ fun i _=>Bool.and_comm _ _;have e7:aL (fun i=>dX l i&& !dC M i) M.length=stN M l true:=aN _ _ _ fun i hi=>by
  rw[oN M i hi];cases dX l i <;> cases M.getD i false <;> rfl
 rw[e1,e2,e3];omega
theorem aKw:Canon (bT (aV M++bT (dY l)))/\ ∀i,hasB (bT (aV M++bT (dY l))) i=(dC M i||dX l i):=by
 refine⟨(dV _).1,fun i=> ?_⟩;rw[qJ,jE,jW M hN,qJ,aCf hN hp]
theorem bIw:bT (aV M++bT (dY l))=aV (uX M l false):=by
 obtain⟨h1,h2⟩:=aKw hN hp;refine aOw h1 (dA _) fun i _=> ?_;rw[h2,aRc _ _ _ hN];by_cases hi:i<M.length
 ·cases dX l i <;> simp[hi]
 ·rw[kQ M i (by omega),aCb hp i (by omega)];simp[hi]
theorem aKx:aT (bT (aV M++bT (dY l)))=aT (aV M)+aT (bT (dY l))↔stN M l false=0:=by
 obtain ⟨h1,h2⟩:=aKw hN hp;have e1:aT (bT (aV M++bT (dY l)))=aL (fun i=>dC M i||dX l i) M.length:=by
  rw[fE _ h1,aN _ _ _ fun i _=>h2 i,kG _ _ _ hN fun i hi _=>by rw[kQ M i hi,aCb hp i hi];rfl]
 have e2:=zM hN hp;have e3:=aCd M hN;have e4:=wU (dC M) (dX l) M.length;have e7:aL (fun i=>dC M i&&dX l i) M.length=stN M l false:=aN _ _ _ fun i hi=>by
  rw[oN M i hi];cases dX l i <;> cases M.getD i false <;> rfl
 rw[e1,e2,e3];omega
end
theorem bCf {R:List E} (h:Canon R) {x y:E} (hx:x∈R) (hy:y∈R):x=y∨x.s+x.n<y.s∨y.s+y.n<x.s:=by
 obtain⟨i,hi,rfl⟩:=List.getElem_of_mem hx;obtain⟨j,hj,rfl⟩:=List.getElem_of_mem hy;have hp:=List.pairwise_iff_getElem.1 h.2;rcases Nat.lt_trichotomy i j with h1|h1|h1
 ·exact .inr (.inl (hp i j hi hj h1))
 ·subst h1;exact .inl rfl
 ·exact .inr (.inr (hp j i hj hi h1))
theorem aWu {R:List E} (h:Canon R) (t:Nat) (n:Nat):(∀j,j<n+1->hasB R (t+j)=true)-> ∃x∈R,x.s<=(t:Int)/\(t:Int)+(n+1:Nat)<=x.s+x.n:=by
 induction n with
 | zero=>
  intro hj;obtain⟨x,hx,_,h1,h2⟩:=(iW _ _).1 (hj 0 (by omega));exact⟨x,hx,by omega,by omega⟩
 | succ n ih=>
  intro hj;obtain⟨x,hx,h1,h2⟩:=ih fun j hjn=>hj j (by omega);obtain⟨y,hy,_,h3,h4⟩:=(iW _ _).1 (hj (n+1) (by omega));rcases bCf h hx hy with rfl|h5|h5
  ·exact⟨x,hx,h1,by omega⟩
  ·omega
  ·omega
def aDf (M:List Bool) (s n:Nat):Bool:=(List.range n).all fun j=>dC M (s+j)
theorem wZ (M:List Bool) (s n:Nat):aDf M s n=true↔ ∀j,j<n->dC M (s+j)=true:=by
 simp[aDf]
theorem aRb {R:List E} {x:E} (h:Canon R) (hx:x∈R) (i:Nat) (h1:x.s<=(i:Int)) (h2:(i:Int)<x.s+x.n):hasB R i=true:=
 (iW _ _).2 ⟨x,hx,(h.1 x hx).2,h1,h2⟩
theorem aXr {R:List E} (h:Canon R) (n:Nat) (hn:1<=n):
  (oO R n=none-> ∀t:Nat,∃j,j<n/\hasB R (t+j)=false)/\
  (∀s,oO R n=some s-> ∃s':Nat,s=s'/\(∀j,j<n->hasB R (s'+j)=true)/\ ∀t:Nat,t<s'-> ∃j,j<n/\hasB R (t+j)=false):=by
 have key:∀ t:Nat,(∀j,j<n->hasB R (t+j)=true)-> ∃x∈R,x.s<=(t:Int)/\(t:Int)+n<=x.s+x.n:=fun t ht=>by
  obtain⟨m,rfl⟩:∃ m,n=m+1:=⟨n-1,by omega⟩;exact aWu h t m ht
 have neg:∀ t:Nat,¬(∀j,j<n->hasB R (t+j)=true)-> ∃j,j<n/\hasB R (t+j)=false:=fun t ht=>by
  refine Classical.byContradiction fun hc=>ht fun j hj=> ?_;rw[<-Bool.not_eq_false];exact fun hf=>hc ⟨j,hj,hf⟩
 constructor
 ·intro hf t;refine neg t fun ht=> ?_;obtain⟨x,hx,h1,h2⟩:=key t ht;unfold oO at hf;rw[Option.map_eq_none_iff,List.find?_eq_none]at hf;exact hf x hx (by simp[oH];omega)
 ·intro s hs;obtain⟨x,hx,rfl⟩:=Option.map_eq_some_iff.1 hs;obtain⟨k,hk,hlk,hkf,hfx⟩:=aXs R (oH n) x hx;have hxm:x∈R:=by rw[<-hlk];exact List.getElem_mem hk
  obtain⟨c1,c2,c3,c4,c5⟩:=(aD _).1 (h.1 x hxm).2;have hnx:(n:Int)<=x.n:=of_decide_eq_true hfx;refine⟨x.s.toNat,by omega,fun j hj=>aRb h hxm _ (by omega) (by omega),fun t ht=>neg t fun hc=> ?_⟩;obtain⟨y,hy,h1,h2⟩:=key t hc;obtain⟨j,hj,rfl⟩:=List.getElem_of_mem hy;have hp:=List.pairwise_iff_getElem.1 h.2;rcases Nat.lt_trichotomy j k with hjk|hjk|hjk
  ·have:=hkf R[j] (List.mem_take_iff_getElem.2 ⟨j,by omega,rfl⟩);simp[oH]at this;omega
  ·subst hjk;rw[hlk]at h1;omega
  ·have:=hp k j hk hj hjk;rw[hlk]at this;omega
theorem xS (M:List Bool) (hN:M.length<=65536) (h:Nat):Canon (dM (aV M) h)/\ ∀i,hasB (dM (aV M) h) i=(dC M i&&decide (h<=i)):=by
 refine⟨jF _ _ (dA M),fun i=> ?_⟩;rw[aCe _ _ _ (dA M),jW M hN];congr 1;rw[Bool.eq_iff_iff];simp
theorem wR (M:List Bool) (hN:M.length<=65536) (h:Nat):Canon (beforeL (aV M) h)/\ ∀i,hasB (beforeL (aV M) h) i=(dC M i&&decide (i<h)):=by
 refine⟨kW _ _ (dA M),fun i=> ?_⟩;rw[aDt _ _ _ (dA M),jW M hN];congr 1;rw[Bool.eq_iff_iff];simp
theorem aPb {M:List Bool} {t n j:Nat} (hj:j<n) (h:dC M (t+j)=false):aDf M t n=false:=by
 rw[Bool.eq_false_iff];intro hc;rw[(wZ _ _ _).1 hc j hj]at h;cases h
theorem aJd {M:List Bool} (hN:M.length<=65536) {h n:Nat} (hn:1<=n) {s:Int} (hf:oO (dM (aV M) h) n=some s):
  ∃s':Nat,s=s'/\h<=s'/\aDf M s' n=true/\ ∀t,h<=t->t<s'->aDf M t n=false:=by
 obtain⟨h1,h2⟩:=xS M hN h;obtain⟨s',e,hall,hno⟩:=(aXr h1 n hn).2 s hf;have h0:=hall 0 (by omega);rw[h2,Bool.and_eq_true]at h0;have h0':=of_decide_eq_true h0.2;refine⟨s',e,by omega,(wZ _ _ _).2 fun j hj=> ?_,fun t ht hts=> ?_⟩
 ·have:=hall j hj;rw[h2,Bool.and_eq_true]at this;exact this.1
 ·obtain⟨j,hj,hb⟩:=hno t hts;refine aPb hj ?_;rw[h2]at hb
  simpa [show h<=t+j by omega]using hb
theorem bBp {M:List Bool} (hN:M.length<=65536) {n:Nat} (hn:1<=n) {s:Int} (hf:oO (aV M) n=some s):
  ∃s':Nat,s=s'/\aDf M s' n=true/\ ∀t,t<s'->aDf M t n=false:=by
 obtain⟨s',e,hall,hno⟩:=(aXr (dA M) n hn).2 s hf;refine⟨s',e,(wZ _ _ _).2 fun j hj=> ?_,fun t hts=> ?_⟩
 ·have:=hall j hj
  rwa [jW M hN]at this
 ·obtain⟨j,hj,hb⟩:=hno t hts;rw[jW M hN]at hb;exact aPb hj hb
def sG (f:Nat->Bool) (n:Nat) (i:Nat):Bool:=f i&&decide (aL f i<n)
theorem aXa (f:Nat->Bool) (n k:Nat):aL (sG f n) k=min n (aL f k):=by
 induction k with
 |zero=>simp[aL]
 | succ k ih=>
  simp only[aL,ih];unfold sG;cases hf:f k
  ·simp
  ·by_cases h:aL f k<n
   ·simp[h];omega
   ·simp[h];omega
theorem aQl (l:List E) (x:E) (n:Int):cZ (l++[x]) n=xN (cZ l n) x:=by
 simp only[cZ,List.foldl_append,List.foldl_cons,List.foldl_nil]
theorem aIa {l:List E} {x:E} (h:Canon (l++[x])):Canon l/\(x.a=0/\okB x=true)/\ ∀y∈l,y.s+y.n<x.s:=by
 obtain⟨h1,h2⟩:=h;rw[List.pairwise_append]at h2;exact⟨⟨fun y hy=>h1 y (by simp[hy]),h2.1⟩,h1 x (by simp),fun y hy=>h2.2.2 y hy x (by simp)⟩
theorem aWv {l:List E} {x:E} (h:Canon l) (h1:x.a=0) (h2:okB x=true) (h3:∀ y∈l,y.s+y.n<x.s):Canon (l++[x]):=
 aBc h ⟨by intro y hy;simp at hy;subst hy;exact⟨h1,h2⟩,by simp⟩ fun y hy z hz=>by simp at hz;subst hz;exact h3 y hy
theorem vZ {l:List E} (h:Canon l):0<=aT l:=by rw[fE l h];omega
theorem aGp (l:List E) (n:Nat):Canon l->Canon (cZ l n).1/\(∀y∈(cZ l n).1,∃z∈l,y.s+y.n<=z.s+z.n)/\(∀i,hasB (cZ l n).1 i=sG (hasB l) n i)/\(cZ l n).2=n-min (n:Int) (aT l):=by
 refine gJ (P:=fun l=>Canon l->Canon (cZ l n).1/\(∀y∈(cZ l n).1,∃z∈l,y.s+y.n<=z.s+z.n)/\(∀i,hasB (cZ l n).1 i=sG (hasB l) n i)/\(cZ l n).2=n-min (n:Int) (aT l)) (fun _=> ?_) (fun l x ih h=> ?_) l
 ·refine⟨aCt,by simp[cZ],fun i=>by simp[cZ,hasB,sG],?_⟩;simp[cZ,aT];omega
 ·obtain ⟨hl,⟨hx0,hx⟩,hbe⟩:=aIa h;obtain⟨c1,c2,c3,c4,c5⟩:=(aD _).1 hx;obtain⟨i1,i2,i3,i4⟩:=ih hl;have hl0:=vZ hl;rw[aQl];generalize cZ l n=st at *;obtain⟨A,m⟩:=st;simp only at i1 i2 i3 i4;have hlen:aT (l++[x])=aT l+x.n:=by rw[rQ,aQo]
  have hAe:∀ y∈A,y.s+y.n<x.s:=fun y hy=>by
   obtain⟨z,hz,hz2⟩:=i2 y hy;have:=hbe z hz;omega
  have hfar:∀ i:Nat,x.s<=(i:Int)->hasB l i=false:=fun i hi=>by
   rw[Bool.eq_false_iff];intro hc;obtain⟨y,hy,_,h1,h2⟩:=(iW _ _).1 hc;have:=hbe y hy;omega
  have hal:∀ i:Nat,x.s<=(i:Int)->(aL (hasB l) i:Int)=aT l:=fun i hi=>by
   rw[fE l hl];rcases Nat.le_total i 65536 with h1|h1
   ·rw[kG _ i 65536 h1 fun j hj _=>hfar j (by omega)]
   ·rw[kG _ 65536 i h1 fun j hj _=>hfar j (by omega)]
  have hax:∀ i:Nat,(i:Int)<=x.s->aL (hasB (l++[x])) i=aL (hasB l) i:=fun i hi=>aN _ _ _ fun j hj=>by
   rw [jE,sU x hx];have:inX x j=false:=by
    rw[Bool.eq_false_iff];intro hc;have:=(fJ _ _).1 hc;omega
   rw[this,Bool.or_false]
  have hain:∀ i:Nat,x.s<=(i:Int)->(i:Int)<x.s+x.n->(aL (hasB (l++[x])) i:Int)=aT l+(i-x.s):=fun i h1 h2=>by
   have e1:aL (hasB (l++[x])) i=aL (fun j=>hasB l j||inX x j) i:=aN _ _ _ fun j _=>by rw[jE,sU x hx]
   have e2:=rU (hasB l) (inX x) i fun j _ ha hb=>by
    have:=(fJ _ _).1 hb;rw[hfar j this.1]at ha;cases ha
   have e3:aL (inX x) i=min (x.s+x.n).toNat i-min x.s.toNat i:=by
    rw [<-xZ _ _ _ (by omega)];exact aN _ _ _ fun j _=>by
     rw[Bool.eq_iff_iff,fJ];simp only[Bool.and_eq_true,decide_eq_true_eq];omega
   have e4:=hal i h1;rw[e1,e2,e3];omega
  have hmain:∀ i,sG (hasB (l++[x])) n i=(sG (hasB l) n i||(inX x i&&decide ((i:Int)<x.s+m))):=fun i=>by
   unfold sG;rw[jE,sU x hx];by_cases h1:(i:Int)<x.s
   ·have e:inX x i=false:=by rw[Bool.eq_false_iff];intro hc;have:=(fJ _ _).1 hc;omega
    rw[e,hax i (by omega)];simp
   ·rw [hfar i (by omega)];by_cases h2:(i:Int)<x.s+x.n
    ·have e:=hain i (by omega) h2;have e1:inX x i=true:=(fJ _ _).2 ⟨by omega,h2⟩;rw[e1];simp only[Bool.false_or,Bool.true_and,Bool.false_and];rw[Bool.eq_iff_iff];simp only[decide_eq_true_eq];omega
    ·have e1:inX x i=false:=by rw[Bool.eq_false_iff];intro hc;have:=(fJ _ _).1 hc;omega
     rw[e1];simp
  simp only[xN];by_cases hk:0<min m x.n
  ·rw [if_pos hk];have hok:okB (⟨0,min m x.n,x.s⟩:E)=true:=(aD _).2 ⟨by simp only;omega,by simp,by simp only;omega,by simp only;omega,by simp only;omega⟩;refine⟨aWv i1 rfl hok fun y hy=>hAe y hy,fun y hy=> ?_,fun i=> ?_,by rw[hlen];omega⟩
   ·rcases List.mem_append.1 hy with h1|h1
    ·obtain⟨z,hz,hz2⟩:=i2 y h1;exact⟨z,by simp[hz],hz2⟩
    ·simp at h1;subst h1;exact⟨x,by simp,by simp only;omega⟩
   ·rw[jE,sU _ hok,i3,hmain];congr 1;rw[Bool.eq_iff_iff];simp only[Bool.and_eq_true,decide_eq_true_eq,fJ];omega
  ·rw [if_neg hk];refine⟨i1,fun y hy=> ?_,fun i=> ?_,by rw[hlen];omega⟩
   ·obtain⟨z,hz,hz2⟩:=i2 y hy;exact⟨z,by simp[hz],hz2⟩
   ·rw [i3,hmain];have:(inX x i&&decide ((i:Int)<x.s+m))=false:=by
     rw[Bool.eq_false_iff];simp only[ne_eq,Bool.and_eq_true,decide_eq_true_eq,fJ];omega
    rw[this,Bool.or_false]
theorem aQp (l:List E) (n:Nat) (h:Canon l):aT (cZ l n).1=min (n:Int) (aT l):=by
 obtain⟨h1,_,h3,_⟩:=aGp l n h;rw[fE _ h1,fE _ h,aN _ _ _ fun i _=>h3 i,aXa];omega
def aLa (M:List Bool) (h:Nat) (i:Nat):Bool:=dC M i&&decide (h<=i)
def xC (M:List Bool) (n h:Nat):List E:=(cZ (dM (aV M) h) n).1++(cZ (beforeL (aV M) h) (n-min (n:Int) (aT (dM (aV M) h)))).1
def fZ (M:List Bool) (n h:Nat):List E:=
 if n=0 then []else
 match oO (dM (aV M) h) n with
 |some s=>[⟨0,n,s⟩]
 | none=>match oO (aV M) n with
  |some s=>[⟨0,n,s⟩]
  |none=>xC M n h
theorem zT (M:List Bool) (n h:Nat) (s:Int) (hn:1<=n) (hf:oO (dM (aV M) h) n=some s):fZ M n h=[⟨0,n,s⟩]:=by
 unfold fZ;rw[if_neg (by omega),hf]
theorem aJl (M:List Bool) (n h:Nat) (s:Int) (hn:1<=n) (hf:oO (dM (aV M) h) n=none) (hg:oO (aV M) n=some s):fZ M n h=[⟨0,n,s⟩]:=by
 unfold fZ;rw[if_neg (by omega),hf];simp only[hg]
theorem zS (M:List Bool) (n h:Nat) (hn:1<=n) (hf:oO (dM (aV M) h) n=none) (hg:oO (aV M) n=none):fZ M n h=xC M n h:=by
 unfold fZ;rw[if_neg (by omega),hf];simp only[hg]
theorem aKs (M:List Bool) (hN:M.length<=65536) (h:Nat):aT (dM (aV M) h)=aL (aLa M h) M.length:=by
 obtain⟨h1,h2⟩:=xS M hN h;rw[fE _ h1,aN _ _ _ fun i _=>h2 i,kG _ _ _ hN fun i hi _=>by rw[kQ M i hi];rfl];rfl
theorem aQq (M:List Bool) (hN:M.length<=65536) (h:Nat):aT (beforeL (aV M) h)=aL (fun i=>dC M i&& !decide (h<=i)) M.length:=by
 obtain⟨h1,h2⟩:=wR M hN h;rw[fE _ h1,aN _ _ _ fun i _=>h2 i,kG _ _ _ hN fun i hi _=>by rw[kQ M i hi];rfl];congr 1
 apply aN
 intro i _;congr 1;rw[Bool.eq_iff_iff];simp
theorem aDi (M:List Bool) (hN:M.length<=65536) (n h:Nat):(n:Int)-min (n:Int) (aT (dM (aV M) h))=((n-min n (aL (aLa M h) M.length):Nat):Int):=by
 rw[aKs M hN];omega
structure Taken (M:List Bool) (n:Nat) (l:List E):Prop where
 perm:aS M.length l=true
 range:nD M.length l=true
 free:∀ i,dX l i=true->dC M i=true
 len:aT l=n
theorem Taken.st {M:List Bool} {n:Nat} {l:List E} (h:Taken M n l):stN M l true=0:=by
 unfold stN;rw[kX];intro i hi;cases hl:dX l i
 ·rfl
 ·have:=h.free i hl;rw[oN M i hi]at this;simp at this;rw[List.getD_eq_getElem?_getD,this];rfl
theorem bIx (N:Nat) (x:E) (h:1<=x.n/\0<=x.s/\x.s+x.n<=N):aCi N [x]=0:=by
 have:=bFy N [] x h;rw[List.nil_append,aXp]at this;rw[this,show aWo N [] x=0 from dL _ _ fun i _=>rfl];rfl
theorem aJk {M:List Bool} (hN:M.length<=65536) {s n:Nat} (hn:1<=n) (h:aDf M s n=true):Taken M n [⟨0,n,s⟩]:=by
 have hr:=(wZ _ _ _).1 h;have hle:s+n<=M.length:=by
  have:=wH (hr (n-1) (by omega));omega
 have hp:aS M.length [(⟨0,n,s⟩:E)]=true:=(aO _ _).2 fun x hx=>by simp at hx;subst hx;simp only;omega
 refine⟨hp,xB hN hp (bIx _ _ (by simp only;omega)),fun i hi=> ?_,by simp[aT]⟩;rw[aKr]at hi;have:=(fJ _ _).1 hi;simp only at this;have h2:=hr (i-s) (by omega)
 rwa [show s+(i-s)=i by omega]at h2
theorem aIb {M:List Bool} {R:List E} (h:Canon R) (hf:∀ i,hasB R i=true->dC M i=true):aS M.length R=true:=by
 refine(aO _ _).2 fun x hx=> ?_;obtain⟨c1,c2,c3,c4,c5⟩:=(aD _).1 (h.1 x hx).2;have:=wH (hf (x.s+x.n-1).toNat (aRb h hx _ (by omega) (by omega)));omega
theorem oI {R:List E} (h:Canon R) (i:Nat):dX R i=hasB R i:=by
 rw[Bool.eq_iff_iff,sQ,iW]
 constructor
 ·rintro⟨x,hx,h1,h2⟩;exact⟨x,hx,(h.1 x hx).2,h1,h2⟩
 ·rintro⟨x,hx,_,h1,h2⟩;exact⟨x,hx,h1,h2⟩
theorem aMc {M:List Bool} (hN:M.length<=65536) {n h:Nat} (hfree:n<=aL (dC M) M.length):Taken M n (xC M n h):=by
 obtain ⟨f1,f2⟩:=xS M hN h;obtain⟨b1,b2⟩:=wR M hN h;have hle:=aQp _ n f1;unfold xC;rw[aDi M hN];have hle2:=aQp _ (n-min n (aL (aLa M h) M.length)) b1;obtain⟨c1,_,c3,_⟩:=aGp _ n f1;obtain⟨d1,_,d3,_⟩:=aGp _ (n-min n (aL (aLa M h) M.length)) b1;have ef:=aKs M hN h;have eb:=aQq M hN h;have es:=uQ (dC M) (fun i=>decide (h<=i)) M.length;have es':aL (fun i=>dC M i&&decide (h<=i)) M.length=aL (aLa M h) M.length:=rfl;generalize (cZ (dM (aV M) h) n).1=A at *;generalize hB:(cZ (beforeL (aV M) h) ((n-min n (aL (aLa M h) M.length):Nat):Int)).1=B at *;have hA:∀ i,hasB A i=true->dC M i=true/\h<=i:=fun i hi=>by
  rw[c3]at hi;unfold sG at hi;rw[Bool.and_eq_true,f2,Bool.and_eq_true]at hi;exact⟨hi.1.1,of_decide_eq_true hi.1.2⟩
 have hBf:∀ i,hasB B i=true->dC M i=true/\i<h:=fun i hi=>by
  rw[d3]at hi;unfold sG at hi;rw[Bool.and_eq_true,b2,Bool.and_eq_true]at hi;exact⟨hi.1.1,of_decide_eq_true hi.1.2⟩
 have pA:=aIb c1 fun i hi=>(hA i hi).1;have pB:=aIb d1 fun i hi=>(hBf i hi).1;have hp:aS M.length (A++B)=true:=by
  rw[aO];intro x hx;rcases List.mem_append.1 hx with h1|h1
  ·exact(aO _ _).1 pA x h1
  ·exact(aO _ _).1 pB x h1
 have hlen:aT (A++B)=n:=by rw[rQ,hle,hle2];omega
 have hF:∀ i,dX (A++B) i=(hasB A i||hasB B i):=fun i=>by rw[aAo,oI c1,oI d1]
 refine⟨hp,xB hN hp ?_,fun i hi=> ?_,hlen⟩
 ·unfold aCi;have e1:aL (dX (A++B)) M.length=aL (hasB A) M.length+aL (hasB B) M.length:=by
   rw[aN _ _ _ fun i _=>hF i];exact rU _ _ _ fun i _ h1 h2=>by have:=(hA i h1).2;have:=(hBf i h2).2;omega
  have e2:aT A=aL (hasB A) M.length:=by
   rw[fE _ c1,kG _ _ _ hN fun i hi _=> ?_];rw[Bool.eq_false_iff];intro hc;have:=wH (hA i hc).1;omega
  have e3:aT B=aL (hasB B) M.length:=by
   rw[fE _ d1,kG _ _ _ hN fun i hi _=> ?_];rw[Bool.eq_false_iff];intro hc;have:=wH (hBf i hc).1;omega
  rw[rQ,e1,e2,e3];omega
 ·rw[hF,Bool.or_eq_true]at hi;rcases hi with h1|h1
  ·exact(hA i h1).1
  ·exact(hBf i h1).1
theorem sJ {M:List Bool} (hN:M.length<=65536) {n h:Nat} (hfree:n<=aL (dC M) M.length):Taken M n (fZ M n h):=by
 by_cases h0:n=0
 ·subst h0;refine⟨rfl,xB hN rfl (aXp _),(fun i hi=>by cases hi),rfl⟩
 ·cases hf:oO (dM (aV M) h) n with
  | some s=>
   rw[zT M n h s (by omega) hf];obtain⟨s',rfl,_,hr,_⟩:=aJd hN (by omega) hf;exact aJk hN (by omega) hr
  | none=>
   cases hg:oO (aV M) n with
   | some s=>
    rw[aJl M n h s (by omega) hf hg];obtain⟨s',rfl,hr,_⟩:=bBp hN (by omega) hg;exact aJk hN (by omega) hr
   | none=>
    rw[zS M n h (by omega) hf hg];exact aMc hN hfree
end Go.Proofs.YtaiklhbakldfhaaGreat
