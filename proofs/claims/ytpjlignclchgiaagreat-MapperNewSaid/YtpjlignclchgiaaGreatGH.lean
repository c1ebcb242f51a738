/-
  Plain laws: sums over slots; the exclusive blocks of a volume as the reference counts them; the accounts of a family.
  Plain laws: the steps of a script; families that few steps make.
  Plain laws: what a clone changes.
  Conditions: as each theorem says.
-/
import Derived.Test.YtpjlignclchgiaaGreatGA
namespace Go.Proofs.YtpjlignclchgiaaGreat
set_option linter.unusedSimpArgs false
set_option linter.unusedVariables false
set_option maxRecDepth 100000
set_option maxHeartbeats 16000000
def sumN (f:Nat→Int):Nat→Int
 |0=>0
 |n+1=>sumN f n+f n
theorem sumN_congr {f g:Nat→Int} (n:Nat) (h:∀ i,i<n→f i=g i):sumN f n=sumN g n:=by
 induction n with
 |zero=>rfl
 |succ n ih=>simp only[sumN];rw[ih fun i hi=>h i (by omega),h n (by omega)]
theorem sumN_add (f g:Nat→Int) (n:Nat):sumN (fun i=>f i+g i) n=sumN f n+sumN g n:=by
 induction n with
 |zero=>rfl
 |succ n ih=>simp only[sumN,ih];omega
theorem sumN_none {f:Nat→Int} (n:Nat) (h:∀ i,i<n→f i=0):sumN f n=0:=by
 induction n with
 |zero=>rfl
 |succ n ih=>simp only[sumN];rw[ih fun i hi=>h i (by omega),h n (by omega)];rfl
theorem sumN_area {f:Nat→Bool} {g:Nat→Int} (n:Nat) (h:∀ i,i<n→g i=if f i=true then 1 else 0):sumN g n=area f n:=by
 induction n with
 |zero=>rfl
 | succ n ih=>
  simp only[sumN,area];rw[ih fun i hi=>h i (by omega),h n (by omega)]
  split <;> omega
theorem sumN_shift (f:Nat→Int) (s k:Nat):sumN f (s+k)=sumN f s+sumN (fun j=>f (s+j)) k:=by
 induction k with
 |zero=>simp[sumN]
 | succ k ih=>
  rw[←Nat.add_assoc];simp only[sumN,ih];omega
def oneX (C:List Int) (x:E):Int:=area (fun j=>oneB C (x.s.toNat+j)) x.n.toNat
def exclL (C:List Int) (l:List E):Int:=(l.map (oneX C)).sum
def one1 (C:List Int) (g:Nat→Int) (i:Nat):Int:=if oneB C i=true then g i else 0
theorem cntX_no {x:E} {i:Nat} (h:¬ (x.s≤(i:Int)∧(i:Int)<x.s+x.n)):cntX x i=0:=if_neg h
theorem cntX_yes {x:E} {i:Nat} (h:x.s≤(i:Int)∧(i:Int)<x.s+x.n):cntX x i=1:=if_pos h
theorem one1_zero (C:List Int) {g:Nat→Int} {i:Nat} (h:g i=0):one1 C g i=0:=by
 unfold one1;rw[h]
 split <;> rfl
theorem oneX_sum (C:List Int) (x:E) (h:1≤x.n∧0≤x.s∧x.s+x.n≤C.length):oneX C x=sumN (one1 C (cntX x)) C.length:=by
 obtain⟨N,hN⟩:∃ N,C.length=N:=⟨_,rfl⟩;rw[hN]at h ⊢;have e:N=x.s.toNat+x.n.toNat+(N-(x.s.toNat+x.n.toNat)):=by omega
 rw[e,sumN_shift,sumN_shift,sumN_none x.s.toNat,sumN_none (N-(x.s.toNat+x.n.toNat))]
 ·unfold oneX;rw[sumN_area (f:=fun j=>oneB C (x.s.toNat+j))]
  ·omega
  ·intro i hi;show one1 C (cntX x) (x.s.toNat+i)=_;unfold one1;rw[cntX_yes (by omega)]
 ·intro i hi;exact one1_zero C (g:=cntX x) (i:=x.s.toNat+x.n.toNat+i) (cntX_no (by omega))
 ·intro i hi;exact one1_zero C (cntX_no (by omega))
theorem one1_add (C:List Int) (f g:Nat→Int) (n:Nat):sumN (one1 C fun i=>f i+g i) n=sumN (one1 C f) n+sumN (one1 C g) n:=by
 rw[←sumN_add];refine sumN_congr n fun i _=> ?_;simp only[one1]
 split <;> omega
theorem excl_sum (C:List Int) (l:List E):permB C.length l=true→exclL C l=sumN (one1 C (cnt l)) C.length:=by
 induction l with
 |nil=>intro _;rw[sumN_none _ fun i _=>by unfold one1 cnt;split <;> rfl];rfl
 | cons x r ih=>
  intro h;have h':=(permB_iff _ _).1 h;have:=ih ((permB_iff _ _).2 fun y hy=>h' y (by simp[hy]));unfold exclL at this ⊢;rw[List.map_cons,List.sum_cons,this,oneX_sum C x (h' x (by simp)),←one1_add];rfl
theorem listB_cnt {N:Nat} (l:List E) (h:permB N l=true) (i:Nat):listB l i=decide (0<cnt l i):=by
 rw[Bool.eq_iff_iff,decide_eq_true_eq,cnt_pos];unfold listB listX;simp only[List.any_eq_true,Bool.and_eq_true,decide_eq_true_eq,inX_iff];exact⟨fun⟨x,hx,_,h2⟩=>⟨x,hx,h2⟩,fun⟨x,hx,h2⟩=>⟨x,hx,((permB_iff _ _).1 h x hx).1,h2⟩⟩
theorem single_sum (C:List Int) (l:List E) (h:permB C.length l=true) (h1:∀ i,i<C.length→oneB C i=true→cnt l i≤1):singleC C l=sumN (one1 C (cnt l)) C.length:=by
 unfold singleC;rw[←sumN_area (g:=one1 C (cnt l))];intro i hi;have hb:=cnt_bound l i;unfold one1;rw[listB_cnt l h];by_cases ho:oneB C i=true
 ·have:=h1 i hi ho;rw[if_pos ho,ho];simp only[Bool.and_true,decide_eq_true_eq]
  split <;> omega
 ·rw[if_neg ho,if_neg (by simp[ho])]
theorem cntV_mem (vs:List Vol) (v:Vol) (h:v∈vs) (i:Nat):cnt v.l i≤cntV vs i:=by
 have hn:∀ vs:List Vol,0≤cntV vs i:=fun vs=>by
  induction vs with
  |nil=>simp[cntV]
  | cons w r ih=>
   have:=(cnt_bound w.l i).1;simp only[cntV,List.map_cons,List.sum_cons]at ih ⊢;omega
 induction vs with
 |nil=>simp at h
 | cons w r ih=>
  have h0:=hn r;have h1:=(cnt_bound w.l i).1;simp only[cntV,List.map_cons,List.sum_cons]at ih h0 ⊢;rcases List.mem_cons.1 h with rfl|h
  ·omega
  ·have:=ih h;omega
theorem one_le {F:Fam} (hF:F.ok) {v:Vol} (hv:v∈F.vs) (i:Nat) (hi:i<F.C.length) (h:oneB F.C i=true):cnt v.l i≤1:=by
 have h1:=cntV_mem F.vs v hv i;have h2:=hF.get i (by rw[F.C_length]at hi;exact hi);have h3:F.C.getD i 0=1:=by simpa [oneB]using h
 omega
theorem excl_single {F:Fam} (hF:F.ok) {v:Vol} (hv:v∈F.vs):exclL F.C v.l=singleC F.C v.l:=by
 have hp:permB F.C.length v.l=true:=by rw[F.C_length];exact(hF.vol v hv).perm
 rw[excl_sum _ _ hp,single_sum _ _ hp (one_le hF hv)]
theorem exclL_take (C:List Int) (l:List E) (k:Nat) (h:k<l.length):exclL C (l.take (k+1))=exclL C (l.take k)+oneX C l[k]:=by
 unfold exclL;rw[List.take_succ_eq_append_getElem h,List.map_append,List.sum_append];simp only[List.map_cons,List.map_nil,List.sum_cons,List.sum_nil];omega
theorem exclL_bd (C:List Int) (l:List E) (m:Nat) (h:∀ x∈l,x.n≤m):0≤exclL C l∧exclL C l≤m*l.length:=by
 induction l with
 |nil=>simp[exclL]
 | cons x r ih=>
  have h1:=ih fun y hy=>h y (by simp[hy]);have h2:=h x (by simp);have h3:=area_le (fun j=>oneB C (x.s.toNat+j)) x.n.toNat;unfold exclL at h1 ⊢;simp only[List.map_cons,List.sum_cons,List.length_cons];rw[show((r.length+1:Nat):Int)=r.length+1 by omega,Int.mul_add];unfold oneX;unfold oneX at h1;omega
structure Step36 where
 k:Int
 v:Int
 o:Int
 a:Int
 n:Int
 s:Int
structure Step36.ok (s:Step36):Prop where
 k:0≤s.k∧s.k≤255
 v:0≤s.v∧s.v≤255
 o:0≤s.o∧s.o≤255
 a:0≤s.a∧s.a≤255
 n:0≤s.n∧s.n≤255
 s:0≤s.s∧s.s≤255
def noName:List UInt8:=[110,111,32,110,97,109,101]
def nameN (n:Int):List UInt8:=if n%6=5 then noName else [UInt8.ofNat (97+(n%6).toNat)]
theorem nameN_len (n:Int):(nameN n).length≤7:=by unfold nameN noName;split <;> simp
theorem nameN_max (n:Int):(nameN n).length≤maxLen:=Nat.le_trans (nameN_len n) (by simp[maxLen])
def letter5 (s:List UInt8):Prop:= ∃j:Nat,j<5∧s=[UInt8.ofNat (97+j)]
theorem nameN_ok {n:Int} (hn:0≤n) (h:nameB (nameN n)=true):letter5 (nameN n):=by
 unfold nameN at*
 split
 ·rename_i h5
  rw[if_pos h5]at h;have h9:nameB noName=false:=by decide
  rw[h9]at h;cases h
 ·rename_i h5
  exact⟨(n%6).toNat,by omega,rfl⟩
def stepF (F:Fam) (s:Step36):Fam × List E × Int:=
 if s.k%8=0 then ((createF F (nameN s.v) s.n s.a).1,[],(createF F (nameN s.v) s.n s.a).2)
 else if s.k%8=1 then ((cloneF F (nameN s.v) (nameN s.o)).1,[],(cloneF F (nameN s.v) (nameN s.o)).2)
 else if s.k%8=2 then deleteF F (nameN s.v)
 else if s.k%8=3 then unmapF F (nameN s.v) s.a s.n
 else assignF F (nameN s.v) ⟨s.a,s.n,s.s⟩
def Fam.small (F:Fam):Prop:= ∀v∈F.vs,v.n≤255∧letter5 v.nm
theorem small_zero:zeroF.small:=fun v hv=>by simp[zeroF]at hv
theorem small_put {F:Fam} (h:F.small) (v:Vol) (hv:v.n≤255∧letter5 v.nm):Fam.small ⟨F.N,putV F.vs v⟩:=fun w hw=>by
 rcases mem_putV.1 hw with rfl|hw
 ·exact hv
 ·exact h w hw.1
theorem small_step {F:Fam} (h:F.small) (s:Step36) (hs:s.ok):(stepF F s).1.small:=by
 unfold stepF
 split
 ·show (createF F (nameN s.v) s.n s.a).1.small;unfold createF
  split
  ·exact small_zero
  rename_i hb
  have hb:nameB (nameN s.v)=true:=by
   cases hq:nameB (nameN s.v)
   ·rw[hq]at hb;exact absurd rfl hb
   ·rfl
  split
  ·exact small_zero
  split
  ·exact small_zero
  exact small_put h _ ⟨hs.n.2,nameN_ok hs.v.1 hb⟩
 split
 ·show(cloneF F (nameN s.v) (nameN s.o)).1.small;unfold cloneF
  split
  ·exact small_zero
  rename_i v hv
  split
  ·exact small_zero
  rename_i hb
  split
  ·exact small_zero
  split
  ·exact small_zero
  exact small_put h _ ⟨(h v (getV_mem hv).1).1,nameN_ok hs.o.1 (by simpa using hb)⟩
 split
 ·unfold deleteF
  split
  ·exact small_zero
  exact fun w hw=>h w (mem_delV.1 hw).1
 split
 ·unfold unmapF
  split
  ·exact small_zero
  rename_i v hv
  split
  ·exact small_zero
  exact small_put h _ (h v (getV_mem hv).1)
 unfold assignF
 split
 ·exact small_zero
 rename_i v hv
 split
 ·exact small_zero
 exact small_put h _ (h v (getV_mem hv).1)
def Fam.good (F:Fam):Prop:=F.ok∧F.small
theorem good_new (n:Nat) (hn:n≤65536):(⟨n,[]⟩:Fam).good:=⟨⟨hn,List.Pairwise.nil,Nat.zero_le _,by simp⟩,by simp[Fam.small]⟩
theorem step_other {F:Fam} (hF:F.ok) {s:Step36} (he:(stepF F s).2.2=0) {v:Vol} (hv:v∈F.vs) (hn:v.nm≠nameN s.v∨s.k%8=1):getV (stepF F s).1.vs v.nm=some v:=by
 have hg:=getV_of hF.sorted hv;unfold stepF at *;by_cases h0:s.k%8=0
 ·rw[if_pos h0]at he ⊢;have hn:=hn.resolve_right (by omega);revert he;show(createF F (nameN s.v) s.n s.a).2=0→getV (createF F (nameN s.v) s.n s.a).1.vs v.nm=some v;unfold createF
  split
  ·intro h;simp at h
  split
  ·intro h;simp at h
  split
  ·intro h;simp at h
  intro _;show getV (putV F.vs ⟨nameN s.v,s.n,s.a,[]⟩) v.nm=some v;rw[getV_put hF.sorted,if_neg hn,hg]
 rw[if_neg h0]at he ⊢;by_cases h1:s.k%8=1
 ·rw[if_pos h1]at he ⊢;revert he;show(cloneF F (nameN s.v) (nameN s.o)).2=0→getV (cloneF F (nameN s.v) (nameN s.o)).1.vs v.nm=some v;unfold cloneF
  split
  ·intro h;simp at h
  split
  ·intro h;simp at h
  split
  ·intro h;simp at h
  split
  ·intro h;simp at h
  rename_i u _ _ hs _
  intro _;show getV (putV F.vs ⟨nameN s.o,u.n,0,u.l⟩) v.nm=some v;rw[getV_put hF.sorted,if_neg,hg];intro e
  apply hs
  show(getV F.vs (nameN s.o)).isSome=true;have e':v.nm=nameN s.o:=e;rw[←e',hg];rfl
 rw[if_neg h1]at he ⊢;have hn:=hn.resolve_right h1;by_cases h2:s.k%8=2
 ·rw[if_pos h2]at he ⊢;revert he;unfold deleteF
  split
  ·intro h;simp at h
  intro _;show getV (delV F.vs (nameN s.v)) v.nm=some v;rw[getV_del hF.sorted,if_neg hn,hg]
 rw[if_neg h2]at he ⊢;by_cases h3:s.k%8=3
 ·rw[if_pos h3]at he ⊢;revert he;unfold unmapF
  split
  ·intro h;simp at h
  rename_i u hu
  split
  ·intro h;simp at h
  intro _;show getV (putV F.vs (u.set _)) v.nm=some v;rw[getV_put hF.sorted,if_neg,hg];exact fun e=>hn (e.trans (getV_mem hu).2)
 rw[if_neg h3]at he ⊢;revert he;unfold assignF
 split
 ·intro h;simp at h
 rename_i u hu
 split
 ·intro h;simp at h
 intro _;show getV (putV F.vs (u.set _)) v.nm=some v;rw[getV_put hF.sorted,if_neg,hg];exact fun e=>hn (e.trans (getV_mem hu).2)
theorem range_whole {F:Fam} (hF:F.ok) {v:Vol} (hv:getV F.vs v.nm=some v):rangeF F v.nm 0 v.n=(v.l,0):=by
 have hk:=hF.vol v (getV_mem hv).1;unfold rangeF;rw[hv];show(if inB 0 v.n v.n=false then ([],(2:Int))else (inL v.l 0 v.n,0))=_;have h1:=hk.n1;rw[if_neg (by rw[(inB_iff _ _ _).2 ⟨by omega,by omega,by omega,by omega⟩];decide),in_all hk.valid hk.norm hk.ins]
theorem del_ins {u:Vol} {vs:List Vol} (h:∀ w∈vs,w.nm≠u.nm):delV (insV u vs) u.nm=vs:=by
 induction vs with
 |nil=>simp[insV,delV]
 | cons w r ih=>
  have h1:=h w (by simp);have h2:=ih fun x hx=>h x (by simp[hx]);have h3:delV r u.nm=r:=del_none (getV_none.2 fun x hx=>h x (by simp[hx]));unfold insV
  split
  ·unfold delV at h3 ⊢;rw[List.filter_cons_of_neg (by simp),List.filter_cons_of_pos (by simpa using h1),h3]
  ·unfold delV at h2 ⊢;rw[List.filter_cons_of_pos (by simpa using h1),h2]
theorem picks_none (f:Nat→Bool) (n:Nat) (h:∀ i,i<n→f i=false):picks f n=[]:=by
 induction n with
 |zero=>rfl
 |succ n ih=>rw[picks_no f n (h n (by omega)),ih fun i hi=>h i (by omega)]
section
variable {F:Fam} (hF:F.good) {v:Vol} (hv:v∈F.vs)
include hF
include hv
omit hv in
end
end Go.Proofs.YtpjlignclchgiaaGreat
