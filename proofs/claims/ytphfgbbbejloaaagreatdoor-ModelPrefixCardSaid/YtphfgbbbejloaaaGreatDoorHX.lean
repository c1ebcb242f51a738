/- slices.Clone and slices.SortFunc as extent.Runs calls them. Conditions: as each theorem says. -/
import Derived.Test.YtphfgbbbejloaaaGreatDoorGF
import Derived.Shelf.SlSortCmp.NoneTotal
set_option linter.unusedSimpArgs false
set_option linter.unusedVariables false
set_option maxRecDepth 100000
set_option maxHeartbeats 16000000
namespace Go.Proofs.YtphfgbbbejloaaaGreatDoor
open Go.RowKit
open Go.Proofs.Tryz
open Go.Shelf Go.Sort
theorem KD{P:Prop}(h:P:=by first|omega|(simp only[List.length_nil,Qg,List.length_cons];omega)):P:=h
theorem KC{P:Prop}(h:P:=by first|(simp only[maxLen];omega)|(simp only[maxLen,List.length_nil,Qg,List.length_cons];omega)):P:=h
theorem Rw{P:Prop}(h:P:=by simp only[World.size_alloc];omega):P:=h
theorem aEh{P:Prop}(h:P:=by
  have HO4:=hD (aG.snoc hown1 sM);clear hown1 hgrow1 hwhere1;go_roundw
  case rel=>exact⟨k+1,oM,by go_num,by rw[HT.o];exact HO4.o,hB4.o⟩
  case measure=>simp[intOf];omega
  ):P:=h
instance:Inhabited E:=⟨⟨0,0,0⟩⟩
def MS(a b:Int):Int:=if a<b then -1 else if b<a then 1 else 0
theorem Yj(a:Int)(w:Wd):ep 297 #[a] w λe w'=>e= .returned (.bool false)/\w=w':=by
 go_enter func297,ntmps297;go_wp2;go_ret;exact⟨rfl,rfl⟩
theorem QF(a b:Int)(w:Wd):ep 284 #[a,b] w λe w'=>e= .returned (.int .i64 (MS a b))/\w=w':=by
 go_enter func284,ntmps284
 go_wp2_with (go_at_call 297;refine(Yj _ _).m ?_;rintro e w1 ⟨rfl,rfl⟩)
 all_goals
  go_ret;exact⟨pG (by unfold MS;split <;> (try split) <;> omega),rfl⟩
theorem aBf(x y:E)(W:Wd):ep 283 #[.agg #[x.a,x.n,x.s],.agg #[y.a,y.n,y.s]] W λe w'=>
  e= .returned (.int .i64 (MS x.s y.s))/\ ∃q os',w'=Sort.grow (W.drewN q) os':=by
 go_enter func283,ntmps283;go_wp2_with fail;refine(QF _ _ _).m ?_;rintro e w1 ⟨rfl,rfl⟩;go_wp2_with fail;go_ret;exact⟨rfl,0,_,by rw[alloc_eq_grow,alloc_eq_grow,grow_grow];rfl⟩
theorem Ch(l:List E)(a:OA)(c:Nat)(w:Wd)(hr:Rd w a l)(hl:l.length<=1000000000):
  ep 252 #[.slice a l c] w λe w'=>∃v,e= .returned v/\aG w' w v l/\Below w w w':=by
 obtain⟨i0,hi,hz0,hz1,hz2⟩:=info_parts kK;have q22:∀(w:Wd) (a:OA) (n c n' c':Nat),(binOp .eql 52 (.slice a n c) (.slice none n' c')).run prog w= .ok (.bool a.isNone) w:=λw a n c n' c'=>Lib.run_eql_slice_nil w _ _ a n c n' c' underlying52
 cases a with
 | none=>
  have h0:l=[]:=by
   rcases hr.2 with h|⟨b,o,h,_⟩
   ·exact h
   ·cases h
  subst h0;go_enter func252,ntmps252;go_wp2_with fail;go_ret;exact⟨_,rfl,aG.nil _ _,bR⟩
 | some ad=>
  have h0:=aG.lit w #[] [] rfl dE w.heap.size (Ye _);have hs:=((hr.keep (bR.aIw (cq #[] 128))).source);have H0:=hD h0;have HS:=hD hs;clear h0 hs;go_enter func252,ntmps252
  go_wp2_with (at_builtin;refine dB _ rfl _ _ 52 rfl w.heap.size 128 i0 (.agg #[oo,oo,oo]) 3 24 underlying52 hi hz0 hz1 hz2 rfl dE _ _ _ rfl H0.o _ _ _ _ rfl HS.o KD KC (by first|omega|(simp only[World.size_alloc];omega)) ?_;intro v1 w1 hown1 hgrow1 hwhere1)
  go_ret;refine⟨_,rfl,?_,(bR.aIw _).aJa hgrow1 λj hj=>(H0.o.lt j hj).1⟩;exact aG.append (l:=[]) hown1 sM
shelf_lay_g SlLaysF0.n6 Slsf 6 at Tryz 282 as Tryz.sortE
theorem RO(x y:E):ltOf (λx y:E=>MS x.s y.s) x y=decide (x.s<y.s):=by
 unfold ltOf MS;by_cases h1:x.s<y.s
 ·simp[h1]
 ·by_cases h2:y.s<x.s <;> simp[h1,h2]
theorem aHx:SWO (ltOf λx y:E=>MS x.s y.s) where
 irrefl x:=by rw[RO];simp
 trans x y z h1 h2:=by rw[RO]at *;simp at *;omega
 ntrans x y z h1 h2:=by rw[RO]at *;simp at *;omega
theorem PO(d:Array E):(flatK E.cells 3 d).toList=bI d.toList:=by
 refine List.ext_getElem (by rw[dH];simp) λi h1 h2=> ?_;have hi:i<d.size*3:=by rw[dH]at h2;simpa using h2
 have hk:i/3<d.toList.length:=by simp;omega
 have hg:=get_flatK E.cells 3 d i hi;rw[getElem!_pos _ i (by simpa using hi)]at hg;rw[Array.getElem_toList,hg];have hd:d[i/3]! =d.toList[i/3]:=by rw[getElem!_pos d (i/3) (by simpa using hk)];simp
 rw[hd];obtain⟨c1,c2,c3⟩:=zJ d.toList (i/3) _ (Qa hk);have h3:(bI d.toList)[i]? =some (bI d.toList)[i]:=Qa h2;rcases(by omega:i%3=0∨i%3=1∨i%3=2)with e|e|e
 ·rw[show i/3*3=i by omega,h3]at c1;injection c1 with c1;rw[e,c1];rfl
 ·rw[show i/3*3+1=i by omega,h3]at c2;injection c2 with c2;rw[e,c2];rfl
 ·rw[show i/3*3+2=i by omega,h3]at c3;injection c3 with c3;rw[e,c3];rfl
theorem aG.holdsK{w:Wd}{B g n c:Nat}{l:List E}(h:aG w B (.slice (cw g 0) n c) l):HoldsK E.cells 3 w g 0 l.toArray:=by
 intro j hj;simp only[size_flatK,List.size_toArray]at hj;rcases h.form with ⟨hv,_⟩|⟨g',c',hv,_,_,_,_,hgt,hfz⟩
 ·simp at hv
 ·simp only[Value.slice.injEq,Option.some.injEq,Addr.mk.injEq,and_true,true_and]at hv;obtain⟨rfl,_,rfl⟩:=hv;refine⟨?_,hfz _⟩;have hk:j/3<l.length:=oM
  obtain⟨k1,k2,k3⟩:=hgt (j/3) _ (Qa hk);have hg:=get_flatK E.cells 3 l.toArray j (by simpa using hj);have hd:l.toArray[j/3]! =l[j/3]:=by rw[getElem!_pos _ (j/3) (by simpa using hk)];simp
  rw[hg,hd];simp only[Nat.zero_add]at k1 k2 k3 ⊢;rcases(by omega:j%3=0∨j%3=1∨j%3=2)with e|e|e
  ·rw[show j/3*3=j by omega]at k1;rw[e,k1];rfl
  ·rw[show j/3*3+1=j by omega]at k2;rw[e,k2];rfl
  ·rw[show j/3*3+2=j by omega]at k3;rw[e,k3];rfl
theorem vN(w:Wd)(g n:Nat)(d:Array E)(os:Array Obj)(k:Nat)(hk:k<w.heap.size):
  (sortWorldK E.cells 3 w g 0 n d os).heap[k]? =if g=k then (w.heap[k]?).map (onCells (putCells id 0 (flatK E.cells 3 d)))else w.heap[k]? :=by
 unfold sortWorldK putRowK putRow mapBlock Sort.grow Sort.ahead;simp only;rw[Array.getElem?_append_left (by simpa using hk),Array.getElem?_modify]
theorem aG.sorted{w:Wd}{B g n c:Nat}{l:List E}(h:aG w B (.slice (cw g 0) l c) l)(m:Nat)(d:Array E)(os:Array Obj)(hd:d.size=l.length):
  aG (sortWorldK E.cells 3 w g 0 m d os) B (.slice (cw g 0) l c) d.toList/\w.grownBy (sortWorldK E.cells 3 w g 0 m d os) (some g):=by
 obtain⟨hl,⟨h',_⟩|⟨g',cap',cur,h',hb,hg,hnc,hcm,hcs,htake⟩⟩:=h
 ·simp at h'
 ·simp only[Value.slice.injEq,Option.some.injEq,Addr.mk.injEq,and_true,true_and]at h';obtain⟨rfl,rfl⟩:=h';have hlt:g<w.heap.size:=(Array.getElem?_eq_some_iff.1 hg).1;have hsz:(sortWorldK E.cells 3 w g 0 m d os).heap.size=w.heap.size+os.size:=by
   unfold sortWorldK putRowK putRow mapBlock Sort.grow Sort.ahead;simp
  refine⟨⟨by rw[dH],.inr ⟨g,c,putCells id 0 (flatK E.cells 3 d) cur,by simp[hd],hb,?_,by simpa [hd]using hnc,hcm,by simpa [putCells]using hcs,?_⟩⟩,⟨rfl,rfl,rfl,oM,λk hk hne=> ?_⟩⟩
  ·rw[vN w g m d os g hlt,Qf rfl,hg];rfl
  ·rw[<-PO];have hfs:(flatK E.cells 3 d).toList.length=d.toList.length*3:=by simp
   refine List.ext_getElem (by simp[putCells,hcs,hd];omega) λi h1 h2=> ?_;have hi:i<d.size*3:=by simpa using h2
   rw[List.getElem_take];simp only[putCells,Array.toList_mapIdx,List.getElem_mapIdx,size_flatK,Yf,true_and,Nat.zero_add,Qf hi,Nat.sub_zero,id_eq];rw[getElem!_pos _ i (by simpa using hi)];simp
  ·rw[vN w g m d os k hk,Qe (λe=>hne (by rw[e]))]
theorem VK(g c:Nat)(l:List E)(B:Nat)(w:Wd)(hown:aG w B (.slice (cw g 0) l c) l)(hl:l.length<=1000000000):
  ep 282 #[.slice (cw g 0) l c,.func (.func 283) #[] #[]] w λe w'=>
   e= .returned (.tuple #[])/\ ∃d:List E,aG w' B (.slice (cw g 0) l c) d/\w.grownBy w' (some g)/\(∀x,x∈d↔x∈l)/\d.Pairwise (λx y=>x.s<=y.s)/\d.length=l.length:=by
 have eg:∀args w,(callFunc 283 args).run prog w= .ok (.enter 283 args) w:=enters_of func283 kR rfl;have hcl:CmpLays prog 283 #[] E.cells 3 (λx y=>MS x.s y.s) g 0 l.toArray.size w:=λ_ _ _ _ x y=>aBf x y _;have hlt:=(hown.lt g rfl).2;have hcon:=AnyQ.slices_SortFunc Tryz.sortE 3 Tryz.isAgg128 Tryz.sizeOf128 E.cells (λ_=>rfl) (λx v hv=>by simp[E.cells]at hv;rcases hv with rfl|rfl|rfl <;> rfl) (λx y=>MS x.s y.s) aHx 283 #[] g 0 c l.toArray w eg hcl hown.holdsK hlt pO;change ep 282 _ _ _ at hcon;have hsz:l.toArray.size=l.length:=by simp
 rw[hsz]at hcon;refine hcon.m ?_;rintro e w' ⟨rfl,d',n,os,hp,hs,rfl⟩;obtain⟨p1,_,p3⟩:=hp;have hd:d'.size=l.length:=by rw[p1];simp
 obtain⟨o1,o2⟩:=hown.sorted (n:=l.length) n d' os hd;refine⟨rfl,d'.toList,o1,o2,λx=> ?_,?_,by simpa using hd⟩
 ·have:=p3.mem_iff (a:=x);rw[Array.extract_eq_self_of_le oM,Array.extract_eq_self_of_le sM]at this
  simpa using this
 ·rw[List.pairwise_iff_getElem];intro i j hi hj hij;have h1:=hs i j (Yf _) hij (by simp at hj;omega);rw[RO,getElem!_pos d' j (by simpa using hj),getElem!_pos d' i (by simpa using hi)]at h1;have:=Yh h1;simp only[Array.getElem_toList];omega
theorem VJ(v:Value)(l:List E)(B:Nat)(w:Wd)(hown:aG w B v l)(hl:l.length<=1000000000):
  ep 282 #[v,.func (.func 283) #[] #[]] w λe w'=>
   e= .returned (.tuple #[])/\ ∃d:List E,aG w' B v d/\w.grownBy w' v.ownBlock/\(∀x,x∈d↔x∈l)/\d.Pairwise (λx y=>x.s<=y.s)/\d.length=l.length:=by
 rcases hown.form with ⟨rfl,rfl⟩|⟨g,c,rfl,_⟩
 ·have hcon:=AnyF.slices_SortFunc_none {Tryz.sortE with} none 0 (.func (.func 283) #[] #[]) w;change ep 282 _ _ _ at hcon;refine hcon.m ?_;rintro e w' ⟨rfl,rfl⟩;exact⟨rfl,[],hown,⟨rfl,rfl,rfl,Ye _,λ_ _ _=>rfl⟩,λx=>Iff.rfl,sM,rfl⟩
 ·exact VK g c l B w hown hl
theorem Ac(l:List E)(a:OA)(c:Nat)(w:Wd)(hr:Rd w a l)(hw:wfL l)(hl:l.length<=1000000000):
  ep 253 #[.slice a l c] w λe w'=>∃v,e= .returned v/\aG w' w v (bW l)/\Below w w w':=by
 obtain⟨i0,hi,hz0,hz1,hz2⟩:=info_parts kK;go_enter func253,ntmps253;go_wp2_with fail;refine(Ch l _ _ _ hr hl).m ?_;rintro e w1 ⟨v1,rfl,ho1,hb1⟩;clear hr;go_wp2_with fail;refine(PZ v1 l w _ ho1 hl hw hb1.size).m ?_;rintro e w2 ⟨v2,rfl,ho2,hg2,hv2⟩;have hB2:=hb1.aJa hg2 λj hj=>(ho1.lt j hj).1;have hfl:=List.length_filter_le okB l;clear ho1 hb1 hg2 hv2;go_wp2_with fail;refine(VJ v2 (l.filter okB) w _ ho2 oM).m ?_;rintro e w3 ⟨rfl,d,ho3,hg3,hmem,hsort,hdl⟩;have hB3:=hB2.aJa hg3 λj hj=>(ho2.lt j hj).1;have HD:=hD (KH l d hmem hsort);have HOK:Hid (∀x∈d,okB x=true):=hD λx hx=>(List.mem_filter.1 ((hmem x).1 hx)).2;have HS:=hD hsort;have hdl2:d.length<=1000000000:=oM
 obtain⟨a3,c3,rfl,hr3⟩:=ho3.rd oM;clear ho2 hg3 hmem hsort hdl hB2 ho3 hw hfl;go_wp2_with fail;go_loopw [4,15] (λv i wr=>∃k:Nat,k<=d.length/\i= .int .i64 k/\aG wr w3 v (kI (d.take k))/\Below w3 w3 wr) (λ_ i _=>d.length-(intOf i).toNat)
 case atStart=>exact⟨0,Yf _,rfl,aG.nil _ _,bR⟩
 case round=>
  obtain⟨k,hk,rfl,ho,hB⟩:=hrel;by_cases hlt:k<d.length
  ·obtain ⟨b,o,rfl,hat⟩:=(hr3.keep hB).at oM;obtain⟨h1,h2,h3⟩:=hat k _ (Qa hlt);obtain⟨c1,c2,c3,c4,c5⟩:=(aB _).1 (HOK.o _ (Qm hlt));have HT:=hD (LD d k hlt);obtain⟨f1,f2,f3⟩:=uI (d.take k) (λx hx=>HOK.o x (List.mem_of_mem_take hx)) (HS.o.sublist (List.take_sublist k d));have hjl:=bE f1;generalize d[k]=x at *;generalize kI (d.take k)=R at *;have HF1:=hD f1;clear f1 f2 f3 hat;by_cases hR:R=[]
   ·subst hR;have HR:=hD ho;obtain⟨a4,c4,rfl⟩:∃a c,u4= .slice a 0 c:=by
     rcases ho.form with ⟨rfl,_⟩|⟨g,c,rfl,_⟩
     ·exact⟨_,_,rfl⟩
     ·exact⟨_,_,rfl⟩
    clear ho hr3;go_wp2_with fail;refine wpr ?_
    repeat(go_big_quiet_step (fail))
    refine wqn λnq=> ?_;generalize hW:World.next _ nq=W;have hb:Below wr wr W:=by rw[<-hW];exact(bR.aIw _).aJd _
    have x2:W (cw wr.heap.size 1)=some (.int .i64 x.n):=by rw[<-hW];simp
    have x3:W (cw wr.heap.size 2)=some (.int .i64 x.s):=by rw[<-hW];simp
    have HR2:=hD (HR.o.keep hb);have hB2:=hB.on hb;have hsz2:=hB2.size;clear hW hb h1 h2 h3 HR
    go_wp2_with (at_builtin;refine aO _ rfl _ _ 52 rfl w3.heap.size 128 i0 (.agg #[oo,oo,oo]) 3 24 underlying52 hi hz0 hz1 hz2 rfl dE _ _ _ rfl (Qu HR2.o _) (cw W 0) 1 1 (E.cells (⟨0,x.n,x.s⟩:E)) rfl rfl (sI _ _ sM _ _) (dF _) KD KC Rw ?_;intro v1 w1 hown1 hgrow1 hwhere1)
    have hB4:=hD ((hB2.aIw (cq #[oo,.int .i64 x.n,.int .i64 x.s] 128)).aJa hgrow1 λj hj=>(HR2.o.lt j hj).1);exact aEh
   ·obtain ⟨C,y,rfl⟩:=fB R hR;obtain⟨g,c4,rfl,hg1,hg2,hc1,hc2,hgt,hfz⟩:=(ho.form).resolve_left sM;obtain⟨y1,y2,y3⟩:=hgt C.length y sM;simp only[Qg,List.length_cons,List.length_nil,Nat.zero_add]at y1 y2 y3 hc1 hjl;have hf:=hfz (C.length*3+1);obtain⟨e1,e2,e3,e4,e5⟩:=(aB y).1 (HF1.o.1 y sM).2;have hlen:(C++[y]).length=C.length+1:=by simp
    have HR:=hD ho;rw[hlen]at HR ⊢;have hd:decide (0<=C.length)=true:=by simp
    clear hgt hfz hlen ho hR hr3;by_cases hm:x.s<=y.s+y.n
    ·have hsb:decide (x.s<=y.s+y.n)=true:=Qo hm;have HG:=hD (GR C y x hm);clear hm;go_wp2_with fail;refine wpr ?_
     repeat(go_big_quiet_step (fail))
     refine wqn λnq=> ?_;generalize hW:World.next _ nq=W;have hb:Below wr wr W:=by rw[<-hW];exact(bR.aIw _).aJd _
     have x2:W (cw wr.heap.size 1)=some (.int .i64 x.n):=by rw[<-hW];simp
     have x3:W (cw wr.heap.size 2)=some (.int .i64 x.s):=by rw[<-hW];simp
     have hfr:=hb.aJc y2 hf;have z2:=hb.keep y2;have z3:=hb.keep y3;have HR2:=hD (HR.o.keep hb);have hB2:=hB.on hb;clear hW hb h1 h2 h3 y1 y2 y3 hf HR;go_wp2_with fail;refine aAe 21 ?_;simp only[List.take_succ_cons,List.take_zero,List.drop_succ_cons,List.drop_zero]
     repeat(go_big_quiet_step (fail))
     refine wqn λnq=> ?_;have hB3':=hB2.aJd nq;have HR3:=hD (HR2.o.keep (World.aIy W nq));go_wp2_with fail;have hst:=HR3.o.setn rfl (max y.n (x.s+x.n-y.s));have HS1:=hD hst.1;have HS2:=hD hst.2;clear hst;go_roundw
     case rel=>exact⟨k+1,oM,by go_num,by rw[HT.o,HG.o];exact HS1.o,hB3'.aJa HS2.o λj hj=>by simp at hj;omega⟩
     case measure=>simp[intOf];omega
    ·have hsb:decide (x.s<=y.s+y.n)=false:=Qp hm;have HG:=hD (KY C y x hm);clear hm;go_wp2_with fail;refine wpr ?_
     repeat(go_big_quiet_step (fail))
     refine wqn λnq=> ?_;generalize hW:World.next _ nq=W;have hb:Below wr wr W:=by rw[<-hW];exact(bR.aIw _).aJd _
     have x2:W (cw wr.heap.size 1)=some (.int .i64 x.n):=by rw[<-hW];simp
     have x3:W (cw wr.heap.size 2)=some (.int .i64 x.s):=by rw[<-hW];simp
     have HR2:=hD (HR.o.keep hb);have hB2:=hB.on hb;have hsz2:=hB2.size;clear hW hb h1 h2 h3 y1 y2 y3 hf HR
     go_wp2_with (at_builtin;refine aO _ rfl _ _ 52 rfl w3.heap.size 128 i0 (.agg #[oo,oo,oo]) 3 24 underlying52 hi hz0 hz1 hz2 rfl dE _ _ _ rfl (Qu HR2.o _) (cw W 0) 1 1 (E.cells (⟨0,x.n,x.s⟩:E)) rfl rfl (sI _ _ sM _ _) (dF _) KD KC Rw ?_;intro v1 w1 hown1 hgrow1 hwhere1)
     have hB4:=hD ((hB2.aIw (cq #[oo,.int .i64 x.n,.int .i64 x.s] 128)).aJa hgrow1 λj hj=>(HR2.o.lt j hj).1);have HO4:=hD (aG.snoc hown1 sM);clear hown1 hgrow1 hwhere1;go_roundw
     case rel=>exact⟨k+1,oM,by go_num,by rw[HT.o,HG.o];exact HO4.o,hB4.o⟩
     case measure=>simp[intOf];omega
  ·go_wp2_with fail;go_ret;rw[Qq oM,HD.o]at ho;exact⟨_,rfl,ho.mono hB3.size,hB3.on hB⟩
theorem Vt(C:List Int)(a:OA)(c:Nat)(w:Wd)(hrC:RdI w a C):
  ep 230 #[.agg #[.slice a C c]] w λe w'=>∃v,e= .returned v/\aG w' w v (iY C)/\Below w w w':=by
 have hC:=hrC.1;obtain⟨i0,hi,hz0,hz1,hz2⟩:=info_parts kK;go_enter func230,ntmps230;go_wp2_with fail;go_loopw [3,9] (λv i wr=>∃k:Nat,k<=C.length/\i= .int .i64 k/\aG wr w v (picks (bH C) k)/\Below w w wr) (λ_ i _=>C.length-(intOf i).toNat)
 case atStart=>exact⟨0,Yf _,rfl,aG.nil _ _,bR.aIw _⟩
 case round=>
  obtain⟨k,hk,rfl,ho,hB⟩:=hrel;by_cases hlt:k<C.length
  ·obtain ⟨b,o,rfl,hat⟩:=(hrC.keep hB).at oM;have h1:=hat k _ (getD_some C k hlt);have hpl:=pI (bH C) k;have hsz:=hB.size;have HO:=hD ho;have hzb:bH C k=(C.getD k 0==0):=by unfold bH;rw[Qw];simp
   cases hx:(C.getD k 0==0)
   ·have HT:=hD (Em (bH C) k (hzb.trans hx));generalize C.getD k 0=x at *;clear hat hrC ho hzb;go_wp2;go_roundw
    case rel=>exact⟨k+1,oM,by go_num,by rw[HT.o];exact HO.o,hB⟩
    case measure=>simp[intOf];omega
   ·have HT:=hD (GU (bH C) k (hzb.trans hx));generalize C.getD k 0=x at *;generalize picks (bH C) k=R at *;clear hat hrC ho hzb
    go_wp2_with (at_builtin;refine aO _ rfl _ _ 52 rfl w.heap.size 128 i0 (.agg #[oo,oo,oo]) 3 24 underlying52 hi hz0 hz1 hz2 rfl dE _ _ _ rfl (Qu HO.o _) (cw wr.heap.size 0) 1 1 (E.cells (single k)) rfl rfl (sI _ _ sM _ _) (dF _) KD KC Rw ?_;intro v1 w1 hown1 hgrow1 hwhere1)
    have hB4:=hD ((hB.aIw (cq #[oo,ol,k] 128)).aJa hgrow1 λj hj=>(HO.o.lt j hj).1);exact aEh
  ·obtain rfl:k=C.length:=oM
   have hpl:=pI (bH C) C.length;obtain⟨a2,c2,rfl,hr2⟩:=ho.rd oM;have HW:=hD (Le (bH C) C.length hC);have HZ:Hid (iY C=bW (picks (bH C) C.length)):=hD rfl;generalize picks (bH C) C.length=R at *;clear ho hrC;go_wp2_with fail;refine(Ac R _ _ _ hr2 HW.o oM).m ?_;rintro e w2 ⟨v,rfl,ho,hb2⟩;have hsz:=hB.size;go_wp2_with fail;go_ret;exact⟨_,rfl,by rw[HZ.o];exact ho.mono hsz,hB.on hb2⟩
theorem Mk(D:List Int)(s p:Nat)(h:s<=p):(bH D p=true->jJ D s (p+1-s)=jJ D s (p-s)++[single p])/\(bH D p=false->jJ D s (p+1-s)=jJ D s (p-s)):=by
 rw[show p+1-s=(p-s)+1 by omega];have e:s+(p-s)=p:=oM
 constructor
 ·intro hz;have:=PN D s (p-s) (by rw[e];exact hz);rw[e]at this;exact this
 ·intro hz;exact UD D s (p-s) (by rw[e];exact hz)
theorem Lg(N:Nat)(l:List E)(k:Nat)(h:aQ N l=true):aQ N (l.take k)=true:=(aP _ _).2 λx hx=>(aP _ _).1 h x (List.mem_of_mem_take hx)
def aCv(D:List Int)(F:List E)(w:Wd)(e:Ending)(w':Wd):Prop:=
 ∃v f,e= .returned (.tuple #[.agg #[v],f,oo])/\dG w' w v D/\aG w' w f F/\Below w w w'
theorem EU(C:List Int)(l:List E)(a al:OA)(c cl:Nat)(w:Wd)(hrC:RdI w a C)(hr:Rd w al l)(hw:wfL l)(hp:aQ C.length l=true)(hR:inR 0 1000000000 C)(hl:l.length<=10000)(hn:Gb (eU C l (-1))=false):
  ep 219 #[.agg #[.slice a C c],.slice al l cl] w (aCv (eU C l (-1)) (bW (gN (eU C l (-1)) l)) w):=by
 obtain⟨i0,hi,hz0,hz1,hz2⟩:=info_parts kK;have hC:=hrC.1;have HP:=hD hp;have HN:=hD hn;clear hp hn;go_enter func219,ntmps219;go_wp2_with fail;refine(uB C l a al c cl _ hC (hr.keep ?_) hw true HP.o).m ?_
 ·(repeat(first|exact bR|assumption|refine Below.aJd ?_ _|refine Below.aIw ?_ _|refine Below.setCell ?_ sM _|refine Below.drew ?_))
 rintro e w1 ⟨rfl,hb1⟩;have hc0:=hb1.keep (a:=(cw w 0)) (by simp;rfl);have hc1:=hb1.keep (a:=(cw (cf w) 0)) (by simp;rfl);have hf1:=hb1.aJc (a:=(cw (cf w) 0)) (by simp;rfl) (b:=false) sM;have hB1:Below w w w1:=(((bQ w).aIw _).aIw _).on hb1;have hz1:=hb1.size;simp only[World.size_alloc]at hz1;clear hb1;go_wp2_with fail;refine(CZ C l (-1) a al c cl _ (hrC.keep hB1) (hr.keep hB1) HP.o oM (gH hR oM oM) oM).m ?_;rintro e w2 ⟨v,rfl,ho,hb2⟩;have hc2:=hb2.keep hc1;have hf2:=hb2.aJc hc1 hf1;have hRlt:=Qj w2 _ hc2;simp only at hRlt;have hB2:=hB1.on hb2;replace ho:=ho.mono (B':=w.heap.size+1+1) hz1;have HL:=hD (eT C l (-1));obtain⟨a2,c2,rfl,hrD⟩:=ho.rd (by rw[HL.o];exact hC);have HO:=hD ho;have hrl:=hr.keep hB2;have HDC:Hid (∃D,D=eU C l (-1)):=hD ⟨_,rfl⟩;clear ho hrC hr hb2 hB1 hc1 hf1 hc0 hz1;rw[HL.o]at HO ⊢;go_wp2_with fail;have hrD2:=hrD.keep ((bQ w2).aIw (cq #[.slice a2 C c2] 118));have hcon:=JF (eU C l (-1)) a2 c2 _ hrD2 false HN.o;rw[HL.o]at hcon;refine hcon.m ?_;rintro e w3 ⟨rfl,hb3⟩;have hct:=hb3.keep (a:=(cw w2 0)) (by simp;rfl);have hbb:=((bQ w2).aIw (cq #[.slice a2 C c2] 118)).on hb3;have hc3:=hbb.keep hc2;have hf3:=hbb.aJc hc2 hf2;have hB3:=hB2.on hbb;clear hcon hrD2 hc2 hf2 hb3;have HO3:=hD (HO.o.keep hbb);have hrl3:=hrl.keep hbb;have hrD3:=hrD.keep hbb;have HR2:=hD hR;have HFL:=hD (λk=>Gg (eU C l (-1)) C.length (l.take k) (Lg _ l k HP.o));have HFW:=hD (YS (eU C l (-1)) l C.length hC HP.o);have ht3:=Qj w3 _ hct;simp only at ht3;have hw3:=hB3.size;generalize eU C l (-1)=D at *;clear HO hbb hrl hrD hR HN HR2 HDC;go_wp2_with fail;go_loopw [8,26] (λv i wr=>∃k:Nat,k<=l.length/\i= .int .i64 k/\aG wr w3 v (gN D (l.take k))/\Below w3 w3 wr) (λ_ i _=>l.length-(intOf i).toNat)
 case atStart=>exact⟨0,Yf _,rfl,aG.nil _ _,bR⟩
 case round=>
  obtain⟨k,hk,rfl,ho,hB⟩:=hrel;by_cases hlt:k<l.length
  ·obtain ⟨b,o,rfl,hat⟩:=(hrl3.keep hB).at oM;obtain⟨h1,h2,h3⟩:=hat k _ (Qa hlt);obtain⟨p1,p2,p3⟩:=(aP _ _).1 HP.o _ (Qm hlt);have HT:=hD (Ml D l k hlt);have hfl:=HFL.o k;have hfl2:(gN D (l.take k)).length<=655360000:=by
    have h4:=List.length_take_le k l;have:=Nat.mul_le_mul hC (Nat.le_trans h4 (Nat.le_trans (Nat.le_of_lt hlt) hl));omega
   generalize l[k]=x at *;generalize gN D (l.take k)=F at *;obtain⟨xa,xn,xs⟩:=x;simp only at h1 h2 h3 p1 p2 p3 HT;obtain⟨s,rfl⟩:=Qr p2;obtain⟨n,rfl⟩:=Qr (show 0<=xn by omega);simp only[Int.toNat_natCast]at HT;have HOF:=hD ho;clear hat hrl3 ho hfl;go_wp2_with fail;have hx1:(wr.alloc (cq #[xa,n,s] 128)).cell? (cw wr.heap.size 1)=n:=by simp
   have hx2:(wr.alloc (cq #[xa,n,s] 128)).cell? (cw wr.heap.size 2)=s:=by simp
   have HOW:=hD (HOF.o.keep (bR.aIw (cq #[xa,n,s] 128)));have HBW:=hD (hB.aIw (cq #[xa,n,s] 128));have hne:=λe=>Nat.lt_irrefl _ (HOF.o.lt wr.heap.size e).2;have hXge:=hB.size;generalize wr.alloc (cq #[xa,n,s] 128)=W0 at *;generalize wr.heap.size=X at *;have HNE:=hD hne;clear HOF hB hne;go_loopw [8,11] (λv t wi=>∃p:Nat,s<=p/\p<=s+n/\t= .int .i64 p/\aG wi w3 v (F++jJ D s (p-s))/\wi (cw X 1)=n/\wi (cw X 2)=s/\v.ownBlock≠some X/\Below w3 w3 wi) (λ_ t _=>s+n-(intOf t).toNat)
   case atStart=>exact⟨s,Ye _,oM,rfl,by rw[Nat.sub_self,Mj,List.append_nil];exact HOW.o,hx1,hx2,HNE.o,HBW.o⟩
   case round=>
    clear hx1 hx2;obtain⟨p,hp1,hp2,rfl,hoi,hx1,hx2,hne,hBi⟩:=hrel;by_cases hlp:p<s+n
    ·have hpC:p<C.length:=oM
     have hpD:p<D.length:=by rw[HL.o];exact hpC
     have ht4:=hBi.keep hct;obtain⟨b2,o2,he2,hat2⟩:=(hrD3.keep hBi).at oM;have h4:=hat2 p _ (getD_some D p hpD);have hzb:bH D p=(D.getD p 0==0):=by unfold bH;rw[Qw];simp
     have HST:=hD (Mk D s p hp1);have hfx:=yJ D s (p-s);have HOI:=hD hoi;have HNX:=hD hne;have hszi:=hBi.size;have hXl:=Qj _ _ hx1;simp only at hXl;cases hy:(D.getD p 0==0)
     ·have HS2:=hD (HST.o.2 (hzb.trans hy));generalize D.getD p 0=y at *;subst he2;clear hoi hne hat2 hzb HST hrD3;go_wp2;go_roundw
      case rel=>exact⟨p+1,oM,oM,by go_num,by rw[HS2.o];exact HOI.o,hx1,hx2,HNX.o,hBi⟩
      case measure=>simp[intOf];omega
     ·have HS2:=hD (HST.o.1 (hzb.trans hy));generalize D.getD p 0=y at *;subst he2;have hFl:(F++jJ D s (p-s)).length<=655425536:=by rw[Qg];omega
      generalize hR:F++jJ D s (p-s)=R at *;have HR:=hD hR;clear hoi hne hat2 hzb HST hrD3 hR
      go_wp2_with (at_builtin;refine aO _ rfl _ _ 52 rfl w3.heap.size 128 i0 (.agg #[oo,oo,oo]) 3 24 underlying52 hi hz0 hz1 hz2 rfl dE _ _ _ rfl (Qu HOI.o _) (cw wr.heap.size 0) 1 1 (E.cells (single p)) rfl rfl (sI _ _ sM _ _) (dF _) KD KC Rw ?_;intro v1 w1 hown1 hgrow1 hwhere1)
      have hrow:∀j,u8.ownBlock=some j->w3.heap.size<=j:=λj hj=>(HOI.o.lt j hj).1;have hB4:=hD ((hBi.aIw (cq #[oo,ol,p] 128)).aJa hgrow1 hrow);have HO4:=hD (aG.snoc hown1 sM);have hx3:=hgrow1.cell ((bR.aIw (cq #[oo,ol,p] 128)).keep hx1) (λe=>HNX.o e.symm);have hx4:=hgrow1.cell ((bR.aIw (cq #[oo,ol,p] 128)).keep hx2) (λe=>HNX.o e.symm);have HN4:Hid (v1.ownBlock≠some X):=hD (by
       rcases hwhere1 with e|e
       ·rw[e];exact HNX.o
       ·rw[e];simp only[World.size_alloc,ne_eq,Option.some.injEq]
        omega)
      clear hown1 hgrow1 hwhere1 hx1 hx2;go_roundw
      case rel=>exact⟨p+1,oM,oM,by go_num,by rw[HS2.o,<-Yc,HR.o];exact HO4.o,hx3,hx4,HN4.o,hB4.o⟩
      case measure=>simp[intOf];omega
    ·obtain rfl:p=s+n:=oM
     rw[show s+n-s=n by omega]at hoi;have HOI:=hD hoi;clear hoi;go_wp2_with fail;go_roundw
     case rel=>exact⟨k+1,oM,by go_num,by rw[HT.o];exact HOI.o,hBi⟩
     case measure=>simp[intOf];omega
  ·obtain rfl:k=l.length:=oM
   rw [List.take_length]at ho;have hfl:=HFL.o l.length;rw[List.take_length]at hfl;have hfl2:(gN D l).length<=1000000000:=by
    have:=Nat.mul_le_mul hC hl;omega
   obtain ⟨a5,c5,rfl,hr5⟩:=ho.rd oM;have hct5:=hB.keep hct;have hc5:=hB.keep hc3;have hf5:=hB.aJc hc3 hf3;have hB5:=hB3.on hB;have HO5:=hD (HO3.o.keep hB);generalize hFF:gN D l=F at *;have HF:=hD hFF;clear ho HFL hFF;go_wp2_with fail;have hct6:wr.drew.cell? (cw w2 0)=some (.slice a2 C c2):=hct5;have hc6:wr.drew.cell? (cw (cf w) 0)=sn:=hc5;have hf6:wr.drew.frozen? (cw (cf w) 0)=false:=hf5;have hgr7:∀w':Wd,w' (cw w2 0)=some (.slice a2 C c2)->(w'.setCell (cw (cf w) 0) (.slice a2 C c2)).cell? (cw w2 0)=some (.slice a2 C c2):=
    λw' h=>(aJ w' (cw (cf w) 0) _).cell h pO
   have HG7:=hD hgr7;clear hgr7
   go_region_held3 (λw'=>w' (cw w2 0)=some (.slice a2 C c2)/\Below w w w')
    (first
     |exact⟨hct5,hB5.drew⟩
     |exact⟨hb7.keep hH.1,hH.2.on hb7⟩
     |exact⟨HG7.o _ (hb7.keep hH.1),(hH.2.on hb7).setCell sM _⟩)
    ((go_at_call 253;have hH:= ‹_/\Below w w _›;refine(Ac F _ _ _ (hr5.keep bR.drew) HFW.o oM).m ?_;rintro e w7 ⟨v7,rfl,ho7,hb7⟩;have hc7:=hb7.keep hc6;have hf7:=hb7.aJc hc6 hf6))
   have hsz5:=hB5.size;have hsz6:=hB.size;have HO7:=hD (HO5.o.keep (Below.drew bR |>.on hb7));have HB7:=hD (hB5.drew.on hb7);have HF7:=hD ho7;simp only[World.size_drew]at HF7;have hRlt':=hB3.size;clear ho7 hb7;go_wp2_with fail;refine Yg (v:= .tuple #[.agg #[.slice a2 C c2],v7,oo]) ?_ rfl ⟨_,_,rfl,?_,?_,?_⟩
   ·simp[results,results219,go_sem,hc7,hf7]
   ·exact(HO7.o.away _ _ (λh=>by have:=(HO7.o.lt _ h).1;simp at this;omega)).mono oM
   ·skip;exact(HF7.o.away _ _ (λh=>by have:=(HF7.o.lt _ h).1;simp at this;omega)).mono oM
   ·exact HB7.o.setCell sM _
end Go.Proofs.YtphfgbbbejloaaaGreatDoor
