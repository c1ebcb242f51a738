/-
  slices.Clone and slices.SortFunc as extent.Runs calls them.
  extent.Runs.
  package refcount: Zero and Drop.
  Conditions: as each theorem says.
-/
import Derived.Test.YtaiklhbakldfhaaGreatHW
import Derived.Test.YtaiklhbakldfhaaGreatGC
import Derived.Shelf.SlSortCmp.WholeK
import Derived.Shelf.Lay
import Derived.Ground.SlsfProg
import Derived.Shelf.SlSortCmp.NoneTotal
import Derived.Test.YtaiklhbakldfhaaGreatGF
import Derived.Deep.RegionHeld3
namespace Go.Proofs.YtaiklhbakldfhaaGreat
open Go.Lib (hid)
set_option linter.unusedSimpArgs false
set_option linter.unusedVariables false
set_option maxRecDepth 100000
set_option maxHeartbeats 16000000
open Go.RowKit Go.Shelf Go.Sort
instance:Inhabited E:=⟨⟨0,0,0⟩⟩
def aSf (a b:Int):Int:=if a<b then -1 else if b<a then 1 else 0
theorem bFi (a:Int) (w:World):Calls Tryz.prog 218 #[.int .i64 a] w fun e w'=>e= .returned (.bool false)/\w=w':=by
 go_enter Tryz.func218,Tryz.ntmps218;go_wp2;go_ret;exact⟨rfl,rfl⟩
theorem aWj (a b:Int) (w:World):Calls Tryz.prog 179 #[.int .i64 a,.int .i64 b] w fun e w'=>e= .returned (.int .i64 (aSf a b))/\w=w':=by
 go_enter Tryz.func179,Tryz.ntmps179
 go_wp2_with (go_at_call 218;refine(bFi _ _).mono ?_;rintro e w1 ⟨rfl,rfl⟩)
 all_goals
  go_ret;exact⟨pU (by unfold aSf;split <;> (try split) <;> omega),rfl⟩
theorem bIq (x y:E) (W:World):Calls Tryz.prog 178 #[.agg #[.int .i64 x.a,.int .i64 x.n,.int .i64 x.s],.agg #[.int .i64 y.a,.int .i64 y.n,.int .i64 y.s]] W fun e w'=>
  e= .returned (.int .i64 (aSf x.s y.s))/\ ∃q os',w'=Sort.grow (W.drewN q) os':=by
 go_enter Tryz.func178,Tryz.ntmps178;go_wp2_with fail;refine(aWj _ _ _).mono ?_;rintro e w1 ⟨rfl,rfl⟩;go_wp2_with fail;go_ret;exact⟨rfl,0,_,by rw[alloc_eq_grow,alloc_eq_grow,grow_grow];rfl⟩
theorem aCr (l:List E) (a:Option Addr) (c:Nat) (w:World) (hr:Rd w a l) (hl:l.length<=1000000000):
  Calls Tryz.prog 134 #[.slice a l.length c] w fun e w'=>∃ v,e= .returned v/\aG w' w.heap.size v l/\Below w.heap.size w w':=by
 obtain⟨i0,hi,hz0,hz1,hz2⟩:=info_parts kV;have q22:∀ (w:World) (a:Option Addr) (n c n' c':Nat),(binOp .eql 76 (.slice a n c) (.slice none n' c')).run Tryz.prog w= .ok (.bool a.isNone) w:=fun w a n c n' c'=>Lib.run_eql_slice_nil w _ _ a n c n' c' Tryz.underlying76
 cases a with
 | none=>
  have h0:l=[]:=by
   rcases hr.2 with h|⟨b,o,h,_⟩
   ·exact h
   ·cases h
  subst h0;go_enter Tryz.func134,Tryz.ntmps134;go_wp2_with fail;go_ret;exact⟨_,rfl,aG.nil _ _,Below.refl _ _⟩
 | some ad=>
  have h0:=aG.lit w #[] [] rfl (by decide) w.heap.size (Nat.le_refl _);have hs:=((hr.keep ((Below.refl _ _).bMq (.cells #[] 81))).source);have H0:=hid h0;have HS:=hid hs;clear h0 hs;go_enter Tryz.func134,Tryz.ntmps134
  go_wp2_with (at_builtin;refine dB _ rfl _ _ 76 rfl w.heap.size 81 i0 (.agg #[.int .i64 0,.int .i64 0,.int .i64 0]) 3 24 Tryz.underlying76 hi hz0 hz1 hz2 rfl (by decide) _ _ _ rfl H0.o _ _ _ _ rfl HS.o (by first|omega|(simp only[List.length_nil,List.length_append,List.length_cons];omega)) (by first|(simp only[maxLen];omega)|(simp only[maxLen,List.length_nil,List.length_append,List.length_cons];omega)) (by first|omega|(simp only[World.size_alloc];omega)) ?_;intro v1 w1 hown1 hgrow1 hwhere1)
  go_ret;refine⟨_,rfl,?_,((Below.refl _ _).bMq _).bMu hgrow1 fun j hj=>(H0.o.lt j hj).1⟩;exact aG.append (l:=[]) hown1 (by simp)
shelf_lay_g SlLaysF0.n6 Slsf 6 at Tryz 177 as Tryz.sortE
theorem aXl (x y:E):ltOf (fun x y:E=>aSf x.s y.s) x y=decide (x.s<y.s):=by
 unfold ltOf aSf;by_cases h1:x.s<y.s
 ·simp[h1]
 ·by_cases h2:y.s<x.s <;> simp[h1,h2]
theorem bMb:SWO (ltOf fun x y:E=>aSf x.s y.s) where
 irrefl x:=by rw[aXl];simp
 trans x y z h1 h2:=by rw[aXl]at *;simp at *;omega
 ntrans x y z h1 h2:=by rw[aXl]at *;simp at *;omega
theorem aVv (d:Array E):(flatK E.cells 3 d).toList=bH d.toList:=by
 refine List.ext_getElem (by rw[dD];simp) fun i h1 h2=> ?_;have hi:i<d.size*3:=by rw[dD]at h2;simpa using h2
 have hk:i/3<d.toList.length:=by simp;omega
 have hg:=get_flatK E.cells 3 d i hi;rw[getElem!_pos _ i (by simpa using hi)]at hg;rw[Array.getElem_toList,hg];have hd:d[i/3]! =d.toList[i/3]:=by rw[getElem!_pos d (i/3) (by simpa using hk)];simp
 rw[hd];obtain⟨c1,c2,c3⟩:=zK d.toList (i/3) _ (List.getElem?_eq_getElem hk);have h3:(bH d.toList)[i]? =some (bH d.toList)[i]:=List.getElem?_eq_getElem h2;rcases(by omega:i%3=0∨i%3=1∨i%3=2)with e|e|e
 ·rw[show i/3*3=i by omega,h3]at c1;injection c1 with c1;rw[e,c1];rfl
 ·rw[show i/3*3+1=i by omega,h3]at c2;injection c2 with c2;rw[e,c2];rfl
 ·rw[show i/3*3+2=i by omega,h3]at c3;injection c3 with c3;rw[e,c3];rfl
theorem aG.holdsK {w:World} {B g n c:Nat} {l:List E} (h:aG w B (.slice (some ⟨g,0,none⟩) n c) l):HoldsK E.cells 3 w g 0 l.toArray:=by
 intro j hj;simp only[size_flatK,List.size_toArray]at hj;rcases h.form with ⟨hv,_⟩|⟨g',c',hv,_,_,_,_,hgt,hfz⟩
 ·simp at hv
 ·simp only[Value.slice.injEq,Option.some.injEq,Addr.mk.injEq,and_true,true_and]at hv;obtain⟨rfl,_,rfl⟩:=hv;refine⟨?_,hfz _⟩;have hk:j/3<l.length:=by omega
  obtain⟨k1,k2,k3⟩:=hgt (j/3) _ (List.getElem?_eq_getElem hk);have hg:=get_flatK E.cells 3 l.toArray j (by simpa using hj);have hd:l.toArray[j/3]! =l[j/3]:=by rw[getElem!_pos _ (j/3) (by simpa using hk)];simp
  rw[hg,hd];simp only[Nat.zero_add]at k1 k2 k3 ⊢;rcases(by omega:j%3=0∨j%3=1∨j%3=2)with e|e|e
  ·rw[show j/3*3=j by omega]at k1;rw[e,k1];rfl
  ·rw[show j/3*3+1=j by omega]at k2;rw[e,k2];rfl
  ·rw[show j/3*3+2=j by omega]at k3;rw[e,k3];rfl
theorem vE (w:World) (g n:Nat) (d:Array E) (os:Array Obj) (k:Nat) (hk:k<w.heap.size):
  (sortWorldK E.cells 3 w g 0 n d os).heap[k]? =if g=k then (w.heap[k]?).map (onCells (putCells id 0 (flatK E.cells 3 d)))else w.heap[k]? :=by
 unfold sortWorldK putRowK putRow mapBlock Sort.grow Sort.ahead;simp only;rw[Array.getElem?_append_left (by simpa using hk),Array.getElem?_modify]
theorem aG.sorted {w:World} {B g n c:Nat} {l:List E} (h:aG w B (.slice (some ⟨g,0,none⟩) l.length c) l) (m:Nat) (d:Array E) (os:Array Obj) (hd:d.size=l.length):
  aG (sortWorldK E.cells 3 w g 0 m d os) B (.slice (some ⟨g,0,none⟩) l.length c) d.toList/\w.grownBy (sortWorldK E.cells 3 w g 0 m d os) (some g):=by
 obtain⟨hl,⟨h',_⟩|⟨g',cap',cur,h',hb,hg,hnc,hcm,hcs,htake⟩⟩:=h
 ·simp at h'
 ·simp only[Value.slice.injEq,Option.some.injEq,Addr.mk.injEq,and_true,true_and]at h';obtain⟨rfl,rfl⟩:=h';have hlt:g<w.heap.size:=(Array.getElem?_eq_some_iff.1 hg).1;have hsz:(sortWorldK E.cells 3 w g 0 m d os).heap.size=w.heap.size+os.size:=by
   unfold sortWorldK putRowK putRow mapBlock Sort.grow Sort.ahead;simp
  refine⟨⟨by rw[dD],.inr ⟨g,c,putCells id 0 (flatK E.cells 3 d) cur,by simp[hd],hb,?_,by simpa [hd]using hnc,hcm,by simpa [putCells]using hcs,?_⟩⟩,⟨rfl,rfl,rfl,by omega,fun k hk hne=> ?_⟩⟩
  ·rw[vE w g m d os g hlt,if_pos rfl,hg];rfl
  ·rw[<-aVv];have hfs:(flatK E.cells 3 d).toList.length=d.toList.length*3:=by simp
   refine List.ext_getElem (by simp[putCells,hcs,hd];omega) fun i h1 h2=> ?_;have hi:i<d.size*3:=by simpa using h2
   rw[List.getElem_take];simp only[putCells,Array.toList_mapIdx,List.getElem_mapIdx,size_flatK,Nat.zero_le,true_and,Nat.zero_add,if_pos hi,Nat.sub_zero,id_eq];rw[getElem!_pos _ i (by simpa using hi)];simp
  ·rw[vE w g m d os k hk,if_neg (fun e=>hne (by rw[e]))]
theorem bDi (g c:Nat) (l:List E) (B:Nat) (w:World) (hown:aG w B (.slice (some ⟨g,0,none⟩) l.length c) l) (hl:l.length<=1000000000):
  Calls Tryz.prog 177 #[.slice (some ⟨g,0,none⟩) l.length c,.func (.func 178) #[] #[]] w fun e w'=>
   e= .returned (.tuple #[])/\ ∃d:List E,aG w' B (.slice (some ⟨g,0,none⟩) l.length c) d/\w.grownBy w' (some g)/\(∀x,x∈d↔x∈l)/\d.Pairwise (fun x y=>x.s<=y.s)/\d.length=l.length:=by
 have eg:∀ args w,(callFunc 178 args).run Tryz.prog w= .ok (.enter 178 args) w:=enters_of Tryz.func178 (by kernel_rfl) rfl;have hcl:CmpLays Tryz.prog 178 #[] E.cells 3 (fun x y=>aSf x.s y.s) g 0 l.toArray.size w:=fun _ _ _ _ x y=>bIq x y _;have hlt:=(hown.lt g rfl).2;have hcon:=AnyQ.slices_SortFunc Tryz.sortE 3 Tryz.isAgg81 Tryz.sizeOf81 E.cells (fun _=>rfl) (fun x v hv=>by simp[E.cells]at hv;rcases hv with rfl|rfl|rfl <;> rfl) (fun x y=>aSf x.s y.s) bMb 178 #[] g 0 c l.toArray w eg hcl hown.holdsK hlt (by simp;omega);change Calls Tryz.prog 177 _ _ _ at hcon;have hsz:l.toArray.size=l.length:=by simp
 rw[hsz]at hcon;refine hcon.mono ?_;rintro e w' ⟨rfl,d',n,os,hp,hs,rfl⟩;obtain⟨p1,_,p3⟩:=hp;have hd:d'.size=l.length:=by rw[p1];simp
 obtain⟨o1,o2⟩:=hown.sorted (n:=l.length) n d' os hd;refine⟨rfl,d'.toList,o1,o2,fun x=> ?_,?_,by simpa using hd⟩
 ·have:=p3.mem_iff (a:=x);rw[Array.extract_eq_self_of_le (by omega),Array.extract_eq_self_of_le (by simp)]at this
  simpa using this
 ·rw[List.pairwise_iff_getElem];intro i j hi hj hij;have h1:=hs i j (Nat.zero_le _) hij (by simp at hj;omega);rw[aXl,getElem!_pos d' j (by simpa using hj),getElem!_pos d' i (by simpa using hi)]at h1;have:=of_decide_eq_false h1;simp only[Array.getElem_toList];omega
open Go.RowKit
theorem bDh (v:Value) (l:List E) (B:Nat) (w:World) (hown:aG w B v l) (hl:l.length<=1000000000):
  Calls Tryz.prog 177 #[v,.func (.func 178) #[] #[]] w fun e w'=>
   e= .returned (.tuple #[])/\ ∃d:List E,aG w' B v d/\w.grownBy w' v.ownBlock/\(∀x,x∈d↔x∈l)/\d.Pairwise (fun x y=>x.s<=y.s)/\d.length=l.length:=by
 rcases hown.form with ⟨rfl,rfl⟩|⟨g,c,rfl,_⟩
 ·have hcon:=AnyF.slices_SortFunc_none {Tryz.sortE with} none 0 (.func (.func 178) #[] #[]) w;change Calls Tryz.prog 177 _ _ _ at hcon;refine hcon.mono ?_;rintro e w' ⟨rfl,rfl⟩;exact⟨rfl,[],hown,⟨rfl,rfl,rfl,Nat.le_refl _,fun _ _ _=>rfl⟩,fun x=>Iff.rfl,by simp,rfl⟩
 ·exact bDi g c l B w hown hl
theorem zX (l:List E) (a:Option Addr) (c:Nat) (w:World) (hr:Rd w a l) (hw:wfL l) (hl:l.length<=1000000000):
  Calls Tryz.prog 129 #[.slice a l.length c] w fun e w'=>∃ v,e= .returned v/\aG w' w.heap.size v (bT l)/\Below w.heap.size w w':=by
 obtain⟨i0,hi,hz0,hz1,hz2⟩:=info_parts kV;go_enter Tryz.func129,Tryz.ntmps129;go_wp2_with fail;refine(aCr l _ _ _ hr hl).mono ?_;rintro e w1 ⟨v1,rfl,ho1,hb1⟩;clear hr;go_wp2_with fail;refine(aWd v1 l w.heap.size _ ho1 hl hw hb1.size).mono ?_;rintro e w2 ⟨v2,rfl,ho2,hg2,hv2⟩;have hB2:=hb1.bMu hg2 fun j hj=>(ho1.lt j hj).1;have hfl:=List.length_filter_le okB l;clear ho1 hb1 hg2 hv2;go_wp2_with fail;refine(bDh v2 (l.filter okB) w.heap.size _ ho2 (by omega)).mono ?_;rintro e w3 ⟨rfl,d,ho3,hg3,hmem,hsort,hdl⟩;have hB3:=hB2.bMu hg3 fun j hj=>(ho2.lt j hj).1;have HD:=hid (aOv l d hmem hsort);have HOK:Hid (∀x∈d,okB x=true):=hid fun x hx=>(List.mem_filter.1 ((hmem x).1 hx)).2;have HS:=hid hsort;have hdl2:d.length<=1000000000:=by omega
 obtain⟨a3,c3,rfl,hr3⟩:=ho3.rd (by omega);clear ho2 hg3 hmem hsort hdl hB2 ho3 hw hfl;go_wp2_with fail;go_loopw [4,15] (fun v i wr=>∃ k:Nat,k<=d.length/\i= .int .i64 k/\aG wr w3.heap.size v (kS (d.take k))/\Below w3.heap.size w3 wr) (fun _ i _=>d.length-(intOf i).toNat)
 case atStart=>exact⟨0,Nat.zero_le _,rfl,aG.nil _ _,Below.refl _ _⟩
 case round=>
  obtain⟨k,hk,rfl,ho,hB⟩:=hrel;by_cases hlt:k<d.length
  ·obtain ⟨b,o,rfl,hat⟩:=(hr3.keep hB).at (by omega);obtain⟨h1,h2,h3⟩:=hat k _ (List.getElem?_eq_getElem hlt);obtain⟨c1,c2,c3,c4,c5⟩:=(aD _).1 (HOK.o _ (List.getElem_mem hlt));have HT:=hid (aQi d k hlt);obtain⟨f1,f2,f3⟩:=tY (d.take k) (fun x hx=>HOK.o x (List.mem_of_mem_take hx)) (HS.o.sublist (List.take_sublist k d));have hjl:=bE f1;generalize d[k]=x at *;generalize kS (d.take k)=R at *;have HF1:=hid f1;clear f1 f2 f3 hat;by_cases hR:R=[]
   ·subst hR;have HR:=hid ho;obtain⟨a4,c4,rfl⟩:∃ a c,u4= .slice a 0 c:=by
     rcases ho.form with ⟨rfl,_⟩|⟨g,c,rfl,_⟩
     ·exact⟨_,_,rfl⟩
     ·exact⟨_,_,rfl⟩
    clear ho hr3;go_wp2_with fail;refine aC (by kernel_rfl) (by kernel_rfl) ?_
    repeat(go_big_quiet_step (fail))
    refine wpQuiet_nil ?_;intro _ hw';obtain⟨nq,hw''⟩:=hw';subst hw'';generalize hW:World.next _ nq=W;have hb:Below wr.heap.size wr W:=by rw[<-hW];exact((Below.refl _ _).bMq _).bMt _
    have x2:W.cell? ⟨wr.heap.size,1,none⟩=some (.int .i64 x.n):=by rw[<-hW];simp
    have x3:W.cell? ⟨wr.heap.size,2,none⟩=some (.int .i64 x.s):=by rw[<-hW];simp
    have HR2:=hid (HR.o.keep hb);have hB2:=hB.on hb;have hsz2:=hB2.size;clear hW hb h1 h2 h3 HR
    go_wp2_with (at_builtin;refine aM _ rfl _ _ 76 rfl w3.heap.size 81 i0 (.agg #[.int .i64 0,.int .i64 0,.int .i64 0]) 3 24 Tryz.underlying76 hi hz0 hz1 hz2 rfl (by decide) _ _ _ rfl (World.ownsRow.alloc HR2.o _) ⟨W.heap.size,0,none⟩ 1 1 (E.cells (⟨0,x.n,x.s⟩:E)) rfl rfl (rF _ _ (by simp) _ _) (bX _) (by first|omega|(simp only[List.length_nil,List.length_append,List.length_cons];omega)) (by first|(simp only[maxLen];omega)|(simp only[maxLen,List.length_nil,List.length_append,List.length_cons];omega)) (by simp only[World.size_alloc];omega) ?_;intro v1 w1 hown1 hgrow1 hwhere1)
    have hB4:=hid ((hB2.bMq (.cells #[.int .i64 0,.int .i64 x.n,.int .i64 x.s] 81)).bMu hgrow1 fun j hj=>(HR2.o.lt j hj).1);have HO4:=hid (aG.snoc hown1 (by simp));clear hown1 hgrow1 hwhere1;go_roundw
    case rel=>exact⟨k+1,by omega,by go_num,by rw[HT.o];exact HO4.o,hB4.o⟩
    case measure=>simp[intOf];omega
   ·obtain ⟨C,y,rfl⟩:=fC R hR;obtain⟨g,c4,rfl,hg1,hg2,hc1,hc2,hgt,hfz⟩:=(ho.form).resolve_left (by simp);obtain⟨y1,y2,y3⟩:=hgt C.length y (by simp);simp only[List.length_append,List.length_cons,List.length_nil,Nat.zero_add]at y1 y2 y3 hc1 hjl;have hf:=hfz (C.length*3+1);obtain⟨e1,e2,e3,e4,e5⟩:=(aD y).1 (HF1.o.1 y (by simp)).2;have hlen:(C++[y]).length=C.length+1:=by simp
    have HR:=hid ho;rw[hlen]at HR ⊢;have hd:decide (0<=C.length)=true:=by simp
    clear hgt hfz hlen ho hR hr3;by_cases hm:x.s<=y.s+y.n
    ·have hsb:decide (x.s<=y.s+y.n)=true:=decide_eq_true hm;have HG:=hid (aJx C y x hm);clear hm;go_wp2_with fail;refine aC (by kernel_rfl) (by kernel_rfl) ?_
     repeat(go_big_quiet_step (fail))
     refine wpQuiet_nil ?_;intro _ hw';obtain⟨nq,hw''⟩:=hw';subst hw'';generalize hW:World.next _ nq=W;have hb:Below wr.heap.size wr W:=by rw[<-hW];exact((Below.refl _ _).bMq _).bMt _
     have x2:W.cell? ⟨wr.heap.size,1,none⟩=some (.int .i64 x.n):=by rw[<-hW];simp
     have x3:W.cell? ⟨wr.heap.size,2,none⟩=some (.int .i64 x.s):=by rw[<-hW];simp
     have hfr:=hb.bMw y2 hf;have z2:=hb.keep y2;have z3:=hb.keep y3;have HR2:=hid (HR.o.keep hb);have hB2:=hB.on hb;clear hW hb h1 h2 h3 y1 y2 y3 hf HR;go_wp2_with fail;refine iM 21 (by kernel_rfl) (by kernel_rfl) ?_;simp only[List.take_succ_cons,List.take_zero,List.drop_succ_cons,List.drop_zero]
     repeat(go_big_quiet_step (fail))
     refine wpQuiet_nil ?_;intro _ hw';obtain⟨nq,hw''⟩:=hw';subst hw'';have hB3':=hB2.bMt nq;have HR3:=hid (HR2.o.keep (World.bMr W nq));go_wp2_with fail;have hst:=HR3.o.setn rfl (max y.n (x.s+x.n-y.s));have HS1:=hid hst.1;have HS2:=hid hst.2;clear hst;go_roundw
     case rel=>exact⟨k+1,by omega,by go_num,by rw[HT.o,HG.o];exact HS1.o,hB3'.bMu HS2.o fun j hj=>by simp at hj;omega⟩
     case measure=>simp[intOf];omega
    ·have hsb:decide (x.s<=y.s+y.n)=false:=decide_eq_false hm;have HG:=hid (aPl C y x hm);clear hm;go_wp2_with fail;refine aC (by kernel_rfl) (by kernel_rfl) ?_
     repeat(go_big_quiet_step (fail))
     refine wpQuiet_nil ?_;intro _ hw';obtain⟨nq,hw''⟩:=hw';subst hw'';generalize hW:World.next _ nq=W;have hb:Below wr.heap.size wr W:=by rw[<-hW];exact((Below.refl _ _).bMq _).bMt _
     have x2:W.cell? ⟨wr.heap.size,1,none⟩=some (.int .i64 x.n):=by rw[<-hW];simp
     have x3:W.cell? ⟨wr.heap.size,2,none⟩=some (.int .i64 x.s):=by rw[<-hW];simp
     have HR2:=hid (HR.o.keep hb);have hB2:=hB.on hb;have hsz2:=hB2.size;clear hW hb h1 h2 h3 y1 y2 y3 hf HR
     go_wp2_with (at_builtin;refine aM _ rfl _ _ 76 rfl w3.heap.size 81 i0 (.agg #[.int .i64 0,.int .i64 0,.int .i64 0]) 3 24 Tryz.underlying76 hi hz0 hz1 hz2 rfl (by decide) _ _ _ rfl (World.ownsRow.alloc HR2.o _) ⟨W.heap.size,0,none⟩ 1 1 (E.cells (⟨0,x.n,x.s⟩:E)) rfl rfl (rF _ _ (by simp) _ _) (bX _) (by first|omega|(simp only[List.length_nil,List.length_append,List.length_cons];omega)) (by first|(simp only[maxLen];omega)|(simp only[maxLen,List.length_nil,List.length_append,List.length_cons];omega)) (by simp only[World.size_alloc];omega) ?_;intro v1 w1 hown1 hgrow1 hwhere1)
     have hB4:=hid ((hB2.bMq (.cells #[.int .i64 0,.int .i64 x.n,.int .i64 x.s] 81)).bMu hgrow1 fun j hj=>(HR2.o.lt j hj).1);have HO4:=hid (aG.snoc hown1 (by simp));clear hown1 hgrow1 hwhere1;go_roundw
     case rel=>exact⟨k+1,by omega,by go_num,by rw[HT.o,HG.o];exact HO4.o,hB4.o⟩
     case measure=>simp[intOf];omega
  ·go_wp2_with fail;go_ret;rw[List.take_of_length_le (by omega),HD.o]at ho;exact⟨_,rfl,ho.mono hB3.size,hB3.on hB⟩
open Go.RowKit
theorem bCw (C:List Int) (a:Option Addr) (c:Nat) (w:World) (hrC:RdI w a C):
  Calls Tryz.prog 74 #[.agg #[.slice a C.length c]] w fun e w'=>∃ v,e= .returned v/\aG w' w.heap.size v (jQ C)/\Below w.heap.size w w':=by
 have hC:=hrC.1;obtain⟨i0,hi,hz0,hz1,hz2⟩:=info_parts kV;go_enter Tryz.func74,Tryz.ntmps74;go_wp2_with fail;go_loopw [3,9] (fun v i wr=>∃ k:Nat,k<=C.length/\i= .int .i64 k/\aG wr w.heap.size v (picks (bS C) k)/\Below w.heap.size w wr) (fun _ i _=>C.length-(intOf i).toNat)
 case atStart=>exact⟨0,Nat.zero_le _,rfl,aG.nil _ _,(Below.refl _ _).bMq _⟩
 case round=>
  obtain⟨k,hk,rfl,ho,hB⟩:=hrel;by_cases hlt:k<C.length
  ·obtain ⟨b,o,rfl,hat⟩:=(hrC.keep hB).at (by omega);have h1:=hat k _ (getD_some C k hlt);have hpl:=pV (bS C) k;have hsz:=hB.size;have HO:=hid ho;have hzb:bS C k=(C.getD k 0==0):=by unfold bS;rw[Bool.eq_iff_iff];simp
   cases hx:(C.getD k 0==0)
   ·have HT:=hid (aGb (bS C) k (hzb.trans hx));generalize C.getD k 0=x at *;clear hat hrC ho hzb;go_wp2;go_roundw
    case rel=>exact⟨k+1,by omega,by go_num,by rw[HT.o];exact HO.o,hB⟩
    case measure=>simp[intOf];omega
   ·have HT:=hid (aJy (bS C) k (hzb.trans hx));generalize C.getD k 0=x at *;generalize picks (bS C) k=R at *;clear hat hrC ho hzb
    go_wp2_with (at_builtin;refine aM _ rfl _ _ 76 rfl w.heap.size 81 i0 (.agg #[.int .i64 0,.int .i64 0,.int .i64 0]) 3 24 Tryz.underlying76 hi hz0 hz1 hz2 rfl (by decide) _ _ _ rfl (World.ownsRow.alloc HO.o _) ⟨wr.heap.size,0,none⟩ 1 1 (E.cells (single k)) rfl rfl (rF _ _ (by simp) _ _) (bX _) (by first|omega|(simp only[List.length_nil,List.length_append,List.length_cons];omega)) (by first|(simp only[maxLen];omega)|(simp only[maxLen,List.length_nil,List.length_append,List.length_cons];omega)) (by simp only[World.size_alloc];omega) ?_;intro v1 w1 hown1 hgrow1 hwhere1)
    have hB4:=hid ((hB.bMq (.cells #[.int .i64 0,.int .i64 1,.int .i64 k] 81)).bMu hgrow1 fun j hj=>(HO.o.lt j hj).1);have HO4:=hid (aG.snoc hown1 (by simp));clear hown1 hgrow1 hwhere1;go_roundw
    case rel=>exact⟨k+1,by omega,by go_num,by rw[HT.o];exact HO4.o,hB4.o⟩
    case measure=>simp[intOf];omega
  ·obtain rfl:k=C.length:=by omega
   have hpl:=pV (bS C) C.length;obtain⟨a2,c2,rfl,hr2⟩:=ho.rd (by omega);have HW:=hid (aPq (bS C) C.length hC);have HZ:Hid (jQ C=bT (picks (bS C) C.length)):=hid rfl;generalize picks (bS C) C.length=R at *;clear ho hrC;go_wp2_with fail;refine(zX R _ _ _ hr2 HW.o (by omega)).mono ?_;rintro e w2 ⟨v,rfl,ho,hb2⟩;have hsz:=hB.size;go_wp2_with fail;go_ret;exact⟨_,rfl,by rw[HZ.o];exact ho.mono hsz,hB.on hb2⟩
theorem aRh (D:List Int) (s p:Nat) (h:s<=p):(bS D p=true->jX D s (p+1-s)=jX D s (p-s)++[single p])/\(bS D p=false->jX D s (p+1-s)=jX D s (p-s)):=by
 rw[show p+1-s=(p-s)+1 by omega];have e:s+(p-s)=p:=by omega
 constructor
 ·intro hz;have:=aVu D s (p-s) (by rw[e];exact hz);rw[e]at this;exact this
 ·intro hz;exact bBk D s (p-s) (by rw[e];exact hz)
theorem aPr (N:Nat) (l:List E) (k:Nat) (h:aS N l=true):aS N (l.take k)=true:=(aO _ _).2 fun x hx=>(aO _ _).1 h x (List.mem_of_mem_take hx)
def bKd (D:List Int) (F:List E) (w:World) (e:Ending) (w':World):Prop:=
 ∃v f,e= .returned (.tuple #[.agg #[v],f,.int .i64 0])/\dE w' w.heap.size v D/\aG w' w.heap.size f F/\Below w.heap.size w w'
theorem aHo (C:List Int) (l:List E) (a al:Option Addr) (c cl:Nat) (w:World) (hrC:RdI w a C) (hr:Rd w al l) (hw:wfL l) (hp:aS C.length l=true) (hR:inR 0 1000000000 C) (hl:l.length<=10000) (hn:aEc (eZ C l (-1))=false):
  Calls Tryz.prog 125 #[.agg #[.slice a C.length c],.slice al l.length cl] w (bKd (eZ C l (-1)) (bT (gZ (eZ C l (-1)) l)) w):=by
 obtain⟨i0,hi,hz0,hz1,hz2⟩:=info_parts kV;have hC:=hrC.1;have HP:=hid hp;have HN:=hid hn;clear hp hn;go_enter Tryz.func125,Tryz.ntmps125;go_wp2_with fail;refine(tT C l a al c cl _ hC (hr.keep ?_) hw true HP.o).mono ?_
 ·(repeat(first|exact Below.refl _ _|assumption|refine Below.bMt ?_ _|refine Below.bMq ?_ _|refine Below.setCell ?_ (by simp) _|refine Below.drew ?_))
 rintro e w1 ⟨rfl,hb1⟩;have hc0:=hb1.keep (a:=⟨w.heap.size,0,none⟩) (by simp;rfl);have hc1:=hb1.keep (a:=⟨w.heap.size+1,0,none⟩) (by simp;rfl);have hf1:=hb1.bMw (a:=⟨w.heap.size+1,0,none⟩) (by simp;rfl) (b:=false) (by simp);have hB1:Below w.heap.size w w1:=(((Below.refl w.heap.size w).bMq _).bMq _).on hb1;have hz1:=hb1.size;simp only[World.size_alloc]at hz1;clear hb1;go_wp2_with fail;refine(aDv C l (-1) a al c cl _ (hrC.keep hB1) (hr.keep hB1) HP.o (by omega) (gN hR (by omega) (by omega)) (by omega)).mono ?_;rintro e w2 ⟨v,rfl,ho,hb2⟩;have hc2:=hb2.keep hc1;have hf2:=hb2.bMw hc1 hf1;have hRlt:=World.block_lt_of_cell? w2 _ hc2;simp only at hRlt;have hB2:=hB1.on hb2;replace ho:=ho.mono (B':=w.heap.size+1+1) hz1;have HL:=hid (eY C l (-1));obtain⟨a2,c2,rfl,hrD⟩:=ho.rd (by rw[HL.o];exact hC);have HO:=hid ho;have hrl:=hr.keep hB2;have HDC:Hid (∃D,D=eZ C l (-1)):=hid ⟨_,rfl⟩;clear ho hrC hr hb2 hB1 hc1 hf1 hc0 hz1;rw[HL.o]at HO ⊢;go_wp2_with fail;have hrD2:=hrD.keep ((Below.refl w2.heap.size w2).bMq (.cells #[.slice a2 C.length c2] 43));have hcon:=aNn (eZ C l (-1)) a2 c2 _ hrD2 false HN.o;rw[HL.o]at hcon;refine hcon.mono ?_;rintro e w3 ⟨rfl,hb3⟩;have hct:=hb3.keep (a:=⟨w2.heap.size,0,none⟩) (by simp;rfl);have hbb:=((Below.refl w2.heap.size w2).bMq (.cells #[.slice a2 C.length c2] 43)).on hb3;have hc3:=hbb.keep hc2;have hf3:=hbb.bMw hc2 hf2;have hB3:=hB2.on hbb;clear hcon hrD2 hc2 hf2 hb3;have HO3:=hid (HO.o.keep hbb);have hrl3:=hrl.keep hbb;have hrD3:=hrD.keep hbb;have HR2:=hid hR;have HFL:=hid (fun k=>aJb (eZ C l (-1)) C.length (l.take k) (aPr _ l k HP.o));have HFW:=hid (bGa (eZ C l (-1)) l C.length hC HP.o);have ht3:=World.block_lt_of_cell? w3 _ hct;simp only at ht3;have hw3:=hB3.size;generalize eZ C l (-1)=D at *;clear HO hbb hrl hrD hR HN HR2 HDC;go_wp2_with fail;go_loopw [8,26] (fun v i wr=>∃ k:Nat,k<=l.length/\i= .int .i64 k/\aG wr w3.heap.size v (gZ D (l.take k))/\Below w3.heap.size w3 wr) (fun _ i _=>l.length-(intOf i).toNat)
 case atStart=>exact⟨0,Nat.zero_le _,rfl,aG.nil _ _,Below.refl _ _⟩
 case round=>
  obtain⟨k,hk,rfl,ho,hB⟩:=hrel;by_cases hlt:k<l.length
  ·obtain ⟨b,o,rfl,hat⟩:=(hrl3.keep hB).at (by omega);obtain⟨h1,h2,h3⟩:=hat k _ (List.getElem?_eq_getElem hlt);obtain⟨p1,p2,p3⟩:=(aO _ _).1 HP.o _ (List.getElem_mem hlt);have HT:=hid (aRi D l k hlt);have hfl:=HFL.o k;have hfl2:(gZ D (l.take k)).length<=655360000:=by
    have h4:=List.length_take_le k l;have:=Nat.mul_le_mul hC (Nat.le_trans h4 (Nat.le_trans (Nat.le_of_lt hlt) hl));omega
   generalize l[k]=x at *;generalize gZ D (l.take k)=F at *;obtain⟨xa,xn,xs⟩:=x;simp only at h1 h2 h3 p1 p2 p3 HT;obtain⟨s,rfl⟩:=Int.eq_ofNat_of_zero_le p2;obtain⟨n,rfl⟩:=Int.eq_ofNat_of_zero_le (show 0<=xn by omega);simp only[Int.toNat_natCast]at HT;have HOF:=hid ho;clear hat hrl3 ho hfl;go_wp2_with fail;have hx1:(wr.alloc (.cells #[.int .i64 xa,.int .i64 n,.int .i64 s] 81)).cell? ⟨wr.heap.size,1,none⟩=some (.int .i64 n):=by simp
   have hx2:(wr.alloc (.cells #[.int .i64 xa,.int .i64 n,.int .i64 s] 81)).cell? ⟨wr.heap.size,2,none⟩=some (.int .i64 s):=by simp
   have HOW:=hid (HOF.o.keep ((Below.refl _ _).bMq (.cells #[.int .i64 xa,.int .i64 n,.int .i64 s] 81)));have HBW:=hid (hB.bMq (.cells #[.int .i64 xa,.int .i64 n,.int .i64 s] 81));have hne:=fun e=>Nat.lt_irrefl _ (HOF.o.lt wr.heap.size e).2;have hXge:=hB.size;generalize wr.alloc (.cells #[.int .i64 xa,.int .i64 n,.int .i64 s] 81)=W0 at *;generalize wr.heap.size=X at *;have HNE:=hid hne;clear HOF hB hne;go_loopw [8,11] (fun v t wi=>∃ p:Nat,s<=p/\p<=s+n/\t= .int .i64 p/\aG wi w3.heap.size v (F++jX D s (p-s))/\wi.cell? ⟨X,1,none⟩=some (.int .i64 n)/\wi.cell? ⟨X,2,none⟩=some (.int .i64 s)/\v.ownBlock≠some X/\Below w3.heap.size w3 wi) (fun _ t _=>s+n-(intOf t).toNat)
   case atStart=>exact⟨s,Nat.le_refl _,by omega,rfl,by rw[Nat.sub_self,aRg,List.append_nil];exact HOW.o,hx1,hx2,HNE.o,HBW.o⟩
   case round=>
    clear hx1 hx2;obtain⟨p,hp1,hp2,rfl,hoi,hx1,hx2,hne,hBi⟩:=hrel;by_cases hlp:p<s+n
    ·have hpC:p<C.length:=by omega
     have hpD:p<D.length:=by rw[HL.o];exact hpC
     have ht4:=hBi.keep hct;obtain⟨b2,o2,he2,hat2⟩:=(hrD3.keep hBi).at (by omega);have h4:=hat2 p _ (getD_some D p hpD);have hzb:bS D p=(D.getD p 0==0):=by unfold bS;rw[Bool.eq_iff_iff];simp
     have HST:=hid (aRh D s p hp1);have hfx:=yJ D s (p-s);have HOI:=hid hoi;have HNX:=hid hne;have hszi:=hBi.size;have hXl:=World.block_lt_of_cell? _ _ hx1;simp only at hXl;cases hy:(D.getD p 0==0)
     ·have HS2:=hid (HST.o.2 (hzb.trans hy));generalize D.getD p 0=y at *;subst he2;clear hoi hne hat2 hzb HST hrD3;go_wp2;go_roundw
      case rel=>exact⟨p+1,by omega,by omega,by go_num,by rw[HS2.o];exact HOI.o,hx1,hx2,HNX.o,hBi⟩
      case measure=>simp[intOf];omega
     ·have HS2:=hid (HST.o.1 (hzb.trans hy));generalize D.getD p 0=y at *;subst he2;have hFl:(F++jX D s (p-s)).length<=655425536:=by rw[List.length_append];omega
      generalize hR:F++jX D s (p-s)=R at *;have HR:=hid hR;clear hoi hne hat2 hzb HST hrD3 hR
      go_wp2_with (at_builtin;refine aM _ rfl _ _ 76 rfl w3.heap.size 81 i0 (.agg #[.int .i64 0,.int .i64 0,.int .i64 0]) 3 24 Tryz.underlying76 hi hz0 hz1 hz2 rfl (by decide) _ _ _ rfl (World.ownsRow.alloc HOI.o _) ⟨wr.heap.size,0,none⟩ 1 1 (E.cells (single p)) rfl rfl (rF _ _ (by simp) _ _) (bX _) (by first|omega|(simp only[List.length_nil,List.length_append,List.length_cons];omega)) (by first|(simp only[maxLen];omega)|(simp only[maxLen,List.length_nil,List.length_append,List.length_cons];omega)) (by simp only[World.size_alloc];omega) ?_;intro v1 w1 hown1 hgrow1 hwhere1)
      have hrow:∀ j,u8.ownBlock=some j->w3.heap.size<=j:=fun j hj=>(HOI.o.lt j hj).1;have hB4:=hid ((hBi.bMq (.cells #[.int .i64 0,.int .i64 1,.int .i64 p] 81)).bMu hgrow1 hrow);have HO4:=hid (aG.snoc hown1 (by simp));have hx3:=hgrow1.cell (((Below.refl _ _).bMq (.cells #[.int .i64 0,.int .i64 1,.int .i64 p] 81)).keep hx1) (fun e=>HNX.o e.symm);have hx4:=hgrow1.cell (((Below.refl _ _).bMq (.cells #[.int .i64 0,.int .i64 1,.int .i64 p] 81)).keep hx2) (fun e=>HNX.o e.symm);have HN4:Hid (v1.ownBlock≠some X):=hid (by
       rcases hwhere1 with e|e
       ·rw[e];exact HNX.o
       ·rw[e];simp only[World.size_alloc,ne_eq,Option.some.injEq]
        omega)
      clear hown1 hgrow1 hwhere1 hx1 hx2;go_roundw
      case rel=>exact⟨p+1,by omega,by omega,by go_num,by rw[HS2.o,<-List.append_assoc,HR.o];exact HO4.o,hx3,hx4,HN4.o,hB4.o⟩
      case measure=>simp[intOf];omega
    ·obtain rfl:p=s+n:=by omega
     rw[show s+n-s=n by omega]at hoi;have HOI:=hid hoi;clear hoi;go_wp2_with fail;go_roundw
     case rel=>exact⟨k+1,by omega,by go_num,by rw[HT.o];exact HOI.o,hBi⟩
     case measure=>simp[intOf];omega
  ·obtain rfl:k=l.length:=by omega
   rw [List.take_length]at ho;have hfl:=HFL.o l.length;rw[List.take_length]at hfl;have hfl2:(gZ D l).length<=1000000000:=by
    have:=Nat.mul_le_mul hC hl;omega
   obtain ⟨a5,c5,rfl,hr5⟩:=ho.rd (by omega);have hct5:=hB.keep hct;have hc5:=hB.keep hc3;have hf5:=hB.bMw hc3 hf3;have hB5:=hB3.on hB;have HO5:=hid (HO3.o.keep hB);generalize hFF:gZ D l=F at *;have HF:=hid hFF;clear ho HFL hFF;go_wp2_with fail;have hct6:wr.drew.cell? ⟨w2.heap.size,0,none⟩=some (.slice a2 C.length c2):=hct5;have hc6:wr.drew.cell? ⟨w.heap.size+1,0,none⟩=some (.slice none 0 0):=hc5;have hf6:wr.drew.frozen? ⟨w.heap.size+1,0,none⟩=false:=hf5;have hgr7:∀ w':World,w'.cell? ⟨w2.heap.size,0,none⟩=some (.slice a2 C.length c2)->(w'.setCell ⟨w.heap.size+1,0,none⟩ (.slice a2 C.length c2)).cell? ⟨w2.heap.size,0,none⟩=some (.slice a2 C.length c2):=
    fun w' h=>(bV w' ⟨w.heap.size+1,0,none⟩ _).cell h (by simp;omega)
   have HG7:=hid hgr7;clear hgr7
   go_region_held3 (fun w'=>w'.cell? ⟨w2.heap.size,0,none⟩=some (.slice a2 C.length c2)/\Below w.heap.size w w')
    (first
     |exact⟨hct5,hB5.drew⟩
     |exact⟨hb7.keep hH.1,hH.2.on hb7⟩
     |exact⟨HG7.o _ (hb7.keep hH.1),(hH.2.on hb7).setCell (by simp) _⟩)
    ((go_at_call 129;have hH:= ‹_/\Below w.heap.size w _›;refine(zX F _ _ _ (hr5.keep (Below.refl _ _).drew) HFW.o (by omega)).mono ?_;rintro e w7 ⟨v7,rfl,ho7,hb7⟩;have hc7:=hb7.keep hc6;have hf7:=hb7.bMw hc6 hf6))
   have hsz5:=hB5.size;have hsz6:=hB.size;have HO7:=hid (HO5.o.keep (Below.drew (Below.refl _ _) |>.on hb7));have HB7:=hid (hB5.drew.on hb7);have HF7:=hid ho7;simp only[World.size_drew]at HF7;have hRlt':=hB3.size;clear ho7 hb7;go_wp2_with fail;refine bodyPost_ret (v:= .tuple #[.agg #[.slice a2 C.length c2],v7,.int .i64 0]) ?_ rfl ⟨_,_,rfl,?_,?_,?_⟩
   ·simp[results,Tryz.results125,go_sem,hc7,hf7]
   ·exact(HO7.o.away _ _ (fun h=>by have:=(HO7.o.lt _ h).1;simp at this;omega)).mono (by omega)
   ·skip;exact(HF7.o.away _ _ (fun h=>by have:=(HF7.o.lt _ h).1;simp at this;omega)).mono (by omega)
   ·exact HB7.o.setCell (by simp) _
end Go.Proofs.YtaiklhbakldfhaaGreat
