/-
  Extents as the model has them; the contracts of the small functions of package extent and of its specification.
  Lists of extents that a call owns; extent.push.
  Arguments opened: lists of extents, extents by value.
  extent.Join, extent.Blocks, extent.Find, extent.part, extent.Cut.
  The specification's One, Valid, Range, part, parts, Join, Cut, Same, Blocks, Find.
  Conditions: as each theorem says.
-/
import Derived.Test.YtaiklhbakldfhaaGreatRows
import Derived.Test.YtaiklhbakldfhaaGreatGA
import Derived.Lib.Hide
import Derived.ProofKit
import Derived.OpenShut
import Derived.ShutString
import Derived.ChangeOld
import Derived.Below
import Derived.Deep.Slices
import Derived.Deep.Fields
import Derived.ChangeSame
import Derived.Lib.SmallJoins
namespace Go.Proofs.YtaiklhbakldfhaaGreat
open Go.Lib (hid)
set_option linter.unusedSimpArgs false
set_option linter.unusedVariables false
set_option maxRecDepth 100000
set_option maxHeartbeats 16000000
open Go.RowKit
theorem bW {a b:Bool} (h:a=true↔b=true):Ending.returned (.bool a)= .returned (.bool b):=by rw[Bool.eq_iff_iff.2 h]
theorem pU {k:IntKind} {a b:Int} (h:a=b):Ending.returned (.int k a)= .returned (.int k b):=by rw[h]
theorem aTa (a n s:Int) (w:World) (ha: -9223372036854775808<=a) (ha':a<=9223372036854775807) (hs0:0<=s) (hs:s<=100000):
  Calls Tryz.prog 186 #[.int .i64 a,.int .i64 n,.int .i64 s] w fun e w'=>e= .returned (.bool (dW a n s))/\w=w':=by
 go_enter Tryz.func186,Tryz.ntmps186;go_wp2
 all_goals
  go_ret;exact⟨bW (by simp only[dW,decide_eq_true_eq,Bool.false_eq_true,false_iff];omega),rfl⟩
theorem aUo (a n s:Int) (w:World) (ha: -9223372036854775808<=a) (ha':a<=9223372036854775807) (hs0: -9223372036854775808<=s) (hs:s<=9223372036854775807):
  Calls Tryz.prog 139 #[.agg #[.int .i64 a,.int .i64 n,.int .i64 s]] w fun e w'=>e= .returned (.bool (kK a n s))/\Below w.heap.size w w':=by
 go_enter Tryz.func139,Tryz.ntmps139
 go_wp2_with (go_at_call 186;refine(aTa _ _ _ _ (by omega) (by omega) (by omega) (by omega)).mono ?_;rintro e w' ⟨rfl,rfl⟩)
 all_goals
  go_ret;refine⟨bW ?_,(Below.refl _ _).bMq _⟩
  first|(simp[kK, *];done)|(simp only[kK,Bool.false_eq_true,false_iff,Bool.and_eq_true,decide_eq_true_eq];omega)
theorem aNj (a n s:Int) (w:World) (h0: -9223372036854775808<=a+n) (h1:a+n<=9223372036854775807):
  Calls Tryz.prog 140 #[.agg #[.int .i64 a,.int .i64 n,.int .i64 s]] w fun e w'=>e= .returned (.int .i64 (a+n))/\Below w.heap.size w w':=by
 go_enter Tryz.func140,Tryz.ntmps140;go_wp2;go_ret;exact⟨rfl,(Below.refl _ _).bMq _⟩
structure At (w:World) (b o:Nat) (k:Nat) (x:E):Prop where
 a:w.cell? ⟨b,o+k*3,none⟩=some (.int .i64 x.a)
 n:w.cell? ⟨b,o+k*3+1,none⟩=some (.int .i64 x.n)
 s:w.cell? ⟨b,o+k*3+2,none⟩=some (.int .i64 x.s)
def Rd (w:World) (a:Option Addr) (l:List E):Prop:=
 l.length<=46912496118443/\(l=[]∨ ∃b o,a=some ⟨b,o,none⟩/\ ∀k x,l[k]? =some x->At w b o k x)
theorem aBr (a n s:Int) (w:World) (r:Bool) (hr:kK a n s=r) (ha: -9223372036854775808<=a) (ha':a<=9223372036854775807) (hs0: -9223372036854775808<=s) (hs:s<=9223372036854775807):
  Calls Tryz.prog 139 #[.agg #[.int .i64 a,.int .i64 n,.int .i64 s]] w fun e w'=>e= .returned (.bool r)/\Below w.heap.size w w':=by
 subst hr;exact aUo a n s w ha ha' hs0 hs
theorem At.keep {w w':World} (h:Below w.heap.size w w') {b o k:Nat} {x:E} (ha:At w b o k x):At w' b o k x:=⟨h.keep ha.a,h.keep ha.n,h.keep ha.s⟩
theorem Rd.keep {w w':World} (h:Below w.heap.size w w') {a:Option Addr} {l:List E} (hr:Rd w a l):Rd w' a l:=
 ⟨hr.1,hr.2.imp id fun⟨b,o,ha,hat⟩=>⟨b,o,ha,fun k x hk=>(hat k x hk).keep h⟩⟩
theorem Rd.at {w:World} {a:Option Addr} {l:List E} (hr:Rd w a l) (h:0<l.length):∃ b o,a=some ⟨b,o,none⟩/\ ∀k x,l[k]? =some x->At w b o k x:=
 hr.2.resolve_left (by intro e;rw[e]at h;simp at h)
theorem aJg (l:List E) (a:Option Addr) (c:Nat) (w:World) (hr:Rd w a l) (hw:wfL l):
  Calls Tryz.prog 100 #[.slice a l.length c] w fun e w'=>e= .returned (.bool (aI l))/\Below w.heap.size w w':=by
 have hlen:=hr.1;go_enter Tryz.func100,Tryz.ntmps100;go_wp2;go_loopw [7] (fun i wr=>∃ k:Nat,k<=l.length/\i= .int .i64 k/\aI (l.take k)=true/\Below w.heap.size w wr) (fun i _=>l.length-(intOf i).toNat)
 case atStart=>exact⟨0,Nat.zero_le _,rfl,rfl,Below.refl _ _⟩
 case round=>
  obtain⟨k,hk,rfl,hv,hB⟩:=hrel
  rename_i W
  by_cases hlt:k<l.length
  ·obtain ⟨b,o,rfl,hat⟩:=(hr.keep hB).at (by omega);obtain⟨h1,h2,h3⟩:=hat k _ (List.getElem?_eq_getElem hlt);obtain⟨⟨b1,b2⟩,⟨b3,b4⟩,⟨b5,b6⟩⟩:=hw _ (List.getElem_mem hlt);have HH:=hid hv;clear hr;by_cases h0:k<=0
   ·have HV:=hid (zQ l k h0 hlt);have hd:decide (0<k)=false:=by simp;omega
    generalize l[k]=x at *;clear hat hv;cases hp:kK x.a x.n x.s
    all_goals
     have HP:=hid hp;clear hp;go_wp2_with fail;refine aC (by kernel_rfl) (by kernel_rfl) ?_
     repeat(go_big_quiet_step ((go_at_call 139;exact Calls.bMv (aBr _ _ _ _ _ HP.o (by omega) (by omega) (by omega) (by omega)))))
     refine wpQuiet_nil ?_;intro _ hw';obtain⟨nq,hw''⟩:=hw';subst hw'';go_wp2_with fail
    ·go_ret;refine⟨bW ?_,(hB.bMq _).bMt _⟩;have:=kI l (k+1) (by rw[HV.o];exact HP.o);simp[this]
    ·go_roundw
     case rel=>exact⟨k+1,by omega,by go_num,by rw[HV.o];exact HP.o,(hB.bMq _).bMt _⟩
     case measure=>simp[intOf];omega
   ·obtain ⟨g1,g2,g3⟩:=hat (k-1) _ (List.getElem?_eq_getElem (by omega));obtain⟨c1,c2,c3,c4,c5⟩:=(aD _).1 (aXi hv (show k-1<k by omega) (by omega));have HV:=hid (aCy l k hlt (by omega));have hd:decide (0<k)=true:=by simp;omega
    generalize l[k]=x at *;generalize l[k-1]=y at *;clear hat hv;cases hp:kK x.a x.n x.s
    all_goals
     have HP:=hid hp;clear hp;go_wp2_with fail;refine aC (by kernel_rfl) (by kernel_rfl) ?_
     repeat(go_big_quiet_step (first|(go_at_call 139;exact Calls.bMv (aBr _ _ _ _ _ HP.o (by omega) (by omega) (by omega) (by omega)))|(go_at_call 140;exact Calls.bMv (aNj _ _ _ _ (by omega) (by omega)))))
     refine wpQuiet_nil ?_;intro _ hw';obtain⟨nq,hw''⟩:=hw';subst hw'';go_wp2_with fail
    ·go_ret;refine⟨bW ?_,(hB.bMq _).bMt _⟩;have:=kI l (k+1) (by rw[HV.o];simp[okB,HP.o]);simp[this]
    ·have hx:x.a<y.a+y.n:=by assumption
     go_ret;refine⟨bW ?_,(hB.bMq _).bMt _⟩;have:=kI l (k+1) (by rw[HV.o];simp[okB];omega);simp[this]
    ·have hx:y.a+y.n<=x.a:=by assumption
     go_roundw
     case rel=>exact⟨k+1,by omega,by go_num,by rw[HV.o,HH.o];simp[okB,HP.o,hx],(hB.bMq _).bMt _⟩
     case measure=>simp[intOf];omega
  ·have HV:=hid hv;clear hv;go_wp2;go_ret;refine⟨bW ?_,hB⟩;have:=HV.o;rw[List.take_of_length_le (by omega)]at this;simp[this]
open Go.RowKit
def E.cells (x:E):List Value:=[.int .i64 x.a,.int .i64 x.n,.int .i64 x.s]
def bH (l:List E):List Value:=l.flatMap E.cells
theorem dD (l:List E):(bH l).length=l.length*3:=by
 induction l with
 |nil=>rfl
 |cons x r ih=>simp only[bH,List.flatMap_cons,List.length_append,List.length_cons]at ih ⊢;rw[ih];simp[E.cells];omega
theorem eH (l r:List E):bH (l++r)=bH l++bH r:=by simp[bH]
theorem zK (l:List E):∀ (k:Nat) (x:E),l[k]? =some x->(bH l)[k*3]? =some (.int .i64 x.a)/\(bH l)[k*3+1]? =some (.int .i64 x.n)/\(bH l)[k*3+2]? =some (.int .i64 x.s):=by
 induction l with
 |nil=>intro k x h;simp at h
 | cons y r ih=>
  intro k x h
  cases k with
  |zero=>simp at h;subst h;simp[bH,E.cells]
  | succ k=>
   obtain⟨h1,h2,h3⟩:=ih k x (by simpa using h);have e:bH (y::r)=[.int .i64 y.a,.int .i64 y.n,.int .i64 y.s]++bH r:=rfl;rw[e];refine⟨?_,?_,?_⟩
   ·rw[List.getElem?_append_right (by simp;omega),<-h1];congr 1;simp;omega
   ·rw[List.getElem?_append_right (by simp;omega),<-h2];congr 1;simp;omega
   ·rw[List.getElem?_append_right (by simp;omega),<-h3];congr 1;simp;omega
theorem uN (l:List E):∀ u∈bH l,u.oneCell'=true:=by
 intro u hu;simp only[bH,List.mem_flatMap,E.cells]at hu;obtain⟨x,_,hx⟩:=hu;simp at hx;rcases hx with rfl|rfl|rfl <;> rfl
def aG (w:World) (B:Nat) (v:Value) (l:List E):Prop:=w.ownsRow B 81 3 v l.length (bH l)
theorem aG.nil (w:World) (B:Nat):aG w B (.slice none 0 0) []:=World.ownsRow_nil _ _ _ _
theorem aG.lt {w:World} {B:Nat} {v:Value} {l:List E} (h:aG w B v l):∀ k,v.ownBlock=some k->B<=k/\k<w.heap.size:=World.ownsRow.lt h
theorem aG.mono {w:World} {B B':Nat} {v:Value} {l:List E} (h:aG w B v l) (hB:B'<=B):aG w B' v l:=
 ⟨h.1,h.2.imp id fun⟨g,cap,cur,hv,hg,r⟩=>⟨g,cap,cur,hv,Nat.le_trans hB hg,r⟩⟩
theorem aG.keep {w w':World} {B:Nat} {v:Value} {l:List E} (h:aG w B v l) (hb:Below w.heap.size w w'):aG w' B v l:=
 World.ownsRow.kept h (row:=none) ⟨hb.os,hb.tape,hb.output,hb.size,fun k hk _=>hb.block k hk⟩ (by cases hv:v.ownBlock <;> simp)
theorem aG.other {w w':World} {B:Nat} {v:Value} {l:List E} {row:Option Nat} (h:aG w B v l) (hg:w.grownBy w' row) (hne:v.ownBlock=none∨v.ownBlock≠row):aG w' B v l:=
 World.ownsRow.kept h hg hne
theorem aG.form {w:World} {B:Nat} {v:Value} {l:List E} (h:aG w B v l):
  (v= .slice none 0 0/\l=[])∨ ∃g c,v= .slice (some ⟨g,0,none⟩) l.length c/\B<=g/\g<w.heap.size/\l.length<=c/\c<=maxLen/\(∀k x,l[k]? =some x->At w g 0 k x)/\ ∀i,w.frozen? ⟨g,i,none⟩=false:=by
 rcases h.2 with ⟨rfl,hn⟩|⟨g,cap,cur,rfl,hb,hg,hn,hc,hs,ht⟩
 ·exact .inl ⟨rfl,List.eq_nil_of_length_eq_zero hn⟩
 ·refine .inr ⟨g,cap,rfl,hb,(Array.getElem?_eq_some_iff.1 hg).1,hn,hc,fun k x hk=> ?_,fun i=>World.ownsRow.frozenAt h i⟩;have hk':k<l.length:=(List.getElem?_eq_some_iff.1 hk).1;obtain⟨h1,h2,h3⟩:=zK l k x hk;have c:=fun j hj=>World.ownsRow.cellAt (cap:=cap) h j hj;refine⟨?_,?_,?_⟩
  ·rw[Nat.zero_add,c _ (by omega),h1]
  ·rw[Nat.zero_add,c _ (by omega),h2]
  ·rw[Nat.zero_add,c _ (by omega),h3]
theorem aG.rd {w:World} {B:Nat} {v:Value} {l:List E} (h:aG w B v l) (hl:l.length<=46912496118443):∃ a c,v= .slice a l.length c/\Rd w a l:=by
 rcases h.form with ⟨rfl,rfl⟩|⟨g,c,rfl,_,_,_,_,hat,_⟩
 ·exact⟨_,_,rfl,by simp,.inl rfl⟩
 ·exact⟨_,_,rfl,hl,.inr ⟨g,0,rfl,hat⟩⟩
theorem aG.snoc {w:World} {B n:Nat} {v:Value} {l:List E} {x:E} (h:w.ownsRow B 81 3 v n (bH l++x.cells)) (hn:n=l.length+1):aG w B v (l++[x]):=by
 subst hn;unfold aG;rw[eH,List.length_append];have:bH [x]=x.cells:=by simp[bH]
 rw[this];exact h
theorem yM (l:List E) (y:E) (n:Int):(bH (l++[y])).set (l.length*3+1) (.int .i64 (y.n+n))=bH (l++[y.longer n]):=by
 rw[eH,eH,List.set_append_right _ _ (by rw[dD];omega),dD,show l.length*3+1-l.length*3=1 by omega];rfl
theorem kV:(Tryz.prog.info? 81).map (fun i=>(i.zero,i.size,i.bytes))=some (some (.agg #[.int .i64 0,.int .i64 0,.int .i64 0]),3,24):=by kernel_rfl
theorem bGm (a n s r:Int) (w:World) (hr:a+n=r) (h0: -9223372036854775808<=a+n) (h1:a+n<=9223372036854775807):
  Calls Tryz.prog 140 #[.agg #[.int .i64 a,.int .i64 n,.int .i64 s]] w fun e w'=>e= .returned (.int .i64 r)/\Below w.heap.size w w':=by
 subst hr;exact aNj a n s w h0 h1
theorem bEc (v:Value) (x:E) (B:Nat) (w:World) (hown:aG w B v []) (hB:B<=w.heap.size):
  Calls Tryz.prog 101 #[v,.agg #[.int .i64 x.a,.int .i64 x.n,.int .i64 x.s]] w fun e w'=>
   ∃v',e= .returned v'/\aG w' B v' [x]/\w.grownBy w' v.ownBlock/\(v'.ownBlock=v.ownBlock∨ ∃k,v'.ownBlock=some k/\w.heap.size<=k):=by
 obtain ⟨i0,hi,hz0,hz1,hz2⟩:=info_parts kV;obtain⟨a,c,rfl⟩:∃ a c,v= .slice a 0 c:=by
  rcases hown.form with ⟨rfl,_⟩|⟨g,c,rfl,_⟩
  ·exact⟨_,_,rfl⟩
  ·exact⟨_,_,rfl⟩
 have ho:=hid hown;clear hown;go_enter Tryz.func101,Tryz.ntmps101;go_wp2_with fail;refine aC (by kernel_rfl) (by kernel_rfl) ?_
 repeat(go_big_quiet_step (fail))
 refine wpQuiet_nil ?_;intro _ hw';obtain⟨nq,hw''⟩:=hw';subst hw'';generalize hW:World.next _ nq=W;have hb:Below w.heap.size w W:=by rw[<-hW];exact((Below.refl _ _).bMq _).bMt _
 have x1:W.cell? ⟨w.heap.size,0,none⟩=some (.int .i64 x.a):=by rw[<-hW];simp
 have x2:W.cell? ⟨w.heap.size,1,none⟩=some (.int .i64 x.n):=by rw[<-hW];simp
 have x3:W.cell? ⟨w.heap.size,2,none⟩=some (.int .i64 x.s):=by rw[<-hW];simp
 have ho2:=hid (ho.o.keep hb);clear hW ho
 go_wp2_with (at_builtin;refine aM _ rfl _ _ 76 rfl B 81 i0 (.agg #[.int .i64 0,.int .i64 0,.int .i64 0]) 3 24 Tryz.underlying76 hi hz0 hz1 hz2 rfl (by decide) _ _ _ rfl (World.ownsRow.alloc ho2.o _) ⟨W.heap.size,0,none⟩ 1 1 (E.cells x) rfl rfl ?c1 ?c2 (by simp only[List.length_append,List.length_cons,List.length_nil];omega) (by simp only[List.length_append,List.length_cons,List.length_nil,maxLen];omega) ?c5 ?_)
 case c1=>
  intro j u hj
  match j,hj with
  |0,hj=>simp[E.cells]at hj;subst hj;simp[Addr.add]
  |1,hj=>simp[E.cells]at hj;subst hj;simp[Addr.add]
  |2,hj=>simp[E.cells]at hj;subst hj;simp[Addr.add]
 case c2=>exact uN [x]
 case c5=>have:=hb.size;simp;omega
 intro v' w1 hown' hgrow hwhere;go_wp2;go_ret;refine⟨v',rfl,aG.snoc hown' (by simp),?_,?_⟩
 ·exact(hb.bMq _).grow hgrow
 ·exact hwhere.imp id fun h=>⟨_,h,by have:=hb.size;simp;omega⟩
theorem bIf (v:Value) (l:List E) (y x:E) (B:Nat) (w:World) (hown:aG w B v (l++[y])) (hB:B<=w.heap.size) (hl:l.length<=1000000000) (hy:okB y=true) (hx:okB x=true) (hm:meets y x=false):
  Calls Tryz.prog 101 #[v,.agg #[.int .i64 x.a,.int .i64 x.n,.int .i64 x.s]] w fun e w'=>
   ∃v',e= .returned v'/\aG w' B v' (l++[y]++[x])/\w.grownBy w' v.ownBlock/\(v'.ownBlock=v.ownBlock∨ ∃k,v'.ownBlock=some k/\w.heap.size<=k):=by
 obtain⟨i0,hi,hz0,hz1,hz2⟩:=info_parts kV;obtain⟨g,c,rfl,hg1,hg2,hc1,hc2,hat,hfz⟩:=(hown.form).resolve_left (by simp);obtain⟨y1,y2,y3⟩:=hat l.length y (by simp);simp only[List.length_append,List.length_cons,List.length_nil,Nat.zero_add]at y1 y2 y3 hc1;rw[aD]at hy hx;obtain⟨e1,e2,e3,e4,e5⟩:=hy;obtain⟨f1,f2,f3,f4,f5⟩:=hx;have hlen:(l++[y]).length=l.length+1:=by simp
 rw[hlen]at hown ⊢;have ho:=hid hown;clear hat hown hlen;have hd:decide (0<=l.length)=true:=by simp
 by_cases ha:y.a+y.n=x.a
 ·have hs:y.s+y.n≠x.s:=by intro h;simp[meets,ha,h]at hm
  have hsb:(y.s+y.n==x.s)=false:=by simpa using hs
  have HA:=hid ha;clear ha hm;have hab:(x.a==x.a)=true:=by simp
  go_enter Tryz.func101,Tryz.ntmps101;go_wp2_with fail;refine aC (by kernel_rfl) (by kernel_rfl) ?_
  repeat(go_big_quiet_step ((go_at_call 140;exact Calls.bMv (bGm _ _ _ x.a _ HA.o (by omega) (by omega)))))
  refine wpQuiet_nil ?_;intro _ hw';obtain⟨nq,hw''⟩:=hw';subst hw'';generalize hW:World.next _ nq=W;have hb:Below w.heap.size w W:=by rw[<-hW];exact((Below.refl _ _).bMq _).bMt _
  have x1:W.cell? ⟨w.heap.size,0,none⟩=some (.int .i64 x.a):=by rw[<-hW];simp
  have x2:W.cell? ⟨w.heap.size,1,none⟩=some (.int .i64 x.n):=by rw[<-hW];simp
  have x3:W.cell? ⟨w.heap.size,2,none⟩=some (.int .i64 x.s):=by rw[<-hW];simp
  have ho2:=hid (ho.o.keep hb);clear hW ho
  go_wp2_with (at_builtin;refine aM _ rfl _ _ 76 rfl B 81 i0 (.agg #[.int .i64 0,.int .i64 0,.int .i64 0]) 3 24 Tryz.underlying76 hi hz0 hz1 hz2 rfl (by decide) _ _ _ rfl (World.ownsRow.alloc ho2.o _) ⟨W.heap.size,0,none⟩ 1 1 (E.cells x) rfl rfl ?c1 ?c2 (by simp only[List.length_append,List.length_cons,List.length_nil];omega) (by simp only[List.length_append,List.length_cons,List.length_nil,maxLen];omega) ?c5 ?_)
  case c1=>
   intro j u hj
   match j,hj with
   |0,hj=>simp[E.cells]at hj;subst hj;simp[Addr.add]
   |1,hj=>simp[E.cells]at hj;subst hj;simp[Addr.add]
   |2,hj=>simp[E.cells]at hj;subst hj;simp[Addr.add]
  case c2=>exact uN [x]
  case c5=>have:=hb.size;simp;omega
  intro v' w1 hown' hgrow hwhere;go_wp2;go_ret;refine⟨v',rfl,aG.snoc hown' (by simp),?_,?_⟩
  ·exact(hb.bMq _).grow hgrow
  ·exact hwhere.imp id fun h=>⟨_,h,by have:=hb.size;simp;omega⟩
 ·have hab:(y.a+y.n==x.a)=false:=by simpa using ha
  have HA:=hid ha;clear ha hm;go_enter Tryz.func101,Tryz.ntmps101;go_wp2_with fail;refine aC (by kernel_rfl) (by kernel_rfl) ?_
  repeat(go_big_quiet_step ((go_at_call 140;exact Calls.bMv (aNj _ _ _ _ (by omega) (by omega)))))
  refine wpQuiet_nil ?_;intro _ hw';obtain⟨nq,hw''⟩:=hw';subst hw'';generalize hW:World.next _ nq=W;have hb:Below w.heap.size w W:=by rw[<-hW];exact((Below.refl _ _).bMq _).bMt _
  have x1:W.cell? ⟨w.heap.size,0,none⟩=some (.int .i64 x.a):=by rw[<-hW];simp
  have x2:W.cell? ⟨w.heap.size,1,none⟩=some (.int .i64 x.n):=by rw[<-hW];simp
  have x3:W.cell? ⟨w.heap.size,2,none⟩=some (.int .i64 x.s):=by rw[<-hW];simp
  have ho2:=hid (ho.o.keep hb);clear hW ho
  go_wp2_with (at_builtin;refine aM _ rfl _ _ 76 rfl B 81 i0 (.agg #[.int .i64 0,.int .i64 0,.int .i64 0]) 3 24 Tryz.underlying76 hi hz0 hz1 hz2 rfl (by decide) _ _ _ rfl (World.ownsRow.alloc ho2.o _) ⟨W.heap.size,0,none⟩ 1 1 (E.cells x) rfl rfl ?c1 ?c2 (by simp only[List.length_append,List.length_cons,List.length_nil];omega) (by simp only[List.length_append,List.length_cons,List.length_nil,maxLen];omega) ?c5 ?_)
  case c1=>
   intro j u hj
   match j,hj with
   |0,hj=>simp[E.cells]at hj;subst hj;simp[Addr.add]
   |1,hj=>simp[E.cells]at hj;subst hj;simp[Addr.add]
   |2,hj=>simp[E.cells]at hj;subst hj;simp[Addr.add]
  case c2=>exact uN [x]
  case c5=>have:=hb.size;simp;omega
  intro v' w1 hown' hgrow hwhere;go_wp2;go_ret;refine⟨v',rfl,aG.snoc hown' (by simp),?_,?_⟩
  ·exact(hb.bMq _).grow hgrow
  ·exact hwhere.imp id fun h=>⟨_,h,by have:=hb.size;simp;omega⟩
theorem bEb (v:Value) (l:List E) (y x:E) (B:Nat) (w:World) (hown:aG w B v (l++[y])) (hl:l.length<=1000000000) (hy:okB y=true) (hx:okB x=true) (hm:meets y x=true):
  Calls Tryz.prog 101 #[v,.agg #[.int .i64 x.a,.int .i64 x.n,.int .i64 x.s]] w fun e w'=>
   e= .returned v/\aG w' B v (l++[y.longer x.n])/\w.grownBy w' v.ownBlock:=by
 obtain⟨g,c,rfl,hg1,hg2,hc1,hc2,hat,hfz⟩:=(hown.form).resolve_left (by simp);obtain⟨y1,y2,y3⟩:=hat l.length y (by simp);simp only[List.length_append,List.length_cons,List.length_nil,Nat.zero_add]at y1 y2 y3 hc1;have hf:=hfz (l.length*3+1);rw[aD]at hy hx;obtain⟨e1,e2,e3,e4,e5⟩:=hy;obtain⟨f1,f2,f3,f4,f5⟩:=hx;simp only[meets,Bool.and_eq_true,decide_eq_true_eq]at hm;obtain⟨ha,hs⟩:=hm;have hlen:(l++[y]).length=l.length+1:=by simp
 rw[hlen]at hown ⊢;have ho:=hid hown;have hd:decide (0<=l.length)=true:=by simp
 have HA:=hid ha;have hab:(x.a==x.a)=true:=by simp
 have hsb:(y.s+y.n==x.s)=true:=by simpa using hs
 clear hat hown hlen ha hs hfz;go_enter Tryz.func101,Tryz.ntmps101;go_wp2_with fail;refine aC (by kernel_rfl) (by kernel_rfl) ?_
 repeat(go_big_quiet_step ((go_at_call 140;exact Calls.bMv (bGm _ _ _ x.a _ HA.o (by omega) (by omega)))))
 refine wpQuiet_nil ?_;intro _ hw';obtain⟨nq,hw''⟩:=hw';subst hw'';generalize hW:World.next _ nq=W;have hb:Below w.heap.size w W:=by rw[<-hW];exact((Below.refl _ _).bMq _).bMt _
 have x1:W.cell? ⟨w.heap.size,0,none⟩=some (.int .i64 x.a):=by rw[<-hW];simp
 have x2:W.cell? ⟨w.heap.size,1,none⟩=some (.int .i64 x.n):=by rw[<-hW];simp
 have x3:W.cell? ⟨w.heap.size,2,none⟩=some (.int .i64 x.s):=by rw[<-hW];simp
 have z2:=hb.keep y2;have hfr:=hb.bMw y2 hf;have ho2:=hid (ho.o.keep hb);clear hW ho y1 y2 y3 hf;go_wp2_with fail;refine iM 10 (by kernel_rfl) (by kernel_rfl) ?_;simp only[List.take_succ_cons,List.take_zero,List.drop_succ_cons,List.drop_zero]
 repeat(go_big_quiet_step (fail))
 refine wpQuiet_nil ?_;intro _ hw';obtain⟨nq,hw''⟩:=hw';subst hw'';have hb2:=World.bMr W nq;have ho3:=hid (ho2.o.keep hb2);clear ho2;go_wp2_with fail;go_ret;have h3:=ho3.o;unfold aG at h3;rw[show(l++[y]).length=l.length+1 by simp]at h3;have hst:=World.ownsRow.stored h3 (l.length*3+1) (.int .i64 (y.n+x.n));rw[yM]at hst;refine⟨rfl,?_,(hb.on hb2).grow hst.2⟩;unfold aG;rw[show(l++[y.longer x.n]).length=l.length+1 by simp];exact hst.1
def bLr (w:World) (B:Nat) (v:Value) (l:List E) (e:Ending) (w':World):Prop:=
 ∃v',e= .returned v'/\aG w' B v' l/\w.grownBy w' v.ownBlock/\(v'.ownBlock=v.ownBlock∨ ∃k,v'.ownBlock=some k/\w.heap.size<=k)
theorem bEd (v:Value) (l:List E) (x:E) (B:Nat) (w:World) (hown:aG w B v l) (hB:B<=w.heap.size) (hl:l.length<=1000000000) (hy:∀ y∈l,okB y=true) (hx:okB x=true):
  Calls Tryz.prog 101 #[v,.agg #[.int .i64 x.a,.int .i64 x.n,.int .i64 x.s]] w (bLr w B v (fD l x)):=by
 by_cases h:l=[]
 ·subst h;exact bEc v x B w hown hB
 ·obtain⟨l',y,rfl⟩:=fC l h;have hl':l'.length<=1000000000:=by simp at hl;omega
  cases hm:meets y x
  ·rw[eD _ _ _ hm];exact bIf v l' y x B w hown hB hl' (hy y (by simp)) hx hm
  ·rw[dG _ _ _ hm];exact(bEb v l' y x B w hown hl' (hy y (by simp)) hx hm).mono fun e w' ⟨h1,h2,h3⟩=>⟨v,h1,h2,h3,.inl rfl⟩
open Go.ChangeShapes Go.WideShapes Go.ChangeAt Go.RowKit Go.Deep
theorem own:ownKnob Tryz.prog.godebug=none:=by kernel_rfl
theorem laidOut:laidOutB Tryz.prog=true:=by kernel_rfl
section
variable {H:Type} {enc:TypeId × Value->H} {P:Program} {w:World} {base:Nat} {spare:Nat->Bool} {held:Bool}
theorem rO {t e:TypeId} {fs:Array Field} {fuel:Nat} {cs:List Value} {x:DataW H × List MemPlace} (ht:P.underlying t=some (.slice e)) (he:P.underlying e=some (.struct fs))
  (hone:oneCellFields P fs=true) (hC:P.cellsOf e=fs.size) (h:DataW.trod enc P w base spare held fuel t cs=some x):
  (cs=[.slice none 0 0]/\x=(.nil,[]))∨
  ∃ (a:Addr) (len cap m:Nat) (D:Nat->DataW H) (Pl:Nat->List MemPlace),cs=[.slice (some a) len cap]/\base<=a.block/\len<=cap/\cap<=maxLen/\m=(if spare a.block then cap else len)/\
   x=(.slice ((List.range len).map D) ((List.range (m-len)).map fun j=>D (len+j)),MemPlace.row a (m*fs.size)++(List.range m).flatMap Pl)/\
   ∀ i,i<m-> ∃(ys:List (DataW H × List MemPlace)) (n:Nat),D i= .agg (ys.map (·.1))/\Pl i=ys.flatMap (·.2)/\ys.length=fs.size/\
    ∀(j:Nat) (f:Field),fs[j]? =some f-> ∃(v:Value) (y:DataW H × List MemPlace),w.cell? (a.add (i*fs.size+j))=some v/\ys[j]? =some y/\DataW.trod enc P w base spare held n f.type [v]=some y:=by
 rcases open_slice ht h with h0|⟨a,len,cap,m,n,D,Pl,hcs,hb,hl,hm,hmm,hx,hi⟩
 ·exact .inl h0
 ·refine .inr ⟨a,len,cap,m,D,Pl,hcs,hb,hl,hm,hmm,by rw[hC]at hx;exact hx,fun i him=> ?_⟩;obtain⟨cs',hc,ht'⟩:=hi i him;rw[hC]at hc;obtain⟨ys,n',hn',hy,hlen,hyl,hf⟩:=DataW.trod_struct he ht';obtain⟨_,hcl,hat⟩:=World.cells?_some hc;simp only[Prod.mk.injEq]at hy;refine⟨ys,n',hy.1,hy.2,hyl,fun j f hj=> ?_⟩;obtain⟨ho,hk⟩:=hone_of hone j f hj;have hjl:j<fs.size:=(Array.getElem?_eq_some_iff.1 hj).1;have hcell:=hat j hjl;have hv:cs'[j]? =some (cs'[j]'(by omega)):=List.getElem?_eq_getElem (by omega);have h1:=hf j f hj;rw[ho,hk]at h1;have hone':(cs'.drop j).take 1=[cs'[j]'(by omega)]:=by
   rw[List.drop_eq_getElem_cons (by omega)];rfl
  rw[hone']at h1;have hys:ys[j]? =some (ys[j]'(by omega)):=List.getElem?_eq_getElem (by omega);refine⟨_,_,?_,hys,h1.trans hys⟩;rw[<-Go.Deep.add_add,hcell,hv]
end
theorem bIp {P:Nat->E->Prop} (n:Nat) (h:∀ i,i<n-> ∃x,P i x):∃ l:List E,l.length=n/\ ∀i x,l[i]? =some x->P i x:=by
 induction n with
 |zero=>exact⟨[],rfl,fun i x hx=>by simp at hx⟩
 | succ n ih=>
  obtain⟨l,hl,hp⟩:=ih fun i hi=>h i (by omega);obtain⟨y,hy⟩:=h n (by omega);refine⟨l++[y],by simp[hl],fun i x hx=> ?_⟩;by_cases hi:i<n
  ·rw[List.getElem?_append_left (by omega)]at hx;exact hp i x hx
  ·have hlt:=(List.getElem?_eq_some_iff.1 hx).1;simp[hl]at hlt;obtain rfl:i=n:=by omega
   rw[List.getElem?_append_right (by omega),hl]at hx;simp at hx;rw[<-hx];exact hy
section
variable {H:Type} {enc:TypeId × Value->H} {w:World}
theorem bMp {fs:Array Field} (h:Tryz.prog.underlying 81=some (.struct fs)):fs.size=3/\ ∀j,j<3-> ∃f:Field,fs[j]? =some f/\f.type=3:=by
 rw[Tryz.underlying81]at h;injection h with h;injection h with h;subst h;refine⟨rfl,fun j hj=> ?_⟩
 match j,hj with
 |0,_=>exact⟨_,rfl,rfl⟩
 |1,_=>exact⟨_,rfl,rfl⟩
 |2,_=>exact⟨_,rfl,rfl⟩
theorem bIg {a:Option Addr} {len cap fuel:Nat} {x:DataW H × List MemPlace} (h:DataW.trod enc Tryz.prog w 0 (fun _=>true) true fuel 76 [.slice a len cap]=some x):
  ∃l:List E,l.length=len/\(len<=9223372036854775807/\len<=cap/\cap<=9223372036854775807)/\(len<=46912496118443->Rd w a l)/\wfL l:=by
 rcases rO Tryz.underlying76 Tryz.underlying81 (by kernel_rfl) (by kernel_rfl) h with ⟨hcs,_⟩|⟨ad,len',cap',m,D,Pl,hcs,hb,hl,hm,hmm,hx,hi⟩
 ·simp at hcs;obtain⟨rfl,rfl,rfl⟩:=hcs;exact⟨[],rfl,⟨by omega,by omega,by omega⟩,fun hb=>⟨hb,.inl rfl⟩,fun x hx=>by simp at hx⟩
 ·simp at hcs;obtain⟨rfl,rfl,rfl⟩:=hcs;simp only[if_true]at hmm;subst hmm;obtain⟨l,hlen,hp⟩:=bIp (P:=fun i x=>(w.cell? (ad.add (i*3+0))=some (.int .i64 x.a)/\w.cell? (ad.add (i*3+1))=some (.int .i64 x.n)/\w.cell? (ad.add (i*3+2))=some (.int .i64 x.s))/\x.wf) len (fun i hlt=>by
   obtain⟨ys,n,_,_,hys,hf⟩:=hi i (by omega);obtain⟨v0,y0,k0,_,t0⟩:=hf 0 _ rfl;obtain⟨v1,y1,k1,_,t1⟩:=hf 1 _ rfl;obtain⟨v2,y2,k2,_,t2⟩:=hf 2 _ rfl;obtain⟨n0,e0,_,w0⟩:=DataW.trod_int Tryz.underlying3 t0;obtain⟨n1,e1,_,w1⟩:=DataW.trod_int Tryz.underlying3 t1;obtain⟨n2,e2,_,w2⟩:=DataW.trod_int Tryz.underlying3 t2;simp at e0 e1 e2;subst e0 e1 e2
   exact⟨⟨n0,n1,n2⟩,⟨k0,k1,k2⟩,bounds_i64 w0,bounds_i64 w1,bounds_i64 w2⟩)
  refine⟨l,hlen,by unfold maxLen at hm;exact⟨by omega,hl,by omega⟩,fun hb=>⟨by omega,?_⟩,fun x hx=> ?_⟩
  ·by_cases h0:l=[]
   ·exact .inl h0
   ·refine .inr ?_;obtain⟨b,off,spot⟩:=ad;have h00:0<l.length:=by
     cases l with
     |nil=>exact absurd rfl h0
     |cons x r=>simp
    have hc:=(hp 0 _ (List.getElem?_eq_getElem h00)).1.1;have hspot:spot=none:=by simpa [Addr.add]using World.cell?_spot hc
    subst hspot;refine⟨b,off,rfl,fun k x hk=> ?_⟩;obtain⟨⟨c0,c1,c2⟩,_⟩:=hp k x hk;have hadd:∀ j,(⟨b,off,none⟩:Addr).add j=⟨b,off+j,none⟩:=fun j=>by unfold Addr.add;split <;> simp_all
    rw[hadd]at c0 c1 c2;exact⟨by simpa using c0,by rw[Nat.add_assoc];exact c1,by rw[Nat.add_assoc];exact c2⟩
  ·obtain⟨i,hi'⟩:=List.mem_iff_getElem?.1 hx;exact(hp i x hi').2
theorem bKi {r:Reach} {b0:Nat} {v:Value} {d:DataW H} {p:List MemPlace} (hv:Value.okWide Tryz.prog w r b0 81 v) (h:DataW.Trod enc Tryz.prog w 0 (fun _=>true) true 81 v d p):
  ∃x:E,v= .agg #[.int .i64 x.a,.int .i64 x.n,.int .i64 x.s]/\x.wf:=by
 obtain⟨v0,v1,v2,y0,y1,y2,n,rfl,_,_,t0,t1,t2⟩:=Joins.open_agg3 Tryz.underlying81 (by kernel_rfl) (by kernel_rfl) hv h;obtain⟨n0,e0,_,w0⟩:=DataW.trod_int Tryz.underlying3 t0;obtain⟨n1,e1,_,w1⟩:=DataW.trod_int Tryz.underlying3 t1;obtain⟨n2,e2,_,w2⟩:=DataW.trod_int Tryz.underlying3 t2;simp at e0 e1 e2;subst e0 e1 e2;exact⟨⟨n0,n1,n2⟩,rfl,bounds_i64 w0,bounds_i64 w1,bounds_i64 w2⟩
end
open Go.RowKit
theorem bCz (l:List E) (a:Option Addr) (c:Nat) (w:World) (r:Bool) (hv:aI l=r) (hr:Rd w a l) (hw:wfL l):
  Calls Tryz.prog 100 #[.slice a l.length c] w fun e w'=>e= .returned (.bool r)/\Below w.heap.size w w':=by
 subst hv;exact aJg l a c w hr hw
def Listed (w:World) (l:List E) (e:Ending) (w':World):Prop:= ∃v,e= .returned (.tuple #[v,.int .i64 0])/\aG w' w.heap.size v l/\Below w.heap.size w w'
theorem bFg (l:List E) (a:Option Addr) (c:Nat) (w:World) (hr:Rd w a l) (hw:wfL l) (hl:l.length<=1000000000) (hv:aI l=true):
  Calls Tryz.prog 47 #[.slice a l.length c] w (Listed w (joinL l)):=by
 have HV:=hid hv;have HO:=hid (aK hv);clear hv;go_enter Tryz.func47,Tryz.ntmps47
 go_wp2_with (go_at_call 100;refine(bCz _ _ _ _ _ HV.o hr hw).mono ?_;rintro e w' ⟨rfl,hb⟩)
 go_loopw [4,12] (fun v i wr=>∃ k:Nat,k<=l.length/\i= .int .i64 k/\aG wr w.heap.size v (joinL (l.take k))/\Below w.heap.size w wr) (fun _ i _=>l.length-(intOf i).toNat)
 case atStart=>exact⟨0,Nat.zero_le _,rfl,aG.nil _ _,hb⟩
 case round=>
  obtain⟨k,hk,rfl,ho,hB⟩:=hrel;by_cases hlt:k<l.length
  ·obtain⟨b,o,rfl,hat⟩:=(hr.keep hB).at (by omega);obtain⟨h1,h2,h3⟩:=hat k _ (List.getElem?_eq_getElem hlt);have HX:=hid (HO.o _ (List.getElem_mem hlt));have HT:=hid (aGt l k hlt);have HY:=hid (aGu (l.take k) (fun x hx=>HO.o x (List.mem_of_mem_take hx)));have hjl:=jL (l.take k);have htl:=List.length_take_le k l;have HW:=hid ho;generalize l[k]=x at *;clear hat ho hr
   go_wp2_with (go_at_call 101;refine(bEd _ _ _ _ _ (aG.keep HW.o ((Below.refl _ _).bMq _)) (by have:=hB.size;simp;omega) (by omega) HY.o HX.o).mono ?_;rintro e w1 ⟨v1,rfl,ho1,hg1,hw1⟩)
   go_roundw
   case rel=>exact⟨k+1,by omega,by go_num,by rw[HT.o];exact ho1,(hB.bMq _).bMu hg1 fun j hj=>(HW.o.lt j hj).1⟩
   case measure=>simp[intOf];omega
  ·go_wp2;go_ret2;refine⟨_,rfl,?_,hB⟩;rw[List.take_of_length_le (by omega)]at ho;exact ho
open Go.RowKit
theorem rF (W:World) (n:Nat) (hn:n=W.heap.size) (x:E) (t:TypeId):∀ j u,(E.cells x)[j]? =some u->(W.alloc (.cells #[.int .i64 x.a,.int .i64 x.n,.int .i64 x.s] t)).cell? ((⟨n,0,none⟩:Addr).add j)=some u:=by
 subst hn;intro j u hj
 match j,hj with
 |0,hj=>simp[E.cells]at hj;subst hj;simp[Addr.add]
 |1,hj=>simp[E.cells]at hj;subst hj;simp[Addr.add]
 |2,hj=>simp[E.cells]at hj;subst hj;simp[Addr.add]
theorem bX (x:E):∀ u∈E.cells x,u.oneCell'=true:=by
 intro u hu;simp[E.cells]at hu;rcases hu with rfl|rfl|rfl <;> rfl
theorem bIh (a n s:Int) (w:World):
  Calls Tryz.prog 193 #[.agg #[.int .i64 a,.int .i64 n,.int .i64 s]] w fun e w'=>e= .returned (.bool (kK a n s))/\Below w.heap.size w w':=by
 go_enter Tryz.func193,Tryz.ntmps193;go_wp2
 all_goals
  go_ret;exact⟨bW (by rw[vN];simp only[decide_eq_true_eq,Bool.false_eq_true,false_iff];omega),(Below.refl _ _).bMq _⟩
theorem rZ (a n s:Int) (r:Bool) (w:World) (h:kK a n s=r):
  Calls Tryz.prog 193 #[.agg #[.int .i64 a,.int .i64 n,.int .i64 s]] w fun e w'=>e= .returned (.bool r)/\Below w.heap.size w w':=by
 subst h;exact bIh a n s w
theorem bAc (p n:Int) (w:World):
  Calls Tryz.prog 221 #[.int .i64 p,.int .i64 n] w fun e w'=>e= .returned (.bool (dW p n 65536))/\w=w':=by
 go_enter Tryz.func221,Tryz.ntmps221;go_wp2
 all_goals
  go_ret;exact⟨bW (by simp only[dW,decide_eq_true_eq,Bool.false_eq_true,false_iff];omega),rfl⟩
theorem bDw (p n:Int) (r:Bool) (w:World) (h:dW p n 65536=r):
  Calls Tryz.prog 221 #[.int .i64 p,.int .i64 n] w fun e w'=>e= .returned (.bool r)/\w=w':=by
 subst h;exact bAc p n w
theorem aTy (l:List E) (a:Option Addr) (c:Nat) (w:World) (hr:Rd w a l) (hw:wfL l):
  Calls Tryz.prog 174 #[.slice a l.length c] w fun e w'=>e= .returned (.bool (aI l))/\Below w.heap.size w w':=by
 have hlen:=hr.1;go_enter Tryz.func174,Tryz.ntmps174;go_wp2;go_loopw [3] (fun i wr=>∃ k:Nat,k<=l.length/\i= .int .i64 k/\aI (l.take k)=true/\Below w.heap.size w wr) (fun i _=>l.length-(intOf i).toNat)
 case atStart=>exact⟨0,Nat.zero_le _,rfl,rfl,Below.refl _ _⟩
 case round=>
  obtain⟨k,hk,rfl,hv,hB⟩:=hrel;by_cases hlt:k<l.length
  ·obtain ⟨b,o,rfl,hat⟩:=(hr.keep hB).at (by omega);obtain⟨h1,h2,h3⟩:=hat k _ (List.getElem?_eq_getElem hlt);have HH:=hid hv;clear hr;by_cases h0:k<=0
   ·have HV:=hid (zQ l k h0 hlt);have hd:decide (0<k)=false:=by simp;omega
    generalize l[k]=x at *;clear hat hv;cases hp:kK x.a x.n x.s
    all_goals
     have HP:=hid hp;clear hp;go_wp2_with fail;refine aC (by kernel_rfl) (by kernel_rfl) ?_
     repeat(go_big_quiet_step ((go_at_call 193;exact Calls.bMv (rZ _ _ _ _ _ HP.o))))
     refine wpQuiet_nil ?_;intro _ hw';obtain⟨nq,hw''⟩:=hw';subst hw'';go_wp2_with fail
    ·go_ret;refine⟨bW ?_,hB.bMt _⟩;have:=kI l (k+1) (by rw[HV.o];exact HP.o);simp[this]
    ·go_roundw
     case rel=>exact⟨k+1,by omega,by go_num,by rw[HV.o];exact HP.o,hB.bMt _⟩
     case measure=>simp[intOf];omega
   ·obtain ⟨g1,g2,g3⟩:=hat (k-1) _ (List.getElem?_eq_getElem (by omega));obtain⟨c1,c2,c3,c4,c5⟩:=(aD _).1 (aXi hv (show k-1<k by omega) (by omega));have HV:=hid (aCy l k hlt (by omega));have hd:decide (0<k)=true:=by simp;omega
    generalize l[k]=x at *;generalize l[k-1]=y at *;clear hat hv;cases hp:kK x.a x.n x.s
    all_goals
     have HP:=hid hp;clear hp;go_wp2_with fail;refine aC (by kernel_rfl) (by kernel_rfl) ?_
     repeat(go_big_quiet_step ((go_at_call 193;exact Calls.bMv (rZ _ _ _ _ _ HP.o))))
     refine wpQuiet_nil ?_;intro _ hw';obtain⟨nq,hw''⟩:=hw';subst hw'';go_wp2_with fail
    ·go_ret;refine⟨bW ?_,hB.bMt _⟩;have:=kI l (k+1) (by rw[HV.o];simp[okB,HP.o]);simp[this]
    ·have hx:x.a<y.a+y.n:=by assumption
     go_ret;refine⟨bW ?_,hB.bMt _⟩;have:=kI l (k+1) (by rw[HV.o];simp[okB];omega);simp[this]
    ·have hx:y.a+y.n<=x.a:=by assumption
     go_roundw
     case rel=>exact⟨k+1,by omega,by go_num,by rw[HV.o,HH.o];simp[okB,HP.o,hx],hB.bMt _⟩
     case measure=>simp[intOf];omega
  ·have HV:=hid hv;clear hv;go_wp2;go_ret;refine⟨bW ?_,hB⟩;have:=HV.o;rw[List.take_of_length_le (by omega)]at this;simp[this]
theorem mY (l:List E) (a:Option Addr) (c:Nat) (w:World) (r:Bool) (hv:aI l=r) (hr:Rd w a l) (hw:wfL l):
  Calls Tryz.prog 174 #[.slice a l.length c] w fun e w'=>e= .returned (.bool r)/\Below w.heap.size w w':=by
 subst hv;exact aTy l a c w hr hw
theorem aZq (x:E) (f t:Int) (w:World) (hx:okB x=true) (f0:0<=f) (f1:f<=131072) (t0:0<=t) (t1:t<=131072):
  Calls Tryz.prog 220 #[.agg #[.int .i64 x.a,.int .i64 x.n,.int .i64 x.s],.int .i64 f,.int .i64 t] w fun e w'=>
   e= .returned (.tuple #[.agg #[.int .i64 (bN x f t).a,.int .i64 (bN x f t).n,.int .i64 (bN x f t).s],.bool (bR x f t)])/\Below w.heap.size w w':=by
 obtain⟨c1,c2,c3,c4,c5⟩:=(aD _).1 hx;clear hx;go_enter Tryz.func220,Tryz.ntmps220;go_wp2_with fail;refine aC (by kernel_rfl) (by kernel_rfl) ?_
 repeat(go_big_quiet_step (fail))
 refine wpQuiet_nil ?_;intro _ hw';obtain⟨nq,hw''⟩:=hw';subst hw'';go_wp2_with fail
 all_goals
  first|have hM:max x.a f=x.a:=by omega|have hM:max x.a f=f:=by omega
  first|have hm:min (x.a+x.n) t=x.a+x.n:=by omega|have hm:min (x.a+x.n) t=t:=by omega
  refine bodyPost_ret (v:= .tuple #[.agg #[.int .i64 (bN x f t).a,.int .i64 (bN x f t).n,.int .i64 (bN x f t).s],.bool (bR x f t)]) ?_ rfl ⟨rfl,?_⟩
  ·simp[results,Tryz.results220,go_sem,bN,bR,hM,hm]
  ·(repeat(first|exact Below.refl _ _|assumption|refine Below.bMt ?_ _|refine Below.bMq ?_ _|refine Below.setCell ?_ (by simp) _|refine Below.drew ?_))
theorem bDn (x:E) (f t:Int) (r:Bool) (w:World) (hr:bR x f t=r) (hx:okB x=true) (f0:0<=f) (f1:f<=131072) (t0:0<=t) (t1:t<=131072):
  Calls Tryz.prog 220 #[.agg #[.int .i64 x.a,.int .i64 x.n,.int .i64 x.s],.int .i64 f,.int .i64 t] w fun e w'=>
   e= .returned (.tuple #[.agg #[.int .i64 (bN x f t).a,.int .i64 (bN x f t).n,.int .i64 (bN x f t).s],.bool r])/\Below w.heap.size w w':=by
 subst hr;exact aZq x f t w hx f0 f1 t0 t1
theorem nC (l:List E) (f t:Int) (a:Option Addr) (c:Nat) (w:World) (hr:Rd w a l) (hl:l.length<=100000000) (hok:∀ x∈l,okB x=true) (f0:0<=f) (f1:f<=131072) (t0:0<=t) (t1:t<=131072):
  Calls Tryz.prog 194 #[.slice a l.length c,.int .i64 f,.int .i64 t] w fun e w'=>∃ v,e= .returned v/\aG w' w.heap.size v (aJ l f t)/\Below w.heap.size w w':=by
 obtain⟨i0,hi,hz0,hz1,hz2⟩:=info_parts kV;have HO:=hid hok;clear hok;go_enter Tryz.func194,Tryz.ntmps194;go_wp2;go_loopw [7,8] (fun v i wr=>∃ k:Nat,k<=l.length/\i= .int .i64 k/\aG wr w.heap.size v (aJ (l.take k) f t)/\Below w.heap.size w wr) (fun _ i _=>l.length-(intOf i).toNat)
 case atStart=>exact⟨0,Nat.zero_le _,rfl,aG.nil _ _,Below.refl _ _⟩
 case round=>
  obtain⟨k,hk,rfl,ho,hB⟩:=hrel;by_cases hlt:k<l.length
  ·obtain ⟨b,o,rfl,hat⟩:=(hr.keep hB).at (by omega);obtain⟨h1,h2,h3⟩:=hat k _ (List.getElem?_eq_getElem hlt);have HX:=hid (HO.o _ (List.getElem_mem hlt));have HT:=hid (aPt l f t k hlt);have hln:=bU (l.take k) f t;have htl:=List.length_take_le k l;generalize l[k]=x at *;generalize aJ (l.take k) f t=R at *;have HR:=hid ho;clear hat hr ho;cases b1:bR x f t
   all_goals
    have B1:=hid b1;clear b1;go_wp2_with fail;refine(bDn _ _ _ _ _ B1.o HX.o (by omega) (by omega) (by omega) (by omega)).mono ?_;rintro e w2 ⟨rfl,hb1⟩;have hB2:=hB.on hb1;have hsz:=hB2.size;have HR2:=hid (HR.o.keep hb1);clear hb1
   ·go_wp2_with fail;go_roundw
    case rel=>exact⟨k+1,by omega,by go_num,by rw[HT.o,B1.o];exact HR2.o.keep ((Below.refl _ _).bMq _),hB2.bMq _⟩
    case measure=>simp[intOf];omega
   ·go_wp2_with (at_builtin;refine aM _ rfl _ _ 76 rfl w.heap.size 81 i0 (.agg #[.int .i64 0,.int .i64 0,.int .i64 0]) 3 24 Tryz.underlying76 hi hz0 hz1 hz2 rfl (by decide) _ _ _ rfl (World.ownsRow.alloc (aG.keep HR2.o ((Below.refl _ _).bMq _)) _) ⟨w2.heap.size+1,0,none⟩ 1 1 (E.cells (bN x f t)) rfl rfl (rF _ _ (by simp) _ _) (bX _) (by first|omega|(simp only[List.length_nil,List.length_append,List.length_cons];omega)) (by first|(simp only[maxLen];omega)|(simp only[maxLen,List.length_nil,List.length_append,List.length_cons];omega)) (by simp only[World.size_alloc];omega) ?_;intro v1 w1 hown1 hgrow1 hwhere1)
    go_roundw
    case rel=>
     refine⟨k+1,by omega,by go_num,by rw[HT.o,B1.o];exact aG.snoc hown1 (by omega),((hB2.bMq _).bMq _).bMu hgrow1 fun j hj=>(HR2.o.lt j hj).1⟩
    case measure=>simp[intOf];omega
  ·go_wp2;go_ret;rw[List.take_of_length_le (by omega)]at ho;exact⟨_,rfl,ho,hB⟩
end Go.Proofs.YtaiklhbakldfhaaGreat
