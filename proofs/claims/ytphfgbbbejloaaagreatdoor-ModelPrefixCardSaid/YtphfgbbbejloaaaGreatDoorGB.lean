/- Extents as the model has them; the contracts of the small functions of package extent and of its.. Conditions: as each theorem says. -/
import Derived.Test.YtphfgbbbejloaaaGreatDoorRows
import Derived.Test.YtphfgbbbejloaaaGreatDoorGA
import Derived.Lib.Hide
import Derived.Lib.SmallJoins
set_option linter.unusedSimpArgs false
set_option linter.unusedVariables false
set_option maxRecDepth 100000
set_option maxHeartbeats 16000000
namespace Go.Proofs.YtphfgbbbejloaaaGreatDoor
open Go.RowKit
open Go.Proofs.Tryz
structure KPq where
def ep:KPq:=⟨⟩
instance:CoeFun KPq (λ_=>Nat->Array Value->World->(Ending->World->Prop)->Prop):=⟨λ_=>Calls prog⟩
theorem aGd{P:Prop}(h:P:=by first|omega|(simp only[List.length_nil,Qg,List.length_cons];omega)):P:=h
theorem aAp{P:Prop}(h:P:=by first|(simp only[maxLen];omega)|(simp only[maxLen,List.length_nil,Qg,List.length_cons];omega)):P:=h
theorem sh33{P:Prop}(h:P:=by simp only[World.size_alloc];omega):P:=h
theorem aAr{P:Prop}(h:P:=by
  refine wqn λnq=> ?_;generalize hW:World.next _ nq=W;have hb:Below w w W:=by rw[<-hW];exact(bR.aIw _).aJd _
  have x1:W (cw w 0)=x.a:=by rw[<-hW];simp
  have x2:W (cw w 1)=x.n:=by rw[<-hW];simp
  have x3:W (cw w 2)=x.s:=by rw[<-hW];simp
  have ho2:=hD (ho.o.keep hb);clear hW ho
  go_wp2_with (at_builtin;refine aO _ rfl _ _ 52 rfl B 128 i0 (.agg #[oo,oo,oo]) 3 24 underlying52 hi hz0 hz1 hz2 rfl dE _ _ _ rfl (Qu ho2.o _) (cw W 0) 1 1 (E.cells x) rfl rfl ?c1 ?c2 (by simp only[Qg,List.length_cons,List.length_nil];omega) (by simp only[Qg,List.length_cons,List.length_nil,maxLen];omega) ?c5 ?_)
  case c1=>
   intro j u hj
   match j,hj with
   |0,hj=>simp[E.cells]at hj;subst hj;simp[Addr.add]
   |1,hj=>simp[E.cells]at hj;subst hj;simp[Addr.add]
   |2,hj=>simp[E.cells]at hj;subst hj;simp[Addr.add]
  case c2=>exact Fq [x]
  case c5=>have:=hb.size;simp;omega
  intro v' w1 hown' hgrow hwhere;go_wp2;go_ret;refine⟨v',rfl,aG.snoc hown' sM,?_,?_⟩
  ·exact(hb.aIw _).grow hgrow
  ·exact hwhere.imp id λh=>⟨_,h,by have:=hb.size;simp;omega⟩
  ):P:=h
theorem aAq{P:Prop}(h:P:=by
  go_wp2_with fail;refine wpr ?_
  repeat(go_big_quiet_step (fail))
  refine wqn λnq=> ?_;have hB2:=hB.aJd nq;have hsz:=hB2.size;have HR2:=hD (HR.o.keep (World.aIy wr nq))
  go_wp2_with (at_builtin;refine aO _ rfl _ _ 52 rfl w.heap.size 128 i0 (.agg #[oo,oo,oo]) 3 24 underlying52 hi hz0 hz1 hz2 rfl dE _ _ _ rfl (Qu HR2.o _) (cw ((wr.next nq).heap.size) 0) 1 1 (E.cells x) rfl rfl (sI _ _ sM _ _) (dF _) aGd aAp sh33 ?_;intro v1 w1 hown1 hgrow1 hwhere1)
  go_roundw
  case rel=>exact⟨k+1,oM,by go_num,by rw[HT.o,HP.o];exact aG.snoc hown1 sM,(hB2.aIw _).aJa hgrow1 λj hj=>(HR2.o.lt j hj).1⟩
  case measure=>simp[intOf];omega
  ):P:=h
theorem aGf{P:Prop}(h:P:=by
  have hf:=hD (HF.o.1 (by simp[hits];omega));go_wp2_with fail;refine wpr ?_
  repeat(go_big_quiet_step (fail))
  refine wqn λnq=> ?_;go_wp2_with fail;go_roundw
  case rel=>exact⟨k+1,oM,by go_num,hf.o,hB.aJd _⟩
  case measure=>simp[intOf];omega
  ):P:=h
theorem aGe{P:Prop}(h:P:=by
  have HV:=hD hv;clear hv;go_wp2;go_ret;refine⟨aU ?_,hB⟩;have:=HV.o;rw[Qq oM]at this;simp[this]
  ):P:=h
theorem sh29{P:Prop}(h:P:=by
  go_wp2
  all_goals
   go_ret;exact⟨aU (by simp only[fA,Qc,Bool.false_eq_true,false_iff];omega),rfl⟩
  ):P:=h
theorem sh30{P:Prop}(h:P:=by
  cases hm:vM.ownBlock with
  |none=>exact .inl rfl
  |some j=>exact .inr (by rw[e];simp)
  ):P:=h
theorem aU{a b:Bool}(h:a=true↔b=true):Ending.returned (.bool a)= .returned (.bool b):=by rw[Qw.2 h]
theorem pG{k:IntKind}{a b:Int}(h:a=b):Ending.returned (.int k a)= .returned (.int k b):=by rw[h]
theorem Nz(a n s:Int)(w:Wd)(ha: -9223372036854775808<=a)(ha':a<=9223372036854775807)(hs0:0<=s)(hs:s<=100000):
  ep 289 #[a,n,s] w λe w'=>e= .returned (.bool (fA a n s))/\w=w':=by
 go_enter func289,ntmps289;exact sh29
theorem OE(a n s:Int)(w:Wd)(ha: -9223372036854775808<=a)(ha':a<=9223372036854775807)(hs0: -9223372036854775808<=s)(hs:s<=9223372036854775807):
  ep 258 #[.agg #[a,n,s]] w (RB w (.bool (jY a n s))):=by
 go_enter func258,ntmps258
 go_wp2_with (go_at_call 289;refine(Nz _ _ _ _ oM oM oM oM).m ?_;rintro e w' ⟨rfl,rfl⟩)
 all_goals
  go_ret;refine⟨aU ?_,bR.aIw _⟩
  first|(simp[jY, *];done)|(simp only[jY,Bool.false_eq_true,false_iff,Qd,Qc];omega)
theorem JB(a n s:Int)(w:Wd)(h0: -9223372036854775808<=a+n)(h1:a+n<=9223372036854775807):
  ep 259 #[.agg #[a,n,s]] w (RB w (.int .i64 (a+n))):=by
 go_enter func259,ntmps259;go_wp2;go_ret;exact⟨rfl,bR.aIw _⟩
structure At(w:Wd)(b o:Nat)(k:Nat)(x:E):Prop where
 a:w (cw b (o+k*3))=x.a
 n:w (cw b (o+k*3+1))=x.n
 s:w (cw b (o+k*3+2))=x.s
def Rd(w:Wd)(a:OA)(l:List E):Prop:=
 l.length<=46912496118443/\(l=[]∨ ∃b o,a=cw b o/\ ∀k x,l[k]? =some x->At w b o k x)
theorem Bz(a n s:Int)(w:Wd)(r:Bool)(hr:jY a n s=r)(ha: -9223372036854775808<=a)(ha':a<=9223372036854775807)(hs0: -9223372036854775808<=s)(hs:s<=9223372036854775807):
  ep 258 #[.agg #[a,n,s]] w (RB w (.bool r)):=by
 subst hr;exact OE a n s w ha ha' hs0 hs
theorem At.keep{w w':Wd}(h:Below w w w'){b o k:Nat}{x:E}(ha:At w b o k x):At w' b o k x:=⟨h.keep ha.a,h.keep ha.n,h.keep ha.s⟩
theorem Rd.keep{w w':Wd}(h:Below w w w'){a:OA}{l:List E}(hr:Rd w a l):Rd w' a l:=
 ⟨hr.1,hr.2.imp id λ⟨b,o,ha,hat⟩=>⟨b,o,ha,λk x hk=>(hat k x hk).keep h⟩⟩
theorem Rd.at{w:Wd}{a:OA}{l:List E}(hr:Rd w a l)(h:0<l.length):∃b o,a=cw b o/\ ∀k x,l[k]? =some x->At w b o k x:=
 hr.2.resolve_left (by intro e;rw[e]at h;simp at h)
theorem Gq(l:List E)(a:OA)(c:Nat)(w:Wd)(hr:Rd w a l)(hw:wfL l):
  ep 216 #[.slice a l c] w (RB w (.bool (aH l))):=by
 have hlen:=hr.1;go_enter func216,ntmps216;go_wp2;go_loopw [7] (λi wr=>∃k:Nat,k<=l.length/\i= .int .i64 k/\aH (l.take k)=true/\Below w w wr) (λi _=>l.length-(intOf i).toNat)
 case atStart=>exact⟨0,Yf _,rfl,rfl,bR⟩
 case round=>
  obtain⟨k,hk,rfl,hv,hB⟩:=hrel
  rename_i W
  by_cases hlt:k<l.length
  ·obtain ⟨b,o,rfl,hat⟩:=(hr.keep hB).at oM;obtain⟨h1,h2,h3⟩:=hat k _ (Qa hlt);obtain⟨⟨b1,b2⟩,⟨b3,b4⟩,⟨b5,b6⟩⟩:=hw _ (Qm hlt);have HH:=hD hv;clear hr;by_cases h0:k<=0
   ·have HV:=hD (zR l k h0 hlt);have hd:decide (0<k)=false:=by simp;omega
    generalize l[k]=x at *;clear hat hv;cases hp:jY x.a x.n x.s
    all_goals
     have HP:=hD hp;clear hp;go_wp2_with fail;refine wpr ?_
     repeat(go_big_quiet_step ((go_at_call 258;exact Calls.aJb (Bz _ _ _ _ _ HP.o oM oM oM oM))))
     refine wqn λnq=> ?_;go_wp2_with fail
    ·go_ret;refine⟨aU ?_,(hB.aIw _).aJd _⟩;have:=jW l (k+1) (by rw[HV.o];exact HP.o);simp[this]
    ·go_roundw
     case rel=>exact⟨k+1,oM,by go_num,by rw[HV.o];exact HP.o,(hB.aIw _).aJd _⟩
     case measure=>simp[intOf];omega
   ·obtain ⟨g1,g2,g3⟩:=hat (k-1) _ (Qa oM);obtain⟨c1,c2,c3,c4,c5⟩:=(aB _).1 (Rn hv (show k-1<k by omega) oM);have HV:=hD (Co l k hlt oM);have hd:decide (0<k)=true:=by simp;omega
    generalize l[k]=x at *;generalize l[k-1]=y at *;clear hat hv;cases hp:jY x.a x.n x.s
    all_goals
     have HP:=hD hp;clear hp;go_wp2_with fail;refine wpr ?_
     repeat(go_big_quiet_step (first|(go_at_call 258;exact Calls.aJb (Bz _ _ _ _ _ HP.o oM oM oM oM))|(go_at_call 259;exact Calls.aJb (JB _ _ _ _ oM oM))))
     refine wqn λnq=> ?_;go_wp2_with fail
    ·go_ret;refine⟨aU ?_,(hB.aIw _).aJd _⟩;have:=jW l (k+1) (by rw[HV.o];simp[okB,HP.o]);simp[this]
    ·have hx:x.a<y.a+y.n:=by assumption
     go_ret;refine⟨aU ?_,(hB.aIw _).aJd _⟩;have:=jW l (k+1) (by rw[HV.o];simp[okB];omega);simp[this]
    ·have hx:y.a+y.n<=x.a:=by assumption
     go_roundw
     case rel=>exact⟨k+1,oM,by go_num,by rw[HV.o,HH.o];simp[okB,HP.o,hx],(hB.aIw _).aJd _⟩
     case measure=>simp[intOf];omega
  ·exact aGe
def E.cells(x:E):List Value:=[.int .i64 x.a,.int .i64 x.n,.int .i64 x.s]
def bI(l:List E):List Value:=l.flatMap E.cells
theorem dH(l:List E):(bI l).length=l.length*3:=by
 induction l with
 |nil=>rfl
 |cons x r ih=>simp only[bI,List.flatMap_cons,Qg,List.length_cons]at ih ⊢;rw[ih];simp[E.cells];omega
theorem eO(l r:List E):bI (l++r)=bI l++bI r:=by simp[bI]
theorem zJ(l:List E):∀(k:Nat) (x:E),l[k]? =some x->(bI l)[k*3]? =some (.int .i64 x.a)/\(bI l)[k*3+1]? =some (.int .i64 x.n)/\(bI l)[k*3+2]? =some (.int .i64 x.s):=by
 induction l with
 |nil=>intro k x h;simp at h
 | cons y r ih=>
  intro k x h
  cases k with
  |zero=>simp at h;subst h;simp[bI,E.cells]
  | succ k=>
   obtain⟨h1,h2,h3⟩:=ih k x (by simpa using h);have e:bI (y::r)=[.int .i64 y.a,.int .i64 y.n,.int .i64 y.s]++bI r:=rfl;rw[e];refine⟨?_,?_,?_⟩
   ·rw[List.getElem?_append_right pO,<-h1];congr 1;simp;omega
   ·rw[List.getElem?_append_right pO,<-h2];congr 1;simp;omega
   ·rw[List.getElem?_append_right pO,<-h3];congr 1;simp;omega
theorem Fq(l:List E):∀u∈bI l,u.oneCell'=true:=by
 intro u hu;simp only[bI,List.mem_flatMap,E.cells]at hu;obtain⟨x,_,hx⟩:=hu;simp at hx;rcases hx with rfl|rfl|rfl <;> rfl
def aG(w:Wd)(B:Nat)(v:Value)(l:List E):Prop:=w.ownsRow B 128 3 v l.length (bI l)
theorem aG.nil(w:Wd)(B:Nat):aG w B sn []:=World.ownsRow_nil _ _ _ _
theorem aG.lt{w:Wd}{B:Nat}{v:Value}{l:List E}(h:aG w B v l):∀k,v.ownBlock=some k->B<=k/\k<w.heap.size:=World.ownsRow.lt h
theorem aG.mono{w:Wd}{B B':Nat}{v:Value}{l:List E}(h:aG w B v l)(hB:B'<=B):aG w B' v l:=
 ⟨h.1,h.2.imp id λ⟨g,cap,cur,hv,hg,r⟩=>⟨g,cap,cur,hv,Nat.le_trans hB hg,r⟩⟩
theorem aG.keep{w w':Wd}{B:Nat}{v:Value}{l:List E}(h:aG w B v l)(hb:Below w w w'):aG w' B v l:=
 World.ownsRow.kept h (row:=none) ⟨hb.os,hb.tape,hb.output,hb.size,λk hk _=>hb.block k hk⟩ (by cases hv:v.ownBlock <;> simp)
theorem aG.other{w w':Wd}{B:Nat}{v:Value}{l:List E}{row:Option Nat}(h:aG w B v l)(hg:w.grownBy w' row)(hne:v.ownBlock=none∨v.ownBlock≠row):aG w' B v l:=
 World.ownsRow.kept h hg hne
theorem aG.form{w:Wd}{B:Nat}{v:Value}{l:List E}(h:aG w B v l):
  (v=sn/\l=[])∨ ∃g c,v= .slice (cw g 0) l c/\B<=g/\g<w.heap.size/\l.length<=c/\c<=maxLen/\(∀k x,l[k]? =some x->At w g 0 k x)/\ ∀i,w.frozen? (cw g i)=false:=by
 rcases h.2 with ⟨rfl,hn⟩|⟨g,cap,cur,rfl,hb,hg,hn,hc,hs,ht⟩
 ·exact .inl ⟨rfl,Qz hn⟩
 ·refine .inr ⟨g,cap,rfl,hb,(Array.getElem?_eq_some_iff.1 hg).1,hn,hc,λk x hk=> ?_,λi=>World.ownsRow.frozenAt h i⟩;have hk':k<l.length:=(Qx.1 hk).1;obtain⟨h1,h2,h3⟩:=zJ l k x hk;have c:=λj hj=>Ys (cap:=cap) h j hj;refine⟨?_,?_,?_⟩
  ·rw[Nat.zero_add,c _ oM,h1]
  ·rw[Nat.zero_add,c _ oM,h2]
  ·rw[Nat.zero_add,c _ oM,h3]
theorem aG.rd{w:Wd}{B:Nat}{v:Value}{l:List E}(h:aG w B v l)(hl:l.length<=46912496118443):∃a c,v= .slice a l c/\Rd w a l:=by
 rcases h.form with ⟨rfl,rfl⟩|⟨g,c,rfl,_,_,_,_,hat,_⟩
 ·exact⟨_,_,rfl,sM,.inl rfl⟩
 ·exact⟨_,_,rfl,hl,.inr ⟨g,0,rfl,hat⟩⟩
theorem aG.snoc{w:Wd}{B n:Nat}{v:Value}{l:List E}{x:E}(h:w.ownsRow B 128 3 v n (bI l++x.cells))(hn:n=l.length+1):aG w B v (l++[x]):=by
 subst hn;unfold aG;rw[eO,Qg];have:bI [x]=x.cells:=by simp[bI]
 rw[this];exact h
theorem yL(l:List E)(y:E)(n:Int):(bI (l++[y])).set (l.length*3+1) (.int .i64 (y.n+n))=bI (l++[y.longer n]):=by
 rw[eO,eO,List.set_append_right _ _ (by rw[dH];omega),dH,show l.length*3+1-l.length*3=1 by omega];rfl
theorem kK:(prog.info? 128).map (λi=>(i.zero,i.size,i.bytes))=some (some (.agg #[oo,oo,oo]),3,24):=kR
theorem Zh(a n s r:Int)(w:Wd)(hr:a+n=r)(h0: -9223372036854775808<=a+n)(h1:a+n<=9223372036854775807):
  ep 259 #[.agg #[a,n,s]] w (RB w r):=by
 subst hr;exact JB a n s w h0 h1
theorem WZ(v:Value)(x:E)(B:Nat)(w:Wd)(hown:aG w B v [])(hB:B<=w.heap.size):
  ep 217 #[v,.agg #[x.a,x.n,x.s]] w λe w'=>
   ∃v',e= .returned v'/\aG w' B v' [x]/\w.grownBy w' v.ownBlock/\(v'.ownBlock=v.ownBlock∨ ∃k,v'.ownBlock=some k/\w.heap.size<=k):=by
 obtain ⟨i0,hi,hz0,hz1,hz2⟩:=info_parts kK;obtain⟨a,c,rfl⟩:∃a c,v= .slice a 0 c:=by
  rcases hown.form with ⟨rfl,_⟩|⟨g,c,rfl,_⟩
  ·exact⟨_,_,rfl⟩
  ·exact⟨_,_,rfl⟩
 have ho:=hD hown;clear hown;go_enter func217,ntmps217;go_wp2_with fail;refine wpr ?_
 repeat(go_big_quiet_step (fail))
 exact aAr
theorem aAv(v:Value)(l:List E)(y x:E)(B:Nat)(w:Wd)(hown:aG w B v (l++[y]))(hB:B<=w.heap.size)(hl:l.length<=1000000000)(hy:okB y=true)(hx:okB x=true)(hm:meets y x=false):
  ep 217 #[v,.agg #[x.a,x.n,x.s]] w λe w'=>
   ∃v',e= .returned v'/\aG w' B v' (l++[y]++[x])/\w.grownBy w' v.ownBlock/\(v'.ownBlock=v.ownBlock∨ ∃k,v'.ownBlock=some k/\w.heap.size<=k):=by
 obtain⟨i0,hi,hz0,hz1,hz2⟩:=info_parts kK;obtain⟨g,c,rfl,hg1,hg2,hc1,hc2,hat,hfz⟩:=(hown.form).resolve_left sM;obtain⟨y1,y2,y3⟩:=hat l.length y sM;simp only[Qg,List.length_cons,List.length_nil,Nat.zero_add]at y1 y2 y3 hc1;rw[aB]at hy hx;obtain⟨e1,e2,e3,e4,e5⟩:=hy;obtain⟨f1,f2,f3,f4,f5⟩:=hx;have hlen:(l++[y]).length=l.length+1:=by simp
 rw[hlen]at hown ⊢;have ho:=hD hown;clear hat hown hlen;have hd:decide (0<=l.length)=true:=by simp
 by_cases ha:y.a+y.n=x.a
 ·have hs:y.s+y.n≠x.s:=by intro h;simp[meets,ha,h]at hm
  have hsb:(y.s+y.n==x.s)=false:=by simpa using hs
  have HA:=hD ha;clear ha hm;have hab:(x.a==x.a)=true:=by simp
  go_enter func217,ntmps217;go_wp2_with fail;refine wpr ?_
  repeat(go_big_quiet_step ((go_at_call 259;exact Calls.aJb (Zh _ _ _ x.a _ HA.o oM oM))))
  exact aAr
 ·have hab:(y.a+y.n==x.a)=false:=by simpa using ha
  have HA:=hD ha;clear ha hm;go_enter func217,ntmps217;go_wp2_with fail;refine wpr ?_
  repeat(go_big_quiet_step ((go_at_call 259;exact Calls.aJb (JB _ _ _ _ oM oM))))
  exact aAr
theorem WY(v:Value)(l:List E)(y x:E)(B:Nat)(w:Wd)(hown:aG w B v (l++[y]))(hl:l.length<=1000000000)(hy:okB y=true)(hx:okB x=true)(hm:meets y x=true):
  ep 217 #[v,.agg #[x.a,x.n,x.s]] w λe w'=>
   e= .returned v/\aG w' B v (l++[y.longer x.n])/\w.grownBy w' v.ownBlock:=by
 obtain⟨g,c,rfl,hg1,hg2,hc1,hc2,hat,hfz⟩:=(hown.form).resolve_left sM;obtain⟨y1,y2,y3⟩:=hat l.length y sM;simp only[Qg,List.length_cons,List.length_nil,Nat.zero_add]at y1 y2 y3 hc1;have hf:=hfz (l.length*3+1);rw[aB]at hy hx;obtain⟨e1,e2,e3,e4,e5⟩:=hy;obtain⟨f1,f2,f3,f4,f5⟩:=hx;simp only[meets,Qd,Qc]at hm;obtain⟨ha,hs⟩:=hm;have hlen:(l++[y]).length=l.length+1:=by simp
 rw[hlen]at hown ⊢;have ho:=hD hown;have hd:decide (0<=l.length)=true:=by simp
 have HA:=hD ha;have hab:(x.a==x.a)=true:=by simp
 have hsb:(y.s+y.n==x.s)=true:=by simpa using hs
 clear hat hown hlen ha hs hfz;go_enter func217,ntmps217;go_wp2_with fail;refine wpr ?_
 repeat(go_big_quiet_step ((go_at_call 259;exact Calls.aJb (Zh _ _ _ x.a _ HA.o oM oM))))
 refine wqn λnq=> ?_;generalize hW:World.next _ nq=W;have hb:Below w w W:=by rw[<-hW];exact(bR.aIw _).aJd _
 have x1:W (cw w 0)=x.a:=by rw[<-hW];simp
 have x2:W (cw w 1)=x.n:=by rw[<-hW];simp
 have x3:W (cw w 2)=x.s:=by rw[<-hW];simp
 have z2:=hb.keep y2;have hfr:=hb.aJc y2 hf;have ho2:=hD (ho.o.keep hb);clear hW ho y1 y2 y3 hf;go_wp2_with fail;refine aAe 10 ?_;simp only[List.take_succ_cons,List.take_zero,List.drop_succ_cons,List.drop_zero]
 repeat(go_big_quiet_step (fail))
 refine wqn λnq=> ?_;have hb2:=World.aIy W nq;have ho3:=hD (ho2.o.keep hb2);clear ho2;go_wp2_with fail;go_ret;have h3:=ho3.o;unfold aG at h3;rw[show(l++[y]).length=l.length+1 by simp]at h3;have hst:=World.ownsRow.stored h3 (l.length*3+1) (.int .i64 (y.n+x.n));rw[yL]at hst;refine⟨rfl,?_,(hb.on hb2).grow hst.2⟩;unfold aG;rw[show(l++[y.longer x.n]).length=l.length+1 by simp];exact hst.1
def aHp(w:Wd)(B:Nat)(v:Value)(l:List E)(e:Ending)(w':Wd):Prop:=
 ∃v',e= .returned v'/\aG w' B v' l/\w.grownBy w' v.ownBlock/\(v'.ownBlock=v.ownBlock∨ ∃k,v'.ownBlock=some k/\w.heap.size<=k)
theorem Xa(v:Value)(l:List E)(x:E)(B:Nat)(w:Wd)(hown:aG w B v l)(hB:B<=w.heap.size)(hl:l.length<=1000000000)(hy:∀y∈l,okB y=true)(hx:okB x=true):
  ep 217 #[v,.agg #[x.a,x.n,x.s]] w (aHp w B v (fC l x)):=by
 by_cases h:l=[]
 ·subst h;exact WZ v x B w hown hB
 ·obtain⟨l',y,rfl⟩:=fB l h;have hl':l'.length<=1000000000:=by simp at hl;omega
  cases hm:meets y x
  ·rw[eQ _ _ _ hm];exact aAv v l' y x B w hown hB hl' (hy y sM) hx hm
  ·rw[dJ _ _ _ hm];exact(WY v l' y x B w hown hl' (hy y sM) hx hm).mono λe w' ⟨h1,h2,h3⟩=>⟨v,h1,h2,h3,.inl rfl⟩
open Go.ChangeShapes Go.WideShapes Go.ChangeAt Go.Deep
theorem own:ownKnob prog.godebug=none:=kR
theorem laidOut:laidOutB prog=true:=kR
section
variable{H:Type}{enc:TypeId × Value->H}{P:Program}{w:Wd}{base:Nat}{spare:Nat->Bool}{held:Bool}
theorem Ar{t e:TypeId}{fs:Array Field}{fuel:Nat}{cs:List Value}{x:DataW H × List MemPlace}(ht:P.underlying t=some (.slice e))(he:P.underlying e=some (.struct fs))
  (hone:oneCellFields P fs=true) (hC:P.cellsOf e=fs.size) (h:DataW.trod enc P w base spare held fuel t cs=some x):
  (cs=[.slice none 0 0]/\x=(.nil,[]))∨
  ∃(a:Addr) (len cap m:Nat) (D:Nat->DataW H) (Pl:Nat->List MemPlace),cs=[.slice (some a) len cap]/\base<=a.block/\len<=cap/\cap<=maxLen/\m=(if spare a.block then cap else len)/\
   x=(.slice ((List.range len).map D) ((List.range (m-len)).map λj=>D (len+j)),MemPlace.row a (m*fs.size)++(List.range m).flatMap Pl)/\
   ∀i,i<m-> ∃(ys:List (DataW H × List MemPlace)) (n:Nat),D i= .agg (ys.map (·.1))/\Pl i=ys.flatMap (·.2)/\ys.length=fs.size/\
    ∀(j:Nat) (f:Field),fs[j]? =some f-> ∃(v:Value) (y:DataW H × List MemPlace),w.cell? (a.add (i*fs.size+j))=some v/\ys[j]? =some y/\DataW.trod enc P w base spare held n f.type [v]=some y:=by
 rcases open_slice ht h with h0|⟨a,len,cap,m,n,D,Pl,hcs,hb,hl,hm,hmm,hx,hi⟩
 ·exact .inl h0
 ·refine .inr ⟨a,len,cap,m,D,Pl,hcs,hb,hl,hm,hmm,by rw[hC]at hx;exact hx,λi him=> ?_⟩;obtain⟨cs',hc,ht'⟩:=hi i him;rw[hC]at hc;obtain⟨ys,n',hn',hy,hlen,hyl,hf⟩:=DataW.trod_struct he ht';obtain⟨_,hcl,hat⟩:=World.cells?_some hc;simp only[Prod.mk.injEq]at hy;refine⟨ys,n',hy.1,hy.2,hyl,λj f hj=> ?_⟩;obtain⟨ho,hk⟩:=hone_of hone j f hj;have hjl:j<fs.size:=(Array.getElem?_eq_some_iff.1 hj).1;have hcell:=hat j hjl;have hv:cs'[j]? =some (cs'[j]'(by omega)):=Qa oM;have h1:=hf j f hj;rw[ho,hk]at h1;have hone':(cs'.drop j).take 1=[cs'[j]'(by omega)]:=by
   rw[List.drop_eq_getElem_cons oM];rfl
  rw[hone']at h1;have hys:ys[j]? =some (ys[j]'(by omega)):=Qa oM;refine⟨_,_,?_,hys,h1.trans hys⟩;rw[<-Go.Deep.add_add,hcell,hv]
end
section
variable{H:Type}{enc:TypeId × Value->H}{w:Wd}
end
theorem Vw(l:List E)(a:OA)(c:Nat)(w:Wd)(r:Bool)(hv:aH l=r)(hr:Rd w a l)(hw:wfL l):
  ep 216 #[.slice a l c] w (RB w (.bool r)):=by
 subst hv;exact Gq l a c w hr hw
def Listed(w:Wd)(l:List E)(e:Ending)(w':Wd):Prop:= ∃v,e= .returned (.tuple #[v,oo])/\aG w' w v l/\Below w w w'
theorem XZ(l:List E)(a:OA)(c:Nat)(w:Wd)(hr:Rd w a l)(hw:wfL l)(hl:l.length<=1000000000)(hv:aH l=true):
  ep 161 #[.slice a l c] w (Listed w (joinL l)):=by
 have HV:=hD hv;have HO:=hD (aL hv);clear hv;go_enter func161,ntmps161
 go_wp2_with (go_at_call 216;refine(Vw _ _ _ _ _ HV.o hr hw).m ?_;rintro e w' ⟨rfl,hb⟩)
 go_loopw [4,12] (λv i wr=>∃k:Nat,k<=l.length/\i= .int .i64 k/\aG wr w v (joinL (l.take k))/\Below w w wr) (λ_ i _=>l.length-(intOf i).toNat)
 case atStart=>exact⟨0,Yf _,rfl,aG.nil _ _,hb⟩
 case round=>
  obtain⟨k,hk,rfl,ho,hB⟩:=hrel;by_cases hlt:k<l.length
  ·obtain⟨b,o,rfl,hat⟩:=(hr.keep hB).at oM;obtain⟨h1,h2,h3⟩:=hat k _ (Qa hlt);have HX:=hD (HO.o _ (Qm hlt));have HT:=hD (EA l k hlt);have HY:=hD (EB (l.take k) (λx hx=>HO.o x (List.mem_of_mem_take hx)));have hjl:=iV (l.take k);have htl:=List.length_take_le k l;have HW:=hD ho;generalize l[k]=x at *;clear hat ho hr
   go_wp2_with (go_at_call 217;refine(Xa _ _ _ _ _ (aG.keep HW.o (bR.aIw _)) (by have:=hB.size;simp;omega) oM HY.o HX.o).m ?_;rintro e w1 ⟨v1,rfl,ho1,hg1,hw1⟩)
   go_roundw
   case rel=>exact⟨k+1,oM,by go_num,by rw[HT.o];exact ho1,(hB.aIw _).aJa hg1 λj hj=>(HW.o.lt j hj).1⟩
   case measure=>simp[intOf];omega
  ·go_wp2;go_ret2;refine⟨_,rfl,?_,hB⟩;rw[Qq oM]at ho;exact ho
theorem sI(W:Wd)(n:Nat)(hn:n=W.heap.size)(x:E)(t:TypeId):∀j u,(E.cells x)[j]? =some u->(W.alloc (cq #[x.a,x.n,x.s] t)).cell? (((cw n 0):Addr).add j)=some u:=by
 subst hn;intro j u hj
 match j,hj with
 |0,hj=>simp[E.cells]at hj;subst hj;simp[Addr.add]
 |1,hj=>simp[E.cells]at hj;subst hj;simp[Addr.add]
 |2,hj=>simp[E.cells]at hj;subst hj;simp[Addr.add]
theorem dF(x:E):∀u∈E.cells x,u.oneCell'=true:=by
 intro u hu;simp[E.cells]at hu;rcases hu with rfl|rfl|rfl <;> rfl
theorem aAw(a n s:Int)(w:Wd):
  ep 133 #[.agg #[a,n,s]] w (RB w (.bool (jY a n s))):=by
 go_enter func133,ntmps133;go_wp2
 all_goals
  go_ret;exact⟨aU (by rw[vW];simp only[Qc,Bool.false_eq_true,false_iff];omega),bR.aIw _⟩
theorem rT(a n s:Int)(r:Bool)(w:Wd)(h:jY a n s=r):
  ep 133 #[.agg #[a,n,s]] w (RB w (.bool r)):=by
 subst h;exact aAw a n s w
theorem TM(p n:Int)(w:Wd):
  ep 140 #[p,n] w λe w'=>e= .returned (.bool (fA p n 65536))/\w=w':=by
 go_enter func140,ntmps140;exact sh29
theorem WR(p n:Int)(r:Bool)(w:Wd)(h:fA p n 65536=r):
  ep 140 #[p,n] w λe w'=>e= .returned (.bool r)/\w=w':=by
 subst h;exact TM p n w
theorem Oe(l:List E)(a:OA)(c:Nat)(w:Wd)(hr:Rd w a l)(hw:wfL l):
  ep 93 #[.slice a l c] w (RB w (.bool (aH l))):=by
 have hlen:=hr.1;go_enter func93,ntmps93;go_wp2;go_loopw [3] (λi wr=>∃k:Nat,k<=l.length/\i= .int .i64 k/\aH (l.take k)=true/\Below w w wr) (λi _=>l.length-(intOf i).toNat)
 case atStart=>exact⟨0,Yf _,rfl,rfl,bR⟩
 case round=>
  obtain⟨k,hk,rfl,hv,hB⟩:=hrel;by_cases hlt:k<l.length
  ·obtain ⟨b,o,rfl,hat⟩:=(hr.keep hB).at oM;obtain⟨h1,h2,h3⟩:=hat k _ (Qa hlt);have HH:=hD hv;clear hr;by_cases h0:k<=0
   ·have HV:=hD (zR l k h0 hlt);have hd:decide (0<k)=false:=by simp;omega
    generalize l[k]=x at *;clear hat hv;cases hp:jY x.a x.n x.s
    all_goals
     have HP:=hD hp;clear hp;go_wp2_with fail;refine wpr ?_
     repeat(go_big_quiet_step ((go_at_call 133;exact Calls.aJb (rT _ _ _ _ _ HP.o))))
     refine wqn λnq=> ?_;go_wp2_with fail
    ·go_ret;refine⟨aU ?_,hB.aJd _⟩;have:=jW l (k+1) (by rw[HV.o];exact HP.o);simp[this]
    ·go_roundw
     case rel=>exact⟨k+1,oM,by go_num,by rw[HV.o];exact HP.o,hB.aJd _⟩
     case measure=>simp[intOf];omega
   ·obtain ⟨g1,g2,g3⟩:=hat (k-1) _ (Qa oM);obtain⟨c1,c2,c3,c4,c5⟩:=(aB _).1 (Rn hv (show k-1<k by omega) oM);have HV:=hD (Co l k hlt oM);have hd:decide (0<k)=true:=by simp;omega
    generalize l[k]=x at *;generalize l[k-1]=y at *;clear hat hv;cases hp:jY x.a x.n x.s
    all_goals
     have HP:=hD hp;clear hp;go_wp2_with fail;refine wpr ?_
     repeat(go_big_quiet_step ((go_at_call 133;exact Calls.aJb (rT _ _ _ _ _ HP.o))))
     refine wqn λnq=> ?_;go_wp2_with fail
    ·go_ret;refine⟨aU ?_,hB.aJd _⟩;have:=jW l (k+1) (by rw[HV.o];simp[okB,HP.o]);simp[this]
    ·have hx:x.a<y.a+y.n:=by assumption
     go_ret;refine⟨aU ?_,hB.aJd _⟩;have:=jW l (k+1) (by rw[HV.o];simp[okB];omega);simp[this]
    ·have hx:y.a+y.n<=x.a:=by assumption
     go_roundw
     case rel=>exact⟨k+1,oM,by go_num,by rw[HV.o,HH.o];simp[okB,HP.o,hx],hB.aJd _⟩
     case measure=>simp[intOf];omega
  ·exact aGe
theorem mM(l:List E)(a:OA)(c:Nat)(w:Wd)(r:Bool)(hv:aH l=r)(hr:Rd w a l)(hw:wfL l):
  ep 93 #[.slice a l c] w (RB w (.bool r)):=by
 subst hv;exact Oe l a c w hr hw
theorem TE(x:E)(f t:Int)(w:Wd)(hx:okB x=true)(f0:0<=f)(f1:f<=131072)(t0:0<=t)(t1:t<=131072):
  ep 194 #[.agg #[x.a,x.n,x.s],f,t] w λe w'=>
   e= .returned (.tuple #[.agg #[.int .i64 (bT x f t).a,.int .i64 (bT x f t).n,.int .i64 (bT x f t).s],.bool (bY x f t)])/\Below w w w':=by
 obtain⟨c1,c2,c3,c4,c5⟩:=(aB _).1 hx;clear hx;go_enter func194,ntmps194;go_wp2_with fail;refine wpr ?_
 repeat(go_big_quiet_step (fail))
 refine wqn λnq=> ?_;go_wp2_with fail
 all_goals
  first|have hM:max x.a f=x.a:=by omega|have hM:max x.a f=f:=oM
  first|have hm:min (x.a+x.n) t=x.a+x.n:=by omega|have hm:min (x.a+x.n) t=t:=oM
  refine Yg (v:= .tuple #[.agg #[.int .i64 (bT x f t).a,.int .i64 (bT x f t).n,.int .i64 (bT x f t).s],.bool (bY x f t)]) ?_ rfl ⟨rfl,?_⟩
  ·simp[results,results194,go_sem,bT,bY,hM,hm]
  ·(repeat(first|exact bR|assumption|refine Below.aJd ?_ _|refine Below.aIw ?_ _|refine Below.setCell ?_ sM _|refine Below.drew ?_))
theorem Wv(x:E)(f t:Int)(r:Bool)(w:Wd)(hr:bY x f t=r)(hx:okB x=true)(f0:0<=f)(f1:f<=131072)(t0:0<=t)(t1:t<=131072):
  ep 194 #[.agg #[x.a,x.n,x.s],f,t] w λe w'=>
   e= .returned (.tuple #[.agg #[.int .i64 (bT x f t).a,.int .i64 (bT x f t).n,.int .i64 (bT x f t).s],.bool r])/\Below w w w':=by
 subst hr;exact TE x f t w hx f0 f1 t0 t1
theorem mO(l:List E)(f t:Int)(a:OA)(c:Nat)(w:Wd)(hr:Rd w a l)(hl:l.length<=100000000)(hok:∀x∈l,okB x=true)(f0:0<=f)(f1:f<=131072)(t0:0<=t)(t1:t<=131072):
  ep 142 #[.slice a l.length c,f,t] w λe w'=>∃v,e= .returned v/\aG w' w v (aI l f t)/\Below w w w':=by
 obtain⟨i0,hi,hz0,hz1,hz2⟩:=info_parts kK;have HO:=hD hok;clear hok;go_enter func142,ntmps142;go_wp2;go_loopw [7,8] (λv i wr=>∃k:Nat,k<=l.length/\i= .int .i64 k/\aG wr w v (aI (l.take k) f t)/\Below w w wr) (λ_ i _=>l.length-(intOf i).toNat)
 case atStart=>exact⟨0,Yf _,rfl,aG.nil _ _,bR⟩
 case round=>
  obtain⟨k,hk,rfl,ho,hB⟩:=hrel;by_cases hlt:k<l.length
  ·obtain ⟨b,o,rfl,hat⟩:=(hr.keep hB).at oM;obtain⟨h1,h2,h3⟩:=hat k _ (Qa hlt);have HX:=hD (HO.o _ (Qm hlt));have HT:=hD (Li l f t k hlt);have hln:=bV (l.take k) f t;have htl:=List.length_take_le k l;generalize l[k]=x at *;generalize aI (l.take k) f t=R at *;have HR:=hD ho;clear hat hr ho;cases b1:bY x f t
   all_goals
    have B1:=hD b1;clear b1;go_wp2_with fail;refine(Wv _ _ _ _ _ B1.o HX.o oM oM oM oM).m ?_;rintro e w2 ⟨rfl,hb1⟩;have hB2:=hB.on hb1;have hsz:=hB2.size;have HR2:=hD (HR.o.keep hb1);clear hb1
   ·go_wp2_with fail;go_roundw
    case rel=>exact⟨k+1,oM,by go_num,by rw[HT.o,B1.o];exact HR2.o.keep (bR.aIw _),hB2.aIw _⟩
    case measure=>simp[intOf];omega
   ·go_wp2_with (at_builtin;refine aO _ rfl _ _ 52 rfl w.heap.size 128 i0 (.agg #[oo,oo,oo]) 3 24 underlying52 hi hz0 hz1 hz2 rfl dE _ _ _ rfl (Qu (aG.keep HR2.o (bR.aIw _)) _) (cw (cf w2) 0) 1 1 (E.cells (bT x f t)) rfl rfl (sI _ _ sM _ _) (dF _) aGd aAp sh33 ?_;intro v1 w1 hown1 hgrow1 hwhere1)
    go_roundw
    case rel=>
     refine⟨k+1,oM,by go_num,by rw[HT.o,B1.o];exact aG.snoc hown1 oM,((hB2.aIw _).aIw _).aJa hgrow1 λj hj=>(HR2.o.lt j hj).1⟩
    case measure=>simp[intOf];omega
  ·go_wp2;go_ret;rw[Qq oM]at ho;exact⟨_,rfl,ho,hB⟩
structure St(w0 W:Wd)(X:Nat)(x:E)(vR:Value)(R:List E)(vM:Value)(M:List E):Prop where
 x1:W (cw X 0)=x.a
 x2:W (cw X 1)=x.n
 x3:W (cw X 2)=x.s
 hR:aG W w0 vR R
 hM:aG W w0 vM M
 nR:vR.ownBlock≠some X
 nM:vM.ownBlock≠some X
 sep:vR.ownBlock=none∨vR.ownBlock≠vM.ownBlock
 hB:Below w0 w0 W
section
variable{w0 W W':Wd}{X:Nat}{x:E}{vR vM v:Value}{R M L:List E}
theorem St.aIx(h:St w0 W X x vR R vM M)(hb:Below W W W'):St w0 W' X x vR R vM M:=
 ⟨hb.keep h.x1,hb.keep h.x2,hb.keep h.x3,h.hR.keep hb,h.hM.keep hb,h.nR,h.nM,h.sep,h.hB.on hb⟩
theorem St.alloc(h:St w0 W X x vR R vM M)(o:Obj):St w0 (W.alloc o) X x vR R vM M:=h.aIx (bR.aIw o)
theorem St.lt(h:St w0 W X x vR R vM M):X<W.heap.size:=Qj W _ h.x1
theorem St.pushR(h:St w0 W X x vR R vM M)(ho:aG W' w0 v L)(hg:W.grownBy W' vR.ownBlock)(hw:v.ownBlock=vR.ownBlock∨ ∃k,v.ownBlock=some k/\W.heap.size<=k):St w0 W' X x v L vM M:=by
 have hne:some X≠vR.ownBlock:=λe=>h.nR e.symm;have hsep:vM.ownBlock=none∨vM.ownBlock≠vR.ownBlock:=by
  rcases h.sep with e|e
  ·exact sh30
  ·exact .inr (Ne.symm e)
 refine⟨hg.cell h.x1 hne,hg.cell h.x2 hne,hg.cell h.x3 hne,ho,h.hM.other hg hsep,?_,h.nM,?_,h.hB.aJa hg λk hk=>(h.hR.lt k hk).1⟩
 ·rcases hw with e|⟨k,e,hk⟩
  ·rw[e];exact h.nR
  ·rw[e];have:=h.lt;simp;omega
 ·rcases hw with e|⟨k,e,hk⟩
  ·rw[e];exact h.sep
  ·refine .inr ?_;rw[e];intro he;have:=(h.hM.lt k he.symm).2;omega
theorem St.swap(h:St w0 W X x vR R vM M):St w0 W X x vM M vR R:=
 ⟨h.x1,h.x2,h.x3,h.hM,h.hR,h.nM,h.nR,by
  rcases h.sep with e|e
  ·exact sh30
  ·exact .inr (Ne.symm e),h.hB⟩
theorem St.pushM(h:St w0 W X x vR R vM M)(ho:aG W' w0 v L)(hg:W.grownBy W' vM.ownBlock)(hw:v.ownBlock=vM.ownBlock∨ ∃k,v.ownBlock=some k/\W.heap.size<=k):St w0 W' X x vR R v L:=
 (h.swap.pushR ho hg hw).swap
end
theorem xA(l:List E)(a:OA)(c:Nat)(w:Wd)(hr:Rd w a l)(hw:wfL l)(hl:l.length<=1000000000)(hv:aH l=true):
  ep 141 #[.slice a l c] w (Listed w (joinL l)):=by
 obtain⟨i0,hi,hz0,hz1,hz2⟩:=info_parts kK;have HV:=hD hv;have HO:=hD (aL hv);clear hv;go_enter func141,ntmps141
 go_wp2_with (go_at_call 93;refine(mM _ _ _ _ _ HV.o hr hw).m ?_;rintro e w' ⟨rfl,hb⟩)
 go_loopw [4,5] (λv i wr=>∃k:Nat,k<=l.length/\i= .int .i64 k/\aG wr w v (joinL (l.take k))/\Below w w wr) (λ_ i _=>l.length-(intOf i).toNat)
 case atStart=>exact⟨0,Yf _,rfl,aG.nil _ _,hb⟩
 case round=>
  obtain⟨k,hk,rfl,ho,hB⟩:=hrel;by_cases hlt:k<l.length
  ·obtain ⟨b,o,rfl,hat⟩:=(hr.keep hB).at oM;obtain⟨h1,h2,h3⟩:=hat k _ (Qa hlt);have HX:=(aB _).1 (HO.o _ (Qm hlt));have HT:=hD (EA l k hlt);have HY:=hD (EB (l.take k) (λx hx=>HO.o x (List.mem_of_mem_take hx)));have hjl:=iV (l.take k);have htl:=List.length_take_le k l;generalize l[k]=x at *;generalize joinL (l.take k)=R at *;by_cases hR:R=[]
   ·subst hR;have HR:=hD ho;obtain⟨a4,c4,rfl⟩:∃a c,u4= .slice a 0 c:=by
     rcases ho.form with ⟨rfl,_⟩|⟨g,c,rfl,_⟩
     ·exact⟨_,_,rfl⟩
     ·exact⟨_,_,rfl⟩
    clear hat ho hr;go_wp2_with fail;refine wpr ?_
    repeat(go_big_quiet_step (fail))
    refine wqn λnq=> ?_;have hB2:=hB.aJd nq;have hsz:=hB2.size;have HR2:=hD (HR.o.keep (World.aIy wr nq))
    go_wp2_with (at_builtin;refine aO _ rfl _ _ 52 rfl w.heap.size 128 i0 (.agg #[oo,oo,oo]) 3 24 underlying52 hi hz0 hz1 hz2 rfl dE _ _ _ rfl (Qu HR2.o _) (cw ((wr.next nq).heap.size) 0) 1 1 (E.cells x) rfl rfl (sI _ _ sM _ _) (dF _) aGd aAp sh33 ?_;intro v1 w1 hown1 hgrow1 hwhere1)
    go_roundw
    case rel=>exact⟨k+1,oM,by go_num,by rw[HT.o,mR];exact aG.snoc hown1 sM,(hB2.aIw _).aJa hgrow1 λj hj=>(HR2.o.lt j hj).1⟩
    case measure=>simp[intOf];omega
   ·obtain ⟨R',y,rfl⟩:=fB R hR;obtain⟨g,c4,rfl,hg1,hg2,hc1,hc2,hgt,hfz⟩:=(ho.form).resolve_left sM;obtain⟨y1,y2,y3⟩:=hgt R'.length y sM;simp only[Qg,List.length_cons,List.length_nil,Nat.zero_add]at y1 y2 y3 hc1 hjl;have hf:=hfz (R'.length*3+1);obtain⟨e1,e2,e3,e4,e5⟩:=(aB y).1 (HY.o y sM);obtain⟨f1,f2,f3,f4,f5⟩:=HX;have hlen:(R'++[y]).length=R'.length+1:=by simp
    have hlen2:(R'++[y]).length<=R'.length+1:=by simp
    rw[hlen]at ho;rw[hlen];have HR:=hD ho;have hd:decide (0<=R'.length)=true:=by simp
    clear hgt hfz hat ho hr hR hlen;cases hm:meets y x
    ·have HP:=hD (eQ R' y x hm);by_cases ha:y.a+y.n=x.a
     ·have hs:y.s+y.n≠x.s:=by intro h;simp[meets,ha,h]at hm
      have hab:(x.a==y.a+y.n)=true:=by simp[ha]
      have hsb:(x.s==y.s+y.n)=false:=by simpa using Ne.symm hs
      clear ha hm hs;exact aAq
     ·have hab:(x.a==y.a+y.n)=false:=by simpa using Ne.symm ha
      clear ha hm;exact aAq
    ·have HP:=hD (dJ R' y x hm);simp only[meets,Qd,Qc]at hm;have hab:(x.a==y.a+y.n)=true:=by simp[hm.1]
     have hsb:(x.s==y.s+y.n)=true:=by simp[hm.2]
     clear hm;go_wp2_with fail;refine wpr ?_
     repeat(go_big_quiet_step (fail))
     refine wqn λnq=> ?_;have hB2:=hB.aJd nq;have HR2:=hD (HR.o.keep (World.aIy wr nq));have hbn:=World.aIy wr nq;have k1:=hbn.keep h1;have k2:=hbn.keep h2;have k3:=hbn.keep h3;have z2:=hbn.keep y2;have hfr:=hbn.aJc y2 hf;generalize hW:wr.next nq=W at *;clear hbn h1 h2 h3 y1 y2 y3 hf HR hW;go_wp2_with fail;refine aAe 13 ?_;simp only[List.take_succ_cons,List.take_zero,List.drop_succ_cons,List.drop_zero]
     repeat(go_big_quiet_step (fail))
     refine wqn λnq=> ?_;have hB3:=hB2.aJd nq;have HR3:=hD (HR2.o.keep (World.aIy W nq));go_wp2_with fail;have h3:=HR3.o;unfold aG at h3;rw[show(R'++[y]).length=R'.length+1 by simp]at h3;have hst:=World.ownsRow.stored h3 (R'.length*3+1) (.int .i64 (y.n+x.n));rw[yL]at hst;have HS1:=hD hst.1;have HS2:=hD hst.2;clear hst h3;go_roundw
     case rel=>
      refine⟨k+1,oM,by go_num,?_,hB3.aJa HS2.o λj hj=>by simp at hj;omega⟩;rw[HT.o,HP.o];unfold aG;rw[show(R'++[y.longer x.n]).length=R'.length+1 by simp];exact HS1.o
     case measure=>simp[intOf];omega
  ·go_wp2;go_ret2;rw[Qq oM]at ho;exact⟨_,rfl,ho,hB⟩
theorem Rd.source{w:Wd}{a:OA}{l:List E}(h:Rd w a l):w.source 3 a l.length (bI l):=by
 refine⟨dH l,Fq l,?_⟩;rcases h.2 with rfl|⟨b,o,rfl,hat⟩
 ·cases a with
  |none=>exact .inl ⟨rfl,rfl⟩
  |some ad=>exact .inr ⟨ad,rfl,λj u hu=>by simp[bI]at hu⟩
 ·refine .inr ⟨_,rfl,λj u hu=> ?_⟩;have hj:j<l.length*3:=by rw[<-dH];exact(Qx.1 hu).1
  have hk:j/3<l.length:=oM
  obtain⟨c1,c2,c3⟩:=zJ l (j/3) _ (Qa hk);obtain⟨d1,d2,d3⟩:=hat (j/3) _ (Qa hk);have hadd:((cw b o):Addr).add j=(cw b (o+j)):=by unfold Addr.add;split <;> simp_all
  rw[hadd];rcases(by omega:j=j/3*3∨j=j/3*3+1∨j=j/3*3+2)with e|e|e
  ·rw[e]at hu ⊢;rw[c1]at hu;rw[<-hu,d1]
  ·rw[e]at hu ⊢;rw[c2]at hu;rw[<-hu,<-Nat.add_assoc,d2]
  ·rw[e]at hu ⊢;rw[c3]at hu;rw[<-hu,<-Nat.add_assoc,d3]
theorem aG.source{w:Wd}{B:Nat}{v:Value}{l:List E}(h:aG w B v l)(hl:l.length<=46912496118443):∃a c,v= .slice a l c/\Rd w a l/\w.source 3 a l.length (bI l):=by
 obtain⟨a,c,hv,hr⟩:=h.rd hl;exact⟨a,c,hv,hr,hr.source⟩
theorem aG.append{w:Wd}{B n:Nat}{v:Value}{l r:List E}(h:w.ownsRow B 128 3 v n (bI l++bI r))(hn:n=l.length+r.length):aG w B v (l++r):=by
 subst hn;unfold aG;rw[eO,Qg];exact h
theorem iM{l:List E}(h:∀x∈l,okB x=true):wfL l:=by
 intro x hx;have:=(aB x).1 (h x hx);unfold E.wf;omega
theorem WO(l:List E)(p n:Int)(a:OA)(c:Nat)(w:Wd)(hr:Rd w a l)(hw:wfL l)(hl:l.length<=100000000)(hv:aH l=true)(hp:fA p n 65536=true)
  (hv1:aH (aI l 0 p++aI l (p+n) 65536)=true) (hv2:aH (aI l p (p+n))=true):
  ep 100 #[.slice a l c,p,n] w λe w'=>
   ∃v m,e= .returned (.tuple #[v,m,oo])/\aG w' w v (joinL (aI l 0 p++aI l (p+n) 65536))/\aG w' w m (joinL (aI l p (p+n)))/\Below w w w':=by
 obtain⟨i0,hi,hz0,hz1,hz2⟩:=info_parts kK;have HV:=hD hv;have HP:=hD hp;have HO:=hD (aL hv);have HV1:=hD hv1;have HV2:=hD hv2;obtain⟨p0,n0,p1,n1⟩:0<=p/\0<=n/\p<=65536/\n<=65536-p:=by simpa [fA]using hp
 have q1:=bV l 0 p;have q2:=bV l (p+n) 65536;have q3:=bV l p (p+n);have OK1:=hD (dO l 0 p HO.o);have OK2:=hD (dO l (p+n) 65536 HO.o);have OK3:=hD (dO l p (p+n) HO.o);generalize hL1:aI l 0 p=L1 at *;generalize hL2:aI l (p+n) 65536=L2 at *;generalize hL3:aI l p (p+n)=L3 at *;have E1:=hD hL1;have E2:=hD hL2;have E3:=hD hL3;clear hv hp hv1 hv2 hL1 hL2 hL3;go_enter func100,ntmps100
 go_wp2_with (first|(go_at_call 93;refine(mM _ _ _ _ _ HV.o hr hw).m ?_;rintro e w1 ⟨rfl,hB1⟩)|(go_at_call 140;refine(WR _ _ _ _ HP.o).m ?_;rintro e w2 ⟨rfl,rfl⟩))
 refine(mO l 0 p _ _ _ (hr.keep hB1) hl HO.o oM oM oM oM).m ?_;rintro e w2 ⟨v2,rfl,ho2,hb2⟩;rw[E1.o]at ho2;have hB2:=hB1.on hb2;have HO2:=hD (ho2.mono hB1.size);clear ho2 hb2;go_wp2_with fail;refine(mO l (p+n) 65536 _ _ _ (hr.keep hB2) hl HO.o oM oM oM oM).m ?_;rintro e w3 ⟨v3,rfl,ho3,hb3⟩;rw[E2.o]at ho3;have hB3:=hB2.on hb3;have HO3:=hD (HO2.o.keep hb3);obtain⟨a3,c3,rfl,_,hs3⟩:=ho3.source oM;have HS3:=hD hs3;have hsz3:=hB3.size;clear ho3 hb3 HO2 hs3
 go_wp2_with (at_builtin;refine dB _ rfl _ _ 52 rfl w.heap.size 128 i0 (.agg #[oo,oo,oo]) 3 24 underlying52 hi hz0 hz1 hz2 rfl dE _ _ _ rfl HO3.o _ _ _ _ rfl HS3.o aGd aAp (by first|omega|(simp only[World.size_alloc];omega)) ?_;intro v1 w1 hown1 hgrow1 hwhere1)
 have hB4:=hB3.aJa hgrow1 λj hj=>(HO3.o.lt j hj).1;obtain⟨a4,c4,rfl,hr4,_⟩:=(aG.append hown1 rfl).source pO;clear hown1 hgrow1 hwhere1 HO3 HS3 hsz3;refine(xA (L1++L2) _ _ _ hr4 (iM (aL HV1.o)) pO HV1.o).m ?_;rintro e w5 ⟨v5,rfl,ho5,hb5⟩;have hB5:=hB4.on hb5;have HO5:=hD (ho5.mono hB4.size);clear ho5 hb5 hr4;go_wp2_with fail;refine(mO l p (p+n) _ _ _ (hr.keep hB5) hl HO.o oM oM oM oM).m ?_;rintro e w6 ⟨v6,rfl,ho6,hb6⟩;rw[E3.o]at ho6;have hB6:=hB5.on hb6;have HO6:=hD (HO5.o.keep hb6);obtain⟨a6,c6,rfl,hr6,_⟩:=ho6.source oM;clear ho6 hb6 HO5;go_wp2_with fail;refine(xA L3 _ _ _ hr6 (iM OK3.o) oM HV2.o).m ?_;rintro e w7 ⟨v7,rfl,ho7,hb7⟩;have hB7:=hB6.on hb7;have HO7:=hD (HO6.o.keep hb7);have HO8:=hD (ho7.mono hB6.size);clear ho7 hb7 HO6 hr6;go_wp2_with fail;go_ret3;exact⟨_,_,rfl,HO7.o,HO8.o,hB7⟩
theorem KT(l:List E)(a:OA)(c:Nat)(w:Wd)(hr:Rd w a l)(hw:wfL l)(hl:l.length<=1000000000):
  ep 58 #[.slice a l c] w (RB w (xS l)):=by
 cases hv:aH l
 ·rw[QW hv];have HV:=hD hv;clear hv;go_enter func58,ntmps58
  go_wp2_with (go_at_call 93;refine(mM _ _ _ _ _ HV.o hr hw).m ?_;rintro e w' ⟨rfl,hb⟩)
  go_ret;exact⟨rfl,hb⟩
 ·rw [Db hv];have HV:=hD hv;have HO:=hD (aL hv);clear hv;go_enter func58,ntmps58
  go_wp2_with (go_at_call 93;refine(mM _ _ _ _ _ HV.o hr hw).m ?_;rintro e w' ⟨rfl,hb⟩)
  go_loopw [3,4] (λv i wr=>∃k:Nat,k<=l.length/\i= .int .i64 k/\v= .int .i64 (aR (l.take k))/\Below w w wr) (λ_ i _=>l.length-(intOf i).toNat)
  case atStart=>exact⟨0,Yf _,rfl,rfl,hb⟩
  case round=>
   obtain⟨k,hk,rfl,rfl,hB⟩:=hrel;by_cases hlt:k<l.length
   ·obtain⟨b,o,rfl,hat⟩:=(hr.keep hB).at oM;obtain⟨h1,h2,h3⟩:=hat k _ (Qa hlt);have HX:=(aB _).1 (HO.o _ (Qm hlt));have HT:=hD (BP l k hlt);have hbd:=yY (l.take k) (λx hx=>HO.o x (List.mem_of_mem_take hx));have htl:=List.length_take_le k l;generalize l[k]=x at *;generalize aR (l.take k)=s at *;clear hat hr;go_wp2;go_roundw
    case rel=>exact⟨k+1,oM,by go_num,by rw[HT.o],hB⟩
    case measure=>simp[intOf];omega
   ·go_wp2;go_ret;refine⟨pG ?_,hB⟩;rw[Qq oM]
theorem TI(l:List E)(p:Int)(a:OA)(c:Nat)(w:Wd)(hr:Rd w a l)(hw:wfL l):
  ep 80 #[.slice a l c,p] w (RB w (.tuple #[(Mw l p),.bool (Mv l p)])):=by
 have hlen:=hr.1;cases hv:aH l
 ·rw[Za p hv,YZ p hv];have HV:=hD hv;clear hv;go_enter func80,ntmps80
  go_wp2_with (go_at_call 93;refine(mM _ _ _ _ _ HV.o hr hw).m ?_;rintro e w' ⟨rfl,hb⟩)
  go_ret2;exact⟨rfl,hb⟩
 ·rw [Iq p hv,Ip p hv];have HV:=hD hv;have HO:=hD (aL hv);clear hv;go_enter func80,ntmps80
  go_wp2_with (go_at_call 93;refine(mM _ _ _ _ _ HV.o hr hw).m ?_;rintro e w' ⟨rfl,hb⟩)
  go_loopw [6] (λi wr=>∃k:Nat,k<=l.length/\i= .int .i64 k/\(l.take k).find? (hits p)=none/\Below w w wr) (λi _=>l.length-(intOf i).toNat)
  case atStart=>exact⟨0,Yf _,rfl,sM,hb⟩
  case round=>
   obtain⟨k,hk,rfl,hn,hB⟩:=hrel;by_cases hlt:k<l.length
   ·obtain ⟨b,o,rfl,hat⟩:=(hr.keep hB).at oM;obtain⟨h1,h2,h3⟩:=hat k _ (Qa hlt);obtain⟨c1,c2,c3,c4,c5⟩:=(aB _).1 (HO.o _ (Qm hlt));have HF:=hD (UK l p k hlt hn);generalize l[k]=x at *;clear hat hr hn;by_cases g1:x.a<=p
    ·have gd:decide (x.a<=p)=true:=by simpa using g1
     by_cases g2:p<x.a+x.n
     ·have gd2:decide (p<x.a+x.n)=true:=by simpa using g2
      have hf:=hD (HF.o.2 (by simp[hits,g1,g2]));go_wp2_with fail;refine wpr ?_
      repeat(go_big_quiet_step (fail))
      refine wqn λnq=> ?_;generalize hW:wr.next nq=W;have hB2:Below w w W:=by rw[<-hW];exact hB.aJd _
      have k1:W (cw b (o+k*3))=x.a:=by rw[<-hW];exact(World.aIy wr nq).keep h1
      have k3:W (cw b (o+k*3+2))=x.s:=by rw[<-hW];exact(World.aIy wr nq).keep h3
      clear hW h1 h2 h3;go_wp2_with fail;refine wpr ?_
      repeat(go_big_quiet_step (fail))
      refine wqn λnq=> ?_;go_wp2_with fail;go_ret2;exact⟨by simp[fU,fI,hf.o],hB2.aJd _⟩
     ·have gd2:decide (p<x.a+x.n)=false:=by simpa using g2
      exact aGf
    ·have gd:decide (x.a<=p)=false:=by simpa using g1
     exact aGf
   ·have HN:=hD hn;clear hn;go_wp2;go_ret2;have:=HN.o;rw[Qq oM]at this;exact⟨by simp[fU,fI,this],hB⟩
theorem aG.lit(W:Wd)(cs:Array Value)(l:List E)(h:cs.toList=bI l)(hl:l.length<=maxLen)(B:Nat)(hB:B<=W.heap.size):aG (W.alloc (.cells cs 128)) B (.slice (cw W 0) l l.length) l:=by
 unfold aG;rw[<-h];exact World.ownsRow_lit W cs l.length hB hl (by have:=congrArg List.length h;rw[dH]at this;simpa using this)
theorem Rd.lit(W:Wd)(cs:Array Value)(l:List E)(n:Nat)(hn:n=W.heap.size)(h:cs.toList=bI l)(hl:l.length<=46912496118443):Rd (W.alloc (.cells cs 128)) (cw n 0) l:=by
 subst hn;obtain⟨a,c,hv,hr⟩:=(aG.lit W cs l h (by unfold maxLen;omega) W (Ye _)).rd hl;simp only[Value.slice.injEq]at hv;rw[hv.1];exact hr
end Go.Proofs.YtphfgbbbejloaaaGreatDoor
