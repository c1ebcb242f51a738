/- A row of replies that grows. Conditions: as each theorem says. -/
import Derived.Test.YtphfgbbbejloaaaGreatDoorMgT
set_option linter.unusedSimpArgs false
set_option linter.unusedVariables false
set_option maxRecDepth 100000
set_option maxHeartbeats 16000000
namespace Go.Proofs.YtphfgbbbejloaaaGreatDoor
open Go.RowKit Go.Maps
open Go.Proofs.Tryz
theorem sy5{P:Prop}(h:P:=by
  go_wp2_with fail;refine(GM L b cb 10 _ (HL0.o.keep HB.o) oM _ HQ2.o).m ?_;rintro e wq ⟨rfl,hb⟩;have HB3:=hD (HB.o.on hb);clear hb;go_wp2_with fail;go_ret;exact⟨rfl,HB3.o⟩
  ):P:=h
theorem sy6{P:Prop}(h:P:=by
  obtain⟨_,cur,hc,_⟩:=h.nou Y e;obtain⟨M,b,a,c,ps,h1,_⟩:=hm;exact jH.ne (t':=44) h1.ty ⟨cur,_,hc⟩ dE rfl
  ):P:=h
structure RVw where
 c:Cmd Bk
 r:Rp Bk
 a:OA
 k:Nat
def RVw.cells(x:RVw):List Value:=[.int .i64 x.r.tag,.int .i64 x.r.err,.slice x.a x.r.data.length x.k]
def noU(u:Value):Prop:= ∀x,u≠ .int .u8 x
theorem zc_mem{z:Array Value}{n:Nat}{u:Value}(h:u∈Builtin.zeroCells z n):u∈z:=by
 unfold Builtin.zeroCells at h;obtain⟨i,hi,rfl⟩:=Array.mem_map.1 h;have h0:0<z.size:=by
  rcases Nat.eq_zero_or_pos z.size with e|e
  ·rw[e]at hi;simp at hi
  ·exact e
 rw[getElem!_pos z _ (Nat.mod_lt _ h0)];exact Array.getElem_mem _
structure RpR(W:Wd)(B:Nat)(v:Value)(X:List RVw):Prop where
 own:W.ownsRow B 44 3 v X.length (X.flatMap RVw.cells)
 nou:∀g,v.ownBlock=some g->0<X.length/\ ∃cur,W.heap[g]? =some (.cells cur 44 (0,0))/\ ∀u∈cur,noU u
 dat:∀x∈X,RdB W x.a x.r.data
theorem RpR.nil(w:Wd)(B:Nat):RpR w B sn []:=⟨World.ownsRow_nil _ _ _ _,λg h=>(by cases h),λx h=>(by cases h)⟩
theorem RpR.len3(X:List RVw):(X.flatMap RVw.cells).length=X.length*3:=kM RVw.cells 3 (λ_=>rfl) X
theorem RpR.at{W:Wd}{B g n c:Nat}{X:List RVw}(h:RpR W B (.slice (cw g 0) n c) X){k:Nat}{x:RVw}(hk:X[k]? =some x):W (cw g (k*3))=x.r.tag/\W (cw g (k*3+1))=x.r.err/\W (cw g (k*3+2))=some (.slice x.a x.r.data.length x.k):=by
 have hl:=(Qx.1 hk).1;have hn:n=X.length:=by
  rcases h.own.2 with ⟨q,_⟩|⟨_,_,_,q,_⟩
  ·cases q
  ·injection q
 subst hn;have f:=λj hj=>flat_get RVw.cells 3 (λ_=>rfl) X k x hk j hj;have e:=λj (hj:j<3)=>(h.own.cellAt (k*3+j) oM).trans (f j hj);exact⟨e 0 oM,e 1 oM,e 2 oM⟩
theorem RpR.odM{W:Wd}{B g:Nat}{v:Value}{X:List RVw}(h:RpR W B v X)(hg:v.ownBlock=some g):OdM W g:=by
 obtain⟨h0,cur,hc,_⟩:=h.nou g hg;refine⟨λx y e _=> ?_,44,dE,reMa,reSt,cur,_,hc⟩;rcases h.own.2 with ⟨rfl,_⟩|⟨g',cap,cur',rfl,_⟩
 ·cases hg
 ·cases hg;have:=(h.at (k:=0) (Qa h0)).2.2;simp only[Nat.zero_mul,Nat.zero_add]at this;rw[this]at e;cases e
theorem RdB.off{W W':Wd}{g:Nat}{cur:Array Value}{t:TypeId}{a:OA}{D:List Bk}(h:RdB W a D)(hc:W.heap[g]? =some (.cells cur t (0,0)))(hn:∀u∈cur,noU u)(hg:W.grownBy W' (some g)):RdB W' a D:=by
 refine ⟨h.1,h.2.imp id λ⟨b,o,ha,hat⟩=>⟨b,o,ha,λk z hk=> ?_⟩⟩;have q:=hat k z hk;have hne:b≠g:=λe=>by
  subst e;have q7:=q.c7;rw[cell_of_row W b _ cur t _ hc]at q7;exact hn _ (Array.mem_of_getElem? q7) _ rfl
 exact⟨aA hg q.c0 hne,aA hg q.c1 hne,aA hg q.c2 hne,aA hg q.c3 hne,aA hg q.c4 hne,aA hg q.c5 hne,aA hg q.c6 hne,aA hg q.c7 hne⟩
theorem RpR.aIx{W W':Wd}{B:Nat}{v:Value}{X:List RVw}(h:RpR W B v X)(hb:Below W W W'):RpR W' B v X:=by
 have hg:W.grownBy W' none:=⟨hb.os,hb.tape,hb.output,hb.size,λk hk _=>hb.block k hk⟩;refine⟨World.ownsRow.kept h.own hg (by cases v.ownBlock <;> simp),λg e=> ?_,λx hx=>(h.dat x hx).keep hb⟩;obtain⟨h0,cur,hc,hn⟩:=h.nou g e;exact⟨h0,cur,by rw[hb.block g (Array.getElem?_eq_some_iff.1 hc).1];exact hc,hn⟩
theorem RpR.other{W W':Wd}{B Y:Nat}{v:Value}{X:List RVw}(h:RpR W B v X)(hg:W.grownBy W' (some Y))(hne:v.ownBlock≠some Y)(hd:∀x∈X,RdB W' x.a x.r.data):RpR W' B v X:=by
 refine⟨World.ownsRow.kept h.own hg (.inr hne),λg e=> ?_,hd⟩;obtain⟨h0,cur,hc,hn⟩:=h.nou g e;exact⟨h0,cur,by rw[hg.block g (Array.getElem?_eq_some_iff.1 hc).1 (λq=>hne (e.trans q))];exact hc,hn⟩
theorem RpR.went{W W':Wd}{B Y:Nat}{v:Value}{X:List RVw}{m:Mo Bk}(h:RpR W B v X)(hm:MoB W Y m)(hg:W.grownBy W' (some Y)):RpR W' B v X:=by
 refine h.other hg (λe=> ?_) λx hx=>(h.dat x hx).aJh hm.mx hg;exact sy6
theorem wpList_rep{ops:Array Oper}{rest:List Oper}{o:Oper}{a:Act}{w:Wd}{Q:Exit->Act->Wd->Prop}(hgd:o.guard=none)(s x:Operand)
  (ho:o.op= .call {callee:= .builtin .append,args:= #[s,x],argTypes:= #[73,73]}) (B:Nat) {v:Value} {X:List RVw} (y:RVw) (hs:a.eval s=v) (h0:RpR w B v X) (ad:Nat) (c:Nat) (hx:a.eval x= .slice (cw ad 0) 1 c)
  (hy:∀j u,y.cells[j]? =some u->w (cw ad j)=some u) (hl:X.length<=1000) (hB:B<=w.heap.size) (hd:RdB w y.a y.r.data)
  (h:∀v' w',RpR w' B v' (X++[y])->w.grownBy w' v.ownBlock->wpList prog ops Q rest (a.put o.dst v') w'):wpList prog ops Q (o::rest) a w:=by
 have infoR:(prog.info? 44).map (λi=>(i.zero,i.size,i.bytes))=some (some (.agg #[oo,oo,sn]),3,40):=kR
 obtain⟨i,hi,hz,hsz,hby⟩:=info_parts infoR;have ht:=underlying73;have hy':∀j u,y.cells[j]? =some u->w.cell? (((cw ad 0):Addr).add j)=some u:=λj u q=>by rw[Addr.add_lit,Nat.zero_add];exact hy j u q
 have y1:∀u∈y.cells,u.oneCell'=true:=λu q=>by simp[RVw.cells]at q;rcases q with rfl|rfl|rfl <;> rfl
 have y8:∀u∈y.cells,noU u:=λu q x e=>by simp[RVw.cells]at q;subst e;simp at q
 have z8:∀u∈(Value.agg #[oo,oo,sn]).cells,noU u:=λu q x e=>by simp[Value.cells]at q;subst e;simp at q
 have hyl:y.cells.length=1*i.size:=by rw[hsz];rfl
 refine wpList_plain hgd λK hK=> ?_;obtain⟨v',w',hr,h2,h3,_⟩:=Ad (P:=prog) w B 73 o.type 44 i _ 3 40 ht hi hz hsz hby rfl dE v X.length _ h0.own (cw ad 0) 1 c y.cells rfl hy' y1 oM (by simp only[maxLen];omega) hB;have key:(∀x∈X,RdB w' x.a x.r.data)/\RdB w' y.a y.r.data:=by
  cases hb:v.ownBlock with
  | none=>
   rw[hb]at h3;exact⟨λx q=>(h0.dat x q).keep (rG h3),hd.keep (rG h3)⟩
  | some g=>
   rw[hb]at h3;obtain⟨_,cur,hc,hn⟩:=h0.nou g hb;exact⟨λx q=>(h0.dat x q).off hc hn h3,hd.off hc hn h3⟩
 have nou:∀g,v'.ownBlock=some g->0<(X++[y]).length/\ ∃cur,w'.heap[g]? =some (.cells cur 44 (0,0))/\ ∀u∈cur,noU u:=λg e=>by
  refine⟨sM,?_⟩;rcases h0.own.2 with ⟨rfl,hn0⟩|⟨b,cap,cur,rfl,_,hg,hnc,_,hcs,htk⟩
  ·have hr2:=run_append_nil (P:=prog) w 73 o.type 44 i _ ht hi hz (cw ad 0) 1 c y.cells hyl hy' oM oM (by rw[hby];omega);rw[hr]at hr2;injection hr2 with e1 e2;subst e1 e2;cases e;refine⟨_,heap_alloc_new w.drew _,λu q=> ?_⟩;simp only[Array.mem_append,List.mem_toArray]at q;rcases q with q|q
   ·exact y8 u q
   ·exact z8 u (zc_mem q)
  ·obtain ⟨_,cur2,hg2,hn2⟩:=h0.nou b rfl;rw[hg]at hg2;injection hg2 with hg2;injection hg2 with hg2;subst hg2;by_cases hroom:X.length+1<=cap
   ·have hr2:=run_append_room (P:=prog) w 73 o.type 44 i ht hi b X.length cap cur hg (cw ad 0) 1 c y.cells hyl hy' y1 hroom (by rw[hsz,hcs,show y.cells.length=3 from rfl];omega);rw[hr]at hr2;injection hr2 with e1 e2;subst e1 e2;cases e;refine⟨_,setRow_heap w b cur _ _ _ hg,λu q=> ?_⟩;simp only[List.mem_toArray,Qn]at q;rcases q with (q|q)|q
    ·exact hn2 u (by simpa using List.mem_of_mem_take q)
    ·exact y8 u q
    ·exact hn2 u (by simpa using List.mem_of_mem_drop q)
   ·have hr2:=run_append_grow (P:=prog) w 73 o.type 44 i _ ht hi hz (cw b 0) X.length cap _ (by rw[hsz];exact RpR.len3 X) (h0.own.cells (g:=b) rfl) (cw ad 0) 1 c y.cells hyl hy' oM oM (growslice_fits oM (by rw[hby];omega));rw[hr]at hr2;injection hr2 with e1 e2;subst e1 e2;cases e;refine⟨_,heap_alloc_new w.drew _,λu q=> ?_⟩;simp only[Array.mem_append,List.mem_toArray]at q;rcases q with (q|q)|q
    ·rw[<-htk]at q;exact hn2 u (by simpa using List.mem_of_mem_take q)
    ·exact y8 u q
    ·exact z8 u (zc_mem q)
 unfold Oper.wp execOp;simp only[ho,resolve,invoke,builtin,Sem.run_bind,Sem.run_pure,Result.andThen_ok,List.map_toArray,List.map_cons,List.map_nil,hs,hx,hr];refine hK _ _ (h v' w' ⟨?_,nou,λx q=> ?_⟩ h3)
 ·rw[List.flatMap_append,Qg]
  simpa using h2
 ·rcases Qn.1 q with q|q
  ·exact key.1 x q
  ·obtain rfl:=List.mem_singleton.1 q;exact key.2
theorem new3(W:Wd)(a b c:Value)(t:TypeId):∀j u,([a,b,c]:List Value)[j]? =some u->(W.alloc (cq #[a,b,c] t)).cell? (cw W j)=some u:=λj u e=>by
 have h:=Bx3.new W _ rfl a b c t
 match j,e with
 |0,e=>cases e;exact h.c0
 |1,e=>cases e;exact h.c1
 |2,e=>cases e;exact h.c2
 |j+3,e=>simp at e
theorem RpR.ne{W:Wd}{B Y:Nat}{v:Value}{X:List RVw}{m:Mo Bk}(h:RpR W B v X)(hm:MoB W Y m):v.ownBlock≠some Y:=λe=>by
 exact sy6
structure OWm(w W:Wd)(X:Nat)(m:Mo Bk)(Z:Nat)(n:Mo Bk)(v:Value)(P:List RVw):Prop where
 mo:MoB W X m
 mz:MoB W Z n
 rr:RpR W w v P
 g:Below w w W
 lx:w.heap.size<=X
 xz:X<Z
section
variable{w W W':Wd}{X:Nat}{m m':Mo Bk}{Z:Nat}{n n':Mo Bk}{v v':Value}{P P':List RVw}{G:Nat}{D:List Bool}
theorem OWm.aIx(h:OWm w W X m Z n v P)(hb:Below W W W'):OWm w W' X m Z n v P:=⟨h.mo.aIx hb,h.mz.aIx hb,h.rr.aIx hb,h.g.on hb,h.lx,h.xz⟩
theorem OWm.went1(h:OWm w W X m Z n v P)(hm:MoB W' X m')(hg:W.grownBy W' (some X)):OWm w W' X m' Z n v P:=by
 have h1:=h.lx;have h2:=h.xz;exact⟨hm,h.mz.aJm h.mo.odM hg oM,h.rr.went h.mo hg,h.g.aJa hg (λj e=>by injection e with e;omega),h1,h2⟩
theorem OWm.went2(h:OWm w W X m Z n v P)(hn:MoB W' Z n')(hg:W.grownBy W' (some Z)):OWm w W' X m Z n' v P:=by
 have h1:=h.lx;have h2:=h.xz;exact⟨h.mo.aJm h.mz.odM hg oM,hn,h.rr.went h.mz hg,h.g.aJa hg (λj e=>by injection e with e;omega),h1,h2⟩
theorem OWm.app(h:OWm w W X m Z n v P)(hr:RpR W' w v' P')(hg:W.grownBy W' v.ownBlock):OWm w W' X m Z n v' P':=by
 cases hb:v.ownBlock with
 | none=>
  rw[hb]at hg;have k:=h.aIx (rG hg);exact⟨k.mo,k.mz,hr,k.g,k.lx,k.xz⟩
 | some b=>
  have q1:=h.rr.ne h.mo;have q2:=h.rr.ne h.mz;have q3:=World.ownsRow.lt h.rr.own b hb;have od:=h.rr.odM hb;rw[hb]at hg q1 q2;exact⟨h.mo.aJm od hg (λe=>q1 (congrArg some e.symm)),h.mz.aJm od hg (λe=>q2 (congrArg some e.symm)),hr,h.g.aJa hg (λj e=>by injection e with e;omega),h.lx,h.xz⟩
structure ODm(w W:Wd)(X:Nat)(m:Mo Bk)(Z:Nat)(n:Mo Bk)(v:Value)(P:List RVw)(G:Nat)(D:List Bool):Prop where
 ow:OWm w W X m Z n v P
 dn:W.ownsRow w 4 1 (.slice (cw G 0) D D.length) D.length (D.map Value.bool)
theorem ODm.cur(h:ODm w W X m Z n v P G D):W.heap[G]? =some (.cells (D.map Value.bool).toArray 4 (0,0))/\w.heap.size<=G:=by
 rcases h.dn.2 with ⟨q,_⟩|⟨g,cap,cur,e,hb,hg,_,_,hs,ht⟩
 ·cases q
 ·cases e;refine⟨?_,hb⟩;rw[Qq (by rw[Array.length_toList];omega)]at ht;rw[hg,<-ht,Array.toArray_toList]
theorem ODm.cell(h:ODm w W X m Z n v P G D)(i:Nat):W (cw G i)=D[i]?.map Value.bool:=by
 rw[cell_of_row W G i _ _ _ h.cur.1];simp
theorem ODm.dnr(h:ODm w W X m Z n v P G D):DnR W G 0 D:=λi b e=>by rw[Nat.zero_add,h.cell i,e];rfl
theorem ODm.noi(h:ODm w W X m Z n v P G D)(i:Nat)(k:IntKind)(c:Int):W (cw G i)≠some (.int k c):=by
 rw[h.cell i];cases D[i]? <;> simp
theorem ODm.ne(h:ODm w W X m Z n v P G D){Y:Nat}{q:Mo Bk}(hm:MoB W Y q):G≠Y:=by
 obtain⟨M,b,a,c,ps,h1,_⟩:=hm;exact jH.ne (t:=4) ⟨_,_,h.cur.1⟩ h1.ty dE
theorem ODm.aIx(h:ODm w W X m Z n v P G D)(hb:Below W W W'):ODm w W' X m Z n v P G D:=
 ⟨h.ow.aIx hb,World.ownsRow.kept h.dn (row:=none) ⟨hb.os,hb.tape,hb.output,hb.size,λk hk _=>hb.block k hk⟩ (.inr λe=>by cases e)⟩
theorem ODm.went2(h:ODm w W X m Z n v P G D)(hn:MoB W' Z n')(hg:W.grownBy W' (some Z)):ODm w W' X m Z n' v P G D:=
 ⟨h.ow.went2 hn hg,World.ownsRow.kept h.dn hg (.inr λe=>h.ne h.ow.mz (Qv e))⟩
theorem ODm.mark(h:ODm w W X m Z n v P G D)(k:Nat):ODm w (W.setCell (cw G k) true) X m Z n v P G (D.set k true):=by
 obtain⟨s1,g1⟩:=World.ownsRow.stored h.dn k true;have c1:=h.cur;have od:OdM W G:=⟨λx y e _=>h.noi _ _ _ e,4,dE,dE,dE,_,_,c1.1⟩;have on:OdN W G:=⟨λi k c _=>h.noi i k c,4,dE,_,_,c1.1⟩;refine⟨⟨h.ow.mo.aJm od g1 (λe=>h.ne h.ow.mo e.symm),h.ow.mz.aJm od g1 (λe=>h.ne h.ow.mz e.symm),h.ow.rr.other g1 (λe=> ?_) λx q=>(h.ow.rr.dat x q).aJe on g1,h.ow.g.aJa g1 (λj e=>by injection e with e;omega),h.ow.lx,h.ow.xz⟩,?_⟩
 ·obtain⟨_,cur,hc,_⟩:=h.ow.rr.nou G e;rw[c1.1]at hc;injection hc with hc;injection hc with _ hc;exact absurd hc dE
 ·rw[List.length_set,List.map_set];exact s1
end
def RdSc(w:Wd)(a:OA)(S:List Nat):Prop:=
 S.length<=9223372036854775807/\(∀x∈S,x<=255)/\(S=[]∨ ∃g o,a=cw g o/\ ∀(i x:Nat),S[i]? =some x->w (cw g (o+i))=some (.int .u8 x))
section
open Go.Deep
variable{H:Type}{enc:TypeId × Value->H}{w:Wd}
theorem open_u8s{a:OA}{len cap fuel:Nat}{x:DataW H × List MemPlace}(h:DataW.trod enc prog w 0 (λ_=>true) true fuel 72 [.slice a len cap]=some x):
  ∃S:List Nat,S.length=len/\(len<=9223372036854775807/\len<=cap/\cap<=9223372036854775807)/\RdSc w a S:=by
 rcases open_slice underlying72 h with ⟨hcs,_⟩|⟨ad,len',cap',m,n,_,_,hcs,_,hl,hm,hmm,_,hi⟩
 ·simp at hcs;obtain⟨rfl,rfl,rfl⟩:=hcs;exact⟨[],rfl,⟨oM,oM,oM⟩,sM,sM,.inl rfl⟩
 ·simp at hcs;obtain⟨rfl,rfl,rfl⟩:=hcs;simp only[if_true]at hmm;subst hmm;obtain⟨S,hlen,hp⟩:=LK (P:=λi (x:Nat)=>x<=255/\w.cell? (ad.add i)=some (.int .u8 x)) len (λi hlt=>by
   obtain⟨cs',h1,h2⟩:=hi i oM;obtain⟨z,e,_,wz⟩:=DataW.trod_int underlying5 h2;subst e;have hb:=bounds_u8 wz;obtain⟨z,rfl⟩:=Qr hb.1;rw[show prog.cellsOf 5=1 by kernel_rfl,Nat.mul_one]at h1;have h3:=(World.cells?_some h1).2.2 0 sM;have h4:(ad.add i).add 0=ad.add i:=by unfold Addr.add;split <;> simp_all
   rw[h4]at h3
   exact⟨z,oM,by rw[h3];rfl⟩)
  refine⟨S,hlen,by unfold maxLen at hm;exact⟨oM,hl,oM⟩,by unfold maxLen at hm;omega,λx hx=> ?_,?_⟩
  ·obtain⟨i,hi'⟩:=List.mem_iff_getElem?.1 hx;exact(hp i x hi').1
  ·by_cases h0:S=[]
   ·exact .inl h0
   ·refine .inr ?_;obtain⟨b,off,spot⟩:=ad;have h00:0<S.length:=List.length_pos_iff.2 h0;obtain⟨_,z0⟩:=hp 0 _ (Qa h00);have hspot:spot=none:=by simpa [Addr.add]using World.cell?_spot z0
    subst hspot;have hadd:∀j,((cw b off):Addr).add j=(cw b (off+j)):=λj=>by unfold Addr.add;split <;> simp_all
    exact⟨b,off,rfl,λk x hk=>by rw[<-hadd];exact(hp k x hk).2⟩
end
structure CmQ(w W:Wd)(gb go k:Nat)(x:CV):Prop where
 at':yC W gb go k x
 fit:tN x.c
 dat:RdB w x.a x.c.data
 few:x.c.kd=5->x.c.n<=255
 lt:gb<w.heap.size
theorem CmQ.of{w W:Wd}{b:OA}{L:List CV}(h:FM w b L)(hf:Dk L=true)(hb:Below w w W){k:Nat}(hk:k<L.length):∃gb go,b=cw gb go/\ ∀j x,L[j]? =some x->CmQ w W gb go j x:=by
 obtain⟨gb,go,rfl,hat⟩:=h.at oM;refine⟨gb,go,rfl,λj x hx=> ?_⟩;have hm:=List.mem_of_getElem? hx;have hfw:=MB hf hm;have c:=hat j x hx;exact⟨c.keep hb,(h.2.1 _ hm).fit,(h.2.1 _ hm).dat oM,λe=>by have:=hfw.2 e;omega,Qj w ⟨gb,_,none⟩ c.c0⟩
theorem ord_ran{m m':Mo Bk}{c:Cmd Bk}(fm:m.fine)(hap:Ap Bk.zero m c m')(hr:(decide ((kW Bk.zero m.cur c).err=11)||decide ((kW Bk.zero m.cur c).err=7))=false):
  kW Bk.zero m.cur c=repV Bk.zero (xZ (obS m.cur)) c/\xZ (obS m'.cur)=actV Bk.zero (xZ (obS m.cur)) c:=by
 simp only[Bool.or_eq_false_iff,Qy]at hr;exact⟨rep_ob fm.cur hr.2 hr.1,act_ob fm.cur rfl hap hr.2 hr.1⟩
theorem law_orders48(A:List CV)(a:OA)(ca:Nat)(L:List CV)(b:OA)(cb:Nat)(S:List Nat)(c:OA)(cc:Nat)(w:Wd)(hra:FM w a A)(hrb:FM w b L)(hrs:RdSc w c S):
  ep 9 #[.slice a A ca,.slice b L cb,.slice c S cc] w (RB w true):=by
 obtain⟨q1,hq1⟩:∃q,(Dk A&&decide (A.length<=10))=q:=⟨_,rfl⟩;obtain⟨q2,hq2⟩:∃q,(Dk L&&decide (L.length<=10))=q:=⟨_,rfl⟩;have HA0:=hD hra;have HL0:=hD hrb;have HS0:=hD hrs;have HQ1:=hD hq1;have HQ2:=hD hq2;have hs1:=hrs.1;clear hra hrb hrs hq1 hq2;go_enter func9,ntmps9;have HB:=hD (bQ w);go_wp2_with fail;refine(Fz _).m ?_;rintro e wq ⟨rfl,hb⟩;have HB1:=hD (HB.o.on hb);clear hb;replace HB:=HB1;cases q1
 ·go_wp2_with fail;refine(GM A a ca 10 _ (HA0.o.keep HB.o) oM _ HQ1.o).m ?_;rintro e wq ⟨rfl,hb⟩;have HB2:=hD (HB.o.on hb);clear hb;go_wp2_with fail;go_ret;exact⟨rfl,HB2.o⟩
 go_wp2_with fail;refine(GM A a ca 10 _ (HA0.o.keep HB.o) oM _ HQ1.o).m ?_;rintro e wq ⟨rfl,hb⟩;have HB2:=hD (HB.o.on hb);clear hb;replace HB:=HB2;cases q2
 ·exact sy5
 by_cases h20:20<S.length
 ·exact sy5
 go_wp2_with fail;refine(GM L b cb 10 _ (HL0.o.keep HB.o) oM _ HQ2.o).m ?_;rintro e wq ⟨rfl,hb⟩;have HB3:=hD (HB.o.on hb);clear hb;have h1:=Bool.and_eq_true_iff.1 HQ1.o;have h2:=Bool.and_eq_true_iff.1 HQ2.o;have HF1:=hD h1.1;have HF2:=hD h2.1;have HL1:Hid (A.length<=10):=hD (Qt h1.2);have HL2:Hid (L.length<=10):=hD (Qt h2.2);have HS20:=hD h20;clear h1 h2 HQ1 HQ2 HB1 HB2 HB;go_wp2_with fail;clear h20;refine(Ic 39 A a ca _ oM (HA0.o.keep HB3.o) HF1.o (by have:=HL1.o;omega)).m ?_;rintro e w4 ⟨X,m0,g,pq,pa,pc,ps,rfl,hm,hg,hs,fm,fg,hpl,hx,hb⟩;obtain⟨va,vn,vc,da,dc,s⟩:=pq;have hk4:=(bQ w4).aIw (cq #[s.F.N,.slice va vn vc,.slice da s.F.N dc,.slice pa ps pc] 34);have HB4:=hD ((HB3.o.on hb).on hk4);have HM:=hD (hm.aIx hk4);have HXL:Hid (w.heap.size<=X):=hD (by have:=HB3.o.size;omega);have HFM:=hD fm;have HPL:Hid (m0.past.length<=10):=hD (by have:=HL1.o;omega);clear hk4 hm hg hs fm fg hpl hx hb HB3 HA0 HF1 HL1;unfold rmV;simp only;go_upto_region 6 with fail;generalize w4.alloc (cq #[s.F.N,.slice va vn vc,.slice da s.F.N dc,.slice pa ps pc] 34)=W4 at *;go_wp2_with fail;refine(mmcopy_is X m0 _ HM.o (by have:=HPL.o;omega)).m ?_;rintro e w5 ⟨Z,rfl,hz,hzl,hb⟩;have HO:Hid (OWm w w5 X m0 Z m0 sn []):=hD ⟨HM.o.aIx hb,hz,RpR.nil _ _,HB4.o.on hb,HXL.o,by have:=HM.o.lt;omega⟩;clear hb hz hzl HM HB4 HXL;go_wp2_with fail;go_loopw [11,12] (λv i wr=>∃(k:Nat) (u:Value) (P:List RVw) (m:Mo Bk),k<=L.length/\i= .int .i64 k/\u=v/\Hid (P.map (·.c)=(L.take k).map (·.c))/\Hid (OWm w wr X m Z m0 u P)/\Hid m.fine/\Hid (m.past.length<=10+k)/\Hid (Ran Bk.zero (xZ (obS m.cur)) (xZ (obS m0.cur)) (P.map λx=>(x.c,x.r)))) (λ_ i _=>L.length-(intOf i).toNat)
 case atStart=>exact⟨0,_,[],m0,Yf _,rfl,rfl,hD rfl,HO,HFM,HPL,hD rfl⟩
 case round=>
  clear HO;obtain⟨k,u,P,m,hk,rfl,rfl,HPC,HO,HFC,HPM,HRN⟩:=hrel;have HPK:Hid (P.length=k):=hD (by have:=congrArg List.length HPC.o;simp at this;omega);by_cases hlt:k<L.length
  ·as_aux_lemma=>
   obtain⟨gb,go,rfl,hat⟩:=CmQ.of HL0.o HF2.o HO.o.g hlt;have HTK:Hid ((L.take (k+1)).map (·.c)=(L.take k).map (·.c)++[L[k].c]):=hD (by rw[Qh hlt,Yz];rfl);have HC:=hD (hat k _ (Qa hlt));generalize L[k]=x at HC HTK;obtain⟨⟨tg,kd,ao,af,vol,oth,cp,cn,dt⟩,xa,xk⟩:=x;obtain⟨⟨e0,e1,e2,e3,e4,e5,e6,e7,e8⟩,hfit,hdat,hfew,hgb⟩:=HC.o;simp only at e0 e1 e2 e3 e4 e5 e6 e7 e8 hfit hdat hfew;have hk0:(0:Int)<=k:=oM
   have hk1:(k:Int)<L.length:=oM
   have HMP:=hD (λW h1 h2=>yX X m ⟨tg,kd,ao,af,vol,oth,cp,cn,dt⟩ xa xk W h1 HFC.o (by have:=HPM.o;have:=HL2.o;omega) hfit h2 hfew);have HFW:=hD hfew;have HDT:=hD (hdat.keep HO.o.g);clear hat hfit hdat hfew hgb HC;obtain⟨rp,hrp⟩:∃r,kW Bk.zero m.cur (⟨tg,kd,ao,af,vol,oth,cp,cn,dt⟩:Cmd Bk)=r:=⟨_,rfl⟩;have HRP:=hD hrp;unfold JY cmV at HMP;rw[hrp]at HMP;clear hrp;obtain⟨rt,re,rD⟩:=rp;simp only at HMP HTK;go_wp2_with fail;refine(HMP.o _ HO.o.mo HDT.o).m ?_;rintro e w6 ⟨a3,k3,m',rfl,hap,hmo,hrd,hgr⟩;have hk6:=(bQ w6).aIw (cq #[rt,re,.slice a3 rD k3] 44);have HAP:=hD hap;have HO6:=hD ((HO.o.went1 hmo hgr).aIx hk6);have HBX:=hD (Bx3.new w6 _ rfl rt re (.slice a3 rD k3) 44);have HRD:=hD (hrd.keep hk6);clear hk6 hap hmo hrd hgr HMP HDT HO e0 e1 e2 e3 e4 e5 e6 e7 e8;go_upto_region 14 with fail;generalize w6.alloc (cq #[rt,re,.slice a3 rD k3] 44)=W6 at *;generalize w6.heap.size=T13 at *;obtain⟨c0,c1,c2,-⟩:=HBX.o;obtain⟨f1,hf1⟩:∃f,(decide (re=11)||decide (re=7))=f:=⟨_,rfl⟩;have HF:=hD (λW=>full_is rt re (.slice a3 rD k3) W);rw[hf1]at HF;have HFF:=hD hf1;clear hf1;go_wp2_with fail;refine(HF.o _).m ?_;rintro e w7 ⟨rfl,hb⟩;have HO7:=hD (HO6.o.aIx hb);have HRD7:=hD (HRD.o.keep hb);have d0:=hb.keep c0;have d1:=hb.keep c1;have d2:=hb.keep c2;clear hb HO6 HRD HBX HF c0 c1 c2;cases f1
   ·have hkl:=(bQ w7).aIw (cq #[rt,re,.slice a3 rD k3] 44);have HOl:=hD (HO7.o.aIx hkl);have HRl:=hD (HRD7.o.keep hkl);clear hkl;have hsz:=HO7.o.g.size;have h10:=HL2.o
    go_wp2_with (at_builtin;refine wpList_rep rfl _ _ rfl w.heap.size ⟨⟨tg,kd,ao,af,vol,oth,cp,cn,dt⟩,⟨rt,re,rD⟩,a3,k3⟩ rfl HOl.o.rr w7 1 rfl (new3 _ _ _ _ _) (by have:=HPK.o;have:=HL2.o;omega) (by simp only[World.size_alloc];omega) HRl.o ?_;intro v1 w8 hrr hgr)
    have HO8:=hD (HOl.o.app hrr hgr);have HR:=hD (ord_ran HFC.o HAP.o (by rw[HRP.o];exact HFF.o));clear hrr hgr HO7 HRD7 HOl HRl d0 d1 d2;go_wp2_with fail;go_roundw
    case rel=>
     refine⟨k+1,_,P++[⟨⟨tg,kd,ao,af,vol,oth,cp,cn,dt⟩,⟨rt,re,rD⟩,a3,k3⟩],m',oM,by go_num,rfl,hD ?_,HO8,hD (HAP.o.fine HFC.o HFW.o),hD (by have:=HAP.o.past;have:=HPM.o;omega),hD ?_⟩
     ·rw[HTK.o,Yz,HPC.o];rfl
     ·rw[Yz,HR.o.2,List.map_cons,List.map_nil];simp only;rw[<-HRP.o,HR.o.1];exact HRN.o.snoc _
    case measure=>simp[intOf];omega
   ·go_wp2_with fail;go_ret;exact⟨rfl,HO7.o.g⟩
  ·as_aux_lemma=>
   obtain rfl:k=L.length:=oM
   rw[List.take_length]at HPC;have hlw:L.length<=65536:=by have:=HL2.o;omega
   have hsz:=HO.o.g.size
   go_upto_region 18 with (at_make;refine FQ _ rfl _ _ 75 rfl underlying75 _ _ L.length rfl rfl hlw w wr.heap.size rfl hsz ?_;intro w6 ho1 hb1 hz1)
   have HD:Hid (ODm w w6 X m Z m0 u P wr.heap.size (List.replicate L.length false)):=hD ⟨HO.o.aIx hb1,by rw[Yt];unfold qX at ho1;rw[Yt]at ho1;exact ho1⟩;generalize wr.heap.size=G at *;clear ho1 hb1 hz1 hsz HO;obtain⟨PR,hPR⟩:∃PR,(P.map λx=>(x.c,x.r))=PR:=⟨_,rfl⟩;have HPR:=hD hPR;rw[hPR]at HRN;have HLR:Hid (L.map (·.c)=PR.map (·.1)):=hD (by rw[<-HPC.o,<-hPR,List.map_map];rfl);have HPRL:Hid (PR.length=L.length):=hD (by rw[<-hPR,Yy,HPK.o]);clear hPR;go_wp2_with fail;go_loopw [15] (λi wr=>∃(k:Nat) (n:Mo Bk) (D:List Bool),k<=L.length/\i= .int .i64 k/\Hid (D.length=L.length)/\Hid (ODm w wr X m Z n u P G D)/\Hid n.fine/\Hid (n.past.length<=10+k)/\Hid (Ran Bk.zero (xZ (obS m.cur)) (xZ (obS n.cur)) (remD D PR))/\Hid ((remD D PR).length+k=L.length)) (λi _=>L.length-(intOf i).toNat)
   case atStart=>exact⟨0,m0,_,Yf _,rfl,hD (Yt ..),HD,HFM,HPL,hD (by rw[<-HPRL.o,remD_new];exact HRN.o),hD (by rw[<-HPRL.o,remD_new];rfl)⟩
   case round=>
    clear HD;obtain⟨k,n,D,hk,rfl,HDL,HD,HFN,HPN,HRD,HRL⟩:=hrel;by_cases hlt:k<L.length
    ·as_aux_lemma=>
     have hdl:=HDL.o;have HEL:=hD (λW h1 h2=>relig_is L D b cb G 0 D.length W h1 h2 hdl (by have:=HL2.o;omega));rw[hdl]at HEL;clear hdl;go_wp2_with fail;refine(HEL.o _ (HL0.o.keep HD.o.ow.g) HD.o.dnr).m ?_;rintro e w7 ⟨E,v,rfl,ho,he,hb⟩;have HD7:=hD (HD.o.aIx hb);have HEP:=hD he;have hne:=he.one (by
      obtain⟨j,j1,j2⟩:=remD_one (D:=D) (X:=PR) (λq=>by have:=HRL.o;rw[q]at this;simp at this;omega)
      exact⟨j,by have:=HPRL.o;omega,j2⟩)
     clear hb HD HEL he;rcases ho.form with ⟨_,h0⟩|⟨ge,ce,rfl,_,_,_,_,hcell,_⟩
     ·exact absurd (by simpa using h0) hne
     have hel:0<E.length:=List.length_pos_iff.2 hne;rw[Yy]at *;have HCE:=hD (λ(i κ:Nat) (q:E[i]? =some κ)=>hcell i (κ:Int) (by rw[Yw,q];rfl));have z0:=HCE.o 0 _ (Qa hel);have HM0:=hD (Qm hel);generalize E[0]=κ0 at z0 HM0;clear hcell hne ho
     go_upto_if 80 with (fail)
     go_cut [17] from 81 to 91 (λv wx=>∃κ:Nat,v= .int .i64 κ/\Hid (κ∈E)/\Hid (Below w7 w7 wx))
     case first=>
      by_cases hks:k<S.length
      ·obtain⟨gs,os,rfl,hsat⟩:=HS0.o.2.2.resolve_left (λe=>by rw[e]at hks;simp at hks);have hs0:=hsat k _ (Qa hks);have hs0:=HD7.o.ow.g.keep hs0;have hs9:=HS0.o.2.1 _ (Qm hks);generalize S[k]=sx at hs0 hs9;have hm:=Nat.mod_lt sx hel;have zm:=HCE.o (sx%E.length) _ (Qa hm);have HMm:=hD (Qm hm);generalize E[sx%E.length]=κm at zm HMm;have hmm:((sx%E.length:Nat):Int)=(sx:Int)%(E.length:Int):=oM
       go_wp2_with fail;go_meet;exact⟨κm,rfl,HMm,hD bR⟩
      ·go_wp2_with fail;go_meet;exact⟨κ0,rfl,HM0,hD bR⟩
     case rest=>
      obtain⟨κ,rfl,HKE,HBK⟩:=hcut;generalize hw9:wc=w9 at *;have HD9:=hD (HD7.o.aIx HBK.o);clear hw9 HD7 HBK HCE z0 HM0 hel;obtain⟨hκl,hκd,-⟩:=HEP.o.1 κ HKE.o;have hκp:κ<P.length:=by have:=HPK.o;omega
      obtain ⟨y,hy⟩:∃y,P[κ]? =some y:=⟨_,Qa hκp⟩;have HY:=hD hy;have HPX:Hid (PR[κ]? =some (y.c,y.r)):=hD (by rw[<-HPR.o,Yw,hy];rfl);have hLc:L[κ].c=y.c:=by
       have h1:(P.map (·.c))[κ]? =some y.c:=by rw[Yw,hy];rfl
       rw[HPC.o,Yw,Qa hκl]at h1;exact Qv h1
      have hd0:w9 (cw G (κ))=some (.bool false):=by rw[HD9.o.cell κ,hκd];rfl
      have hf0:=World.ownsRow.frozenAt HD9.o.dn κ;have hk0:(0:Int)<=κ:=oM
      have hk1:(κ:Int)<L.length:=oM
      clear hy hκp hκd;go_upto_region 26 with fail;have HD10:=hD (HD9.o.mark κ);clear HD9 hd0 hf0;generalize w9.setCell (cw G (κ)) true=W10 at *;obtain⟨gb,go,rfl,hat⟩:=CmQ.of HL0.o HF2.o HD10.o.ow.g hκl;have HC:=hD (hat κ _ (Qa hκl));generalize L[κ]=x at HC hLc;obtain⟨⟨tg,kd,ao,af,vol,oth,cp,cn,dt⟩,xa,xk⟩:=x;obtain⟨⟨e0,e1,e2,e3,e4,e5,e6,e7,e8⟩,hfit,hdat,hfew,hgb⟩:=HC.o;simp only at e0 e1 e2 e3 e4 e5 e6 e7 e8 hfit hdat hfew;simp only at hLc;have HLC:=hD hLc;have HMP:=hD (λW h1 h2=>yX Z n ⟨tg,kd,ao,af,vol,oth,cp,cn,dt⟩ xa xk W h1 HFN.o (by have:=HPN.o;have:=HL2.o;omega) hfit h2 hfew);have HFW:=hD hfew;have HDT:=hD (hdat.keep HD10.o.ow.g);clear hat hfit hdat hfew hgb HC hLc;obtain⟨rp,hrp⟩:∃r,kW Bk.zero n.cur (⟨tg,kd,ao,af,vol,oth,cp,cn,dt⟩:Cmd Bk)=r:=⟨_,rfl⟩;have HRP:=hD hrp;unfold JY cmV at HMP;rw[hrp]at HMP;clear hrp;obtain⟨rt,re,rD⟩:=rp;simp only at HMP;go_wp2_with fail;refine(HMP.o _ HD10.o.ow.mz HDT.o).m ?_;rintro e w11 ⟨a3,k3,n',rfl,hap,hmo,hrd,hgr⟩;have hk11:=(bQ w11).aIw (cq #[rt,re,.slice a3 rD k3] 44);have HAP:=hD hap;have HD11:=hD ((HD10.o.went2 hmo hgr).aIx hk11);have HBX:=hD (Bx3.new w11 _ rfl rt re (.slice a3 rD k3) 44);have HDA:=hD (hrd.keep hk11);clear hk11 hap hmo hrd hgr HMP HDT HD10 e0 e1 e2 e3 e4 e5 e6 e7 e8;go_upto_region 27 with fail;generalize w11.alloc (cq #[rt,re,.slice a3 rD k3] 44)=W11 at *;generalize w11.heap.size=T18 at *;obtain⟨c0,c1,c2,-⟩:=HBX.o;obtain⟨f1,hf1⟩:∃f,(decide (re=11)||decide (re=7))=f:=⟨_,rfl⟩;have HF:=hD (λW=>full_is rt re (.slice a3 rD k3) W);rw[hf1]at HF;have HFF:=hD hf1;clear hf1;go_wp2_with fail;refine(HF.o _).m ?_;rintro e w12 ⟨rfl,hb⟩;have HD12:=hD (HD11.o.aIx hb);have HDA2:=hD (HDA.o.keep hb);have d0:=hb.keep c0;have d1:=hb.keep c1;have d2:=hb.keep c2;clear hb HD11 HDA HBX HF c0 c1 c2;cases f1
      ·have HR:=hD (ord_ran HFN.o HAP.o (by rw[HRP.o];exact HFF.o));have HST:=hD (ord_step HEP.o HKE.o HLR.o HPX.o HRD.o);rw[<-HLC.o,<-HR.o.2]at HST;have hyr:y.r=⟨rt,re,rD⟩:=HST.o.1.trans (HR.o.1.symm.trans HRP.o);rcases HD12.o.ow.rr.own.2 with ⟨_,h0⟩|⟨gw,cap,cur,rfl,_⟩
       ·have:=HPK.o;omega
       have hw:=HD12.o.ow.rr.at HY.o;have HYD:Hid (RdB w12 y.a y.r.data):=hD (HD12.o.ow.rr.dat y (List.mem_of_getElem? HY.o));rw[hyr]at hw HYD;simp only at hw HYD;obtain⟨v0,v1,v2⟩:=hw;have hkp:(κ:Int)<P.length:=by have:=HPK.o;omega
       clear hyr;go_upto_region 29 with fail;refine wpr ?_
       repeat(go_big_quiet_step ((go_at_call 18;exact Calls.aJb (yF ⟨rt,re,rD⟩ a3 y.a k3 y.k _ (HDA2.o.keep (World.aIy _ _)) (HYD.o.keep (World.aIy _ _))))))
       refine wqn λnq=> ?_;have HD13:=hD (HD12.o.aIx (World.aIy _ nq));clear HD12 HDA2 HYD d0 d1 d2 v0 v1 v2;generalize w12.next nq=W13 at *;have h10:=HL2.o;go_wp2_with fail;go_roundw
       case rel=>exact⟨k+1,n',D.set κ true,oM,by go_num,hD (by rw[List.length_set];exact HDL.o),HD13,hD (HAP.o.fine HFN.o HFW.o),hD (by have:=HAP.o.past;have:=HPN.o;omega),hD HST.o.2.1,hD (by have:=HST.o.2.2;have:=HRL.o;omega)⟩
       case measure=>simp[intOf];omega
      ·go_wp2_with fail;go_ret;exact⟨rfl,HD12.o.ow.g⟩
    ·as_aux_lemma=>
     obtain rfl:k=L.length:=oM
     have hnil:=Qz (show(remD D PR).length=0 by have:=HRL.o;omega);have hob:=HRD.o;rw[hnil]at hob;have hob:xZ (obS m.cur)=xZ (obS n.cur):=hob;have hoe:=ob_ext (ob_sorted HFC.o.cur.sound.ok) (ob_sorted HFN.o.cur.sound.ok) λnm=>by rw[hob]
     have HSM:=hD (λW h1 h2=>mmsame_is X Z m n W h1 h2 HFC.o.cur.sound HFN.o.cur.sound);rw[hoe,sameO_refl]at HSM;clear hnil hob hoe;go_wp2_with fail;refine(HSM.o _ HD.o.ow.mo HD.o.ow.mz).m ?_;rintro e w9 ⟨rfl,hb⟩;have HE:=hD (HD.o.ow.g.on hb);clear hb HD HSM;go_wp2_with fail;go_ret;exact⟨rfl,HE.o⟩
end Go.Proofs.YtphfgbbbejloaaaGreatDoor
