/- Copies behind each command, plain. Conditions: as each theorem says. -/
import Derived.Test.YtphfgbbbejloaaaGreatDoorMiA
set_option linter.unusedSimpArgs false
set_option linter.unusedVariables false
set_option maxRecDepth 100000
set_option maxHeartbeats 16000000
namespace Go.Proofs.YtphfgbbbejloaaaGreatDoor
open Go.RowKit Go.Maps
open Go.Proofs.Tryz
theorem sy8{P:Prop}(h:P:=by have:=HZL.o;simp;omega):P:=h
theorem sy9{P:Prop}(h:P:=by have:=HTL.o;simp;omega):P:=h
theorem sy7{P:Prop}(h:P:=by
  obtain rfl:tb=false:=by rw[<-HTB.o];simp
  have HST:=HST0;simp only[Bool.false_eq_true,if_false]at HST;exact sy5
  ):P:=h
theorem sy5{P:Prop}(h:P:=by
  go_wp2_with fail;refine(mmcopy_is X m' _ HP7.o.mo (by have:=HPL2.o;have:=HL1.o;omega)).m ?_;rintro e w9 ⟨Z,rfl,hz,hzl,hb⟩;have HP9:=hD (HP7.o.aIx hb);have HNE:Hid (X≠Z):=hD (by have:=HP7.o.mo.lt;omega);have hka:=(bQ w9).aIw (cq #[.pointer (cw Z 0)] 25);have HPa:=hD (HP9.o.aIx hka);have HZa:=hD (hz.aIx hka);have hsz:=HPa.o.g.size;clear hb hz hzl hka HP7 HP9
  go_wp2_with (at_builtin;first|(refine wpList_rw rfl _ _ 65 rfl underlying65 _ infoP25 rfl (λk x e=>by cases e) (.pointer (cw Z 0)) rfl HPa.o.rc w9 1 rfl sM rfl (λk x e=>by cases e) (by have:=HZL.o;have:=HL1.o;simp;omega) hsz ?_;intro v1 w11 hr1 hd1;have HPb:=hD (HPa.o.addc HZa.o HNE.o hr1 hd1);have hkb:=(bQ w11).aIw (cq #[(tot:Int)] 3);have HPc:=hD (HPb.o.aIx hkb);have hszc:=HPc.o.g.size;clear hr1 hd1 hkb hsz)|(refine wpList_rw rfl _ _ 66 rfl underlying66 _ RQ rfl ⟨_,_,rfl⟩ (tot:Int) rfl HPc.o.rn w11 1 rfl sM rfl ⟨_,_,rfl⟩ (by have:=HTL.o;have:=HL1.o;simp;omega) hszc ?_;intro v2 w13 hr2 hd2;have HPd:=hD (HPc.o.addn (t:=tot) hr2 hd2);clear hr2 hd2 hszc))
  go_wp2_with fail;go_roundw
  case rel=>exact⟨k+1,⟨v2.ownBlock⟩,m',Zs++[(Z,m')],ts++[tot],tot,v1,v2,oM,by go_num,by go_num,rfl,rfl,HPd,hD (by rw[Yz];exact HST.o),HFM2,hD (λz q=>by
   rcases Qn.1 q with q|q
   ·exact HFZ.o z q
   ·rw[List.mem_singleton.1 q];exact HFM2.o),HPL2,hD (by have:=HTT.o;omega),hD sy8,hD sy9⟩
  case measure=>simp[intOf];omega
  ):P:=h
theorem sy6{P:Prop}(h:P:=by
  exact⟨j,by rw[Ym (Qx.1 hj).1];exact hj⟩
  ):P:=h
section
variable{α:Type}{z:α}{s s' t:MSt α}{c:Cmd α}{m m':Mo α}
structure Pfx(Ms:List (Mo α))(ts:List Nat)(m:Mo α)(tot:Nat):Prop where
 len:ts.length=Ms.length
 le:m.past.length<=tot
 all:∀t,t<=tot-> ∃j:Nat,ts[j]? =some t
 bd:∀(j:Nat) t,ts[j]? =some t->t<=tot
 top:∀(j:Nat) M,Ms[j]? =some M->ts[j]? =some tot->M.cur=m.cur
 past:∀(k:Nat) s,m.past[k]? =some s-> ∀(j:Nat) M,Ms[j]? =some M->ts[j]? =some (tot-m.past.length+k)->M.cur=s
theorem Pfx.start(m:Mo α)(h:m.past=[]):Pfx [m] [0] m 0:=by
 refine⟨rfl,by rw[h];exact Yf _,λt ht=>⟨0,by rw[show t=0 by omega];rfl⟩,λj t hj=> ?_,λj M hj _=> ?_,λk s hk=>by rw[h]at hk;simp at hk⟩
 ·cases j with
  |zero=>simp at hj;omega
  |succ j=>simp at hj
 ·cases j with
  |zero=>simp at hj;rw[hj]
  |succ j=>simp at hj
theorem snoc_get{β:Type}{l:List β}{x y:β}{j:Nat}(h:(l++[x])[j]? =some y):l[j]? =some y∨(j=l.length/\y=x):=by
 by_cases hj:j<l.length
 ·rw[Ym hj]at h;exact .inl h
 ·have hlt:=(Qx.1 h).1;rw[Qg,List.length_singleton]at hlt;obtain rfl:j=l.length:=oM
  rw[List.getElem?_append_right (Ye _)]at h;simp at h;exact .inr ⟨rfl,h.symm⟩
def tranB(s:MSt α)(c:Cmd α):Bool:=decide ((kW (c:=c) (z:=z) s).err=0)&&(decide (c.kd≠1)&&decide (c.kd≠4))
theorem tran_iff(s:MSt α)(c:Cmd α):tranB (z:=z) s c=true↔c.valid=true/\fE s.F c=0/\c.kd≠1/\c.kd≠4:=by
 unfold tranB kW;simp only[Qd,Qc];by_cases hv:c.valid=true
 ·rw[Qf hv];simp only[hv,true_and]
 ·rw[Qe hv];simp only
  constructor
  ·intro h;exact absurd h.1 dE
  ·intro h;exact absurd h.1 hv
theorem Pfx.step{Ms:List (Mo α)}{ts:List Nat}{tot:Nat}(h:Pfx Ms ts m tot)(ha:Ap z m c m'):Pfx (Ms++[m']) (ts++[if tranB (z:=z) m.cur c=true then tot+1 else tot]) m' (if tranB (z:=z) m.cur c=true then tot+1 else tot):=by
 have hlen:(ts++[if tranB (z:=z) m.cur c=true then tot+1 else tot]).length=(Ms++[m']).length:=by simp[h.len]
 have two:∀{x:Nat} {j:Nat} {M:Mo α} {t:Nat},(Ms++[m'])[j]? =some M->(ts++[x])[j]? =some t->(Ms[j]? =some M/\ts[j]? =some t)∨(M=m'/\t=x):=λ{x j M t} h1 h2=>by
  rcases snoc_get h1 with a1|⟨a1,a2⟩
  ·rcases snoc_get h2 with b1|⟨b1,b2⟩
   ·exact .inl ⟨a1,b1⟩
   ·have:=(Qx.1 a1).1;have:=h.len;omega
  ·rcases snoc_get h2 with b1|⟨b1,b2⟩
   ·have:=(Qx.1 b1).1;have:=h.len;omega
   ·exact .inr ⟨a2,b2⟩
 by_cases q:tranB (z:=z) m.cur c=true
 ·rw [Qf q]at hlen ⊢;obtain⟨q1,q2,q3,q4⟩:=(tran_iff _ _).1 q;unfold Ap at ha;rw[Qf ⟨q1,q2,q3⟩,Qe q4]at ha;have hle:=h.le;have hl2:m'.past=[]∨m'.past=m.past++[m.cur]:=by
   rw[ha.2]
   split
   ·exact .inl rfl
   ·exact .inr rfl
  refine⟨hlen,?_,λt ht=> ?_,λj t hj=> ?_,λj M h1 h2=> ?_,λk s hk j M h1 h2=> ?_⟩
  ·rcases hl2 with e|e <;> rw[e]
   ·exact Yf _
   ·rw[Qg,List.length_singleton];omega
  ·by_cases e:t=tot+1
   ·exact⟨ts.length,by rw[List.getElem?_append_right (Ye _)];simp[e]⟩
   ·obtain⟨j,hj⟩:=h.all t oM;exact sy6
  ·rcases snoc_get hj with hj|⟨_,hj⟩
   ·have:=h.bd j t hj;omega
   ·omega
  ·rcases two h1 h2 with ⟨_,b⟩|⟨a,_⟩
   ·have:=h.bd _ _ b;omega
   ·rw[a]
  ·rcases hl2 with e|e
   ·rw[e]at hk;simp at hk
   ·rw [e,Qg,List.length_singleton]at h2;rw[e]at hk;have hkl:k<=m.past.length:=by
     have:=(Qx.1 hk).1;rw[Qg,List.length_singleton]at this;omega
    rcases two h1 h2 with ⟨a,b⟩|⟨_,b⟩
    ·rcases snoc_get hk with hk|⟨rfl,rfl⟩
     ·exact h.past k s hk j M a (by rw[b];congr 1;omega)
     ·exact h.top j M a (by rw[b];congr 1;omega)
    ·omega
 ·rw [Qe q]at hlen ⊢;have hcur:m'.cur=m.cur/\(m'.past=[]∨m'.past=m.past):=by
   unfold Ap at ha
   split at ha
   ·rename_i q2
    split at ha
    ·rw[ha];exact⟨rfl,.inl rfl⟩
    ·rename_i q4
     exact absurd ((tran_iff _ _).2 ⟨q2.1,q2.2.1,q2.2.2,q4⟩) q
   ·rw[ha];exact⟨rfl,.inr rfl⟩
  have hle:=h.le;refine⟨hlen,?_,λt ht=> ?_,λj t hj=> ?_,λj M h1 h2=> ?_,λk s hk j M h1 h2=> ?_⟩
  ·rcases hcur.2 with e|e <;> rw[e]
   ·exact Yf _
   ·exact hle
  ·obtain⟨j,hj⟩:=h.all t ht;exact sy6
  ·rcases snoc_get hj with hj|⟨_,hj⟩
   ·exact h.bd j t hj
   ·omega
  ·rcases two h1 h2 with ⟨a,b⟩|⟨a,_⟩
   ·rw[hcur.1];exact h.top j M a b
   ·rw[a]
  ·rcases hcur.2 with e|e
   ·rw[e]at hk;simp at hk
   ·rw[e]at hk h2;have hkl:=(Qx.1 hk).1;rcases two h1 h2 with ⟨a,b⟩|⟨_,b⟩
    ·exact h.past k s hk j M a b
    ·omega
theorem Pfx.cut{Ms:List (Mo α)}{ts:List Nat}{tot:Nat}(h:Pfx Ms ts m tot){k:Nat}(hk:k<=m.past.length){j:Nat}{M:Mo α}(h1:Ms[j]? =some M)(h2:ts[j]? =some (tot-m.past.length+k)):(lC m k).1.cur=M.cur/\(lC m k).2=0/\(lC m k).1.past=[]:=by
 unfold lC;rw[Qe oM];refine⟨?_,rfl,rfl⟩;simp only[Int.toNat_natCast];by_cases e:k<m.past.length
 ·rw[Qa e];exact(h.past k _ (Qa e) j M h1 h2).symm
 ·obtain rfl:k=m.past.length:=oM
  rw[List.getElem?_eq_none (Ye _)];have:=h.le;exact(h.top j M h1 (by rw[h2];congr 1;omega)).symm
end
theorem zc_mem{z:Array Value}{n:Nat}{u:Value}(h:u∈Builtin.zeroCells z n):u∈z:=by
 unfold Builtin.zeroCells at h;obtain⟨i,hi,rfl⟩:=Array.mem_map.1 h;have h0:0<z.size:=by
  rcases Nat.eq_zero_or_pos z.size with e|e
  ·rw[e]at hi;simp at hi
  ·exact e
 rw[getElem!_pos z _ (Nat.mod_lt _ h0)];exact Array.getElem_mem _
structure RwP(W:Wd)(B:Nat)(t:TypeId)(pr:Value->Prop)(v:Value)(xs:List Value):Prop where
 own:W.ownsRow B t 1 v xs.length xs
 all:∀g,v.ownBlock=some g-> ∃cur,W.heap[g]? =some (.cells cur t (0,0))/\ ∀u∈cur,pr u
section
variable{w W W':Wd}{B:Nat}{t:TypeId}{pr:Value->Prop}{v v':Value}{xs:List Value}
theorem RwP.aIx(h:RwP W B t pr v xs)(hb:Below W W W'):RwP W' B t pr v xs:=by
 refine⟨World.ownsRow.kept h.own (row:=none) ⟨hb.os,hb.tape,hb.output,hb.size,λk hk _=>hb.block k hk⟩ (by cases v.ownBlock <;> simp),λg e=> ?_⟩;obtain⟨cur,hc,hn⟩:=h.all g e;exact⟨cur,by rw[hb.block g (Array.getElem?_eq_some_iff.1 hc).1];exact hc,hn⟩
theorem RwP.other{Y:Nat}(h:RwP W B t pr v xs)(hg:W.grownBy W' (some Y))(hne:v.ownBlock≠some Y):RwP W' B t pr v xs:=by
 refine⟨World.ownsRow.kept h.own hg (.inr hne),λg e=> ?_⟩;obtain⟨cur,hc,hn⟩:=h.all g e;exact⟨cur,by rw[hg.block g (Array.getElem?_eq_some_iff.1 hc).1 (λq=>hne (e.trans q))];exact hc,hn⟩
theorem RwP.ne{Y:Nat}{t':TypeId}(h:RwP W B t pr v xs)(ht:jH W Y t')(hne:t≠t'):v.ownBlock≠some Y:=λe=>by
 obtain⟨cur,hc,_⟩:=h.all Y e;exact jH.ne (t:=t) ⟨cur,_,hc⟩ ht hne rfl
theorem RwP.cell{g i:Nat}{u:Value}(h:RwP W B t pr v xs)(e:v.ownBlock=some g)(hc:W (cw g i)=some u):pr u:=by
 obtain⟨cur,hg,hn⟩:=h.all g e;rw[cell_of_row W g i cur t _ hg]at hc;exact hn u (Array.mem_of_getElem? hc)
theorem RwP.lit(W:Wd)(B:Nat)(t:TypeId)(pr:Value->Prop)(x:Value)(hB:B<=W.heap.size)(hx:pr x):RwP (W.alloc (cq #[x] t)) B t pr (.slice (cw W 0) 1 1) [x]:=by
 refine⟨World.ownsRow_lit W #[x] 1 hB (by simp[maxLen]) rfl,λg e=> ?_⟩;cases e;exact⟨_,heap_alloc_new W _,λu q=>by simp at q;rw[q];exact hx⟩
theorem RwP.form(h:RwP W B t pr v xs)(h0:0<xs.length):∃g c,v= .slice (cw g 0) xs c/\ ∀k,k<xs.length->W (cw g k)=xs[k]? :=by
 have ho:=h.own;rcases h.own.2 with ⟨_,q⟩|⟨g,cap,cur,rfl,_⟩
 ·omega
 ·exact⟨g,cap,rfl,λk hk=>ho.cellAt k oM⟩
theorem wpList_rw{ops:Array Oper}{rest:List Oper}{o:Oper}{a:Act}{Q:Exit->Act->Wd->Prop}(hgd:o.guard=none)(s x:Operand)(ts:TypeId)
  (ho:o.op= .call {callee:= .builtin .append,args:= #[s,x],argTypes:= #[ts,ts]}) (ht:prog.underlying ts=some (.slice t)) (z:Value) (info:(prog.info? t).map (λi=>(i.zero,i.size,i.bytes))=some (some z,1,8)) (hzc:z.cells= #[z]) (hz:pr z)
  (y:Value) (hs:a.eval s=v) (h0:RwP W B t pr v xs) (ad:Nat) (c:Nat) (hx:a.eval x= .slice (cw ad 0) 1 c)
  (hy:W (cw ad 0)=some y) (y1:y.oneCell'=true) (yp:pr y) (hl:xs.length<=1000) (hB:B<=W.heap.size)
  (h:∀v' w',RwP w' B t pr v' (xs++[y])->((v'.ownBlock=v.ownBlock/\W.grownBy w' v.ownBlock)∨(v'.ownBlock=some W.heap.size/\Below W W w'))->wpList prog ops Q rest (a.put o.dst v') w'):wpList prog ops Q (o::rest) a W:=by
 obtain ⟨i,hi,hz0,hsz,hby⟩:=info_parts info;have hy':∀j u,([y]:List Value)[j]? =some u->W.cell? (((cw ad 0):Addr).add j)=some u:=λj u q=>by
  rw[Addr.add_lit,Nat.zero_add]
  match j,q with
  |0,q=>cases q;exact hy
  |j+1,q=>simp at q
 have y1':∀u∈ [y],u.oneCell'=true:=λu q=>by rw[List.mem_singleton.1 q];exact y1
 have hyl:([y]:List Value).length=1*i.size:=by rw[hsz];rfl
 have z8:∀u∈z.cells,pr u:=λu q=>by rw[hzc]at q;simp at q;rw[q];exact hz
 refine wpList_plain hgd λK hK=> ?_;obtain⟨v',w',hr,h2,h3,_⟩:=Ad (P:=prog) W B ts o.type t i z 1 8 ht hi hz0 hsz hby (by rw[hzc];rfl) dE v xs.length _ h0.own (cw ad 0) 1 c [y] rfl hy' y1' oM (by simp only[maxLen];omega) hB;have key:((v'.ownBlock=v.ownBlock/\W.grownBy w' v.ownBlock)∨(v'.ownBlock=some W.heap.size/\Below W W w'))/\ ∀g,v'.ownBlock=some g-> ∃cur,w'.heap[g]? =some (.cells cur t (0,0))/\ ∀u∈cur,pr u:=by
  have hbw:∀cs:Array Value,Below W W (W.drew.alloc (.cells cs t)):=λcs=>(bQ W).drew.aIw _;have hfresh:∀cs:Array Value,(∀u∈cs,pr u)-> ∀(n c g:Nat),(Value.slice (cw W 0) n c).ownBlock=some g-> ∃cur,(W.drew.alloc (.cells cs t)).heap[g]? =some (.cells cur t (0,0))/\ ∀u∈cur,pr u:=λcs hc n c g e=>by
   cases e;exact⟨cs,heap_alloc_new W.drew _,hc⟩
  rcases h0.own.2 with ⟨rfl,hn0⟩|⟨b,cap,cur,rfl,_,hg,hnc,_,hcs,htk⟩
  ·have hr2:=run_append_nil (P:=prog) W ts o.type t i z ht hi hz0 (cw ad 0) 1 c [y] hyl hy' oM oM (by rw[hby];omega);rw[hr]at hr2;injection hr2 with e1 e2;subst e1 e2;exact⟨.inr ⟨rfl,hbw _⟩,hfresh _ (λu q=>by
    simp only[Array.mem_append,List.mem_toArray,List.mem_singleton]at q;rcases q with q|q
    ·rw[q];exact yp
    ·exact z8 u (zc_mem q)) _ _⟩
  ·obtain ⟨cur2,hg2,hn2⟩:=h0.all b rfl;rw[hg]at hg2;injection hg2 with hg2;injection hg2 with hg2;subst hg2;by_cases hroom:xs.length+1<=cap
   ·have hr2:=run_append_room (P:=prog) W ts o.type t i ht hi b xs.length cap cur hg (cw ad 0) 1 c [y] hyl hy' y1' hroom (by rw[hsz,hcs];simp;omega);rw[hr]at hr2;injection hr2 with e1 e2;subst e1 e2;refine⟨.inl ⟨rfl,h3⟩,λg e=> ?_⟩;cases e;refine⟨_,setRow_heap W b cur _ _ _ hg,λu q=> ?_⟩;simp only[List.mem_toArray,Qn,List.mem_singleton]at q;rcases q with (q|q)|q
    ·exact hn2 u (by simpa using List.mem_of_mem_take q)
    ·rw[q];exact yp
    ·exact hn2 u (by simpa using List.mem_of_mem_drop q)
   ·have hr2:=run_append_grow (P:=prog) W ts o.type t i z ht hi hz0 (cw b 0) xs.length cap _ (by rw[hsz,Nat.mul_one]) (h0.own.cells (g:=b) rfl) (cw ad 0) 1 c [y] hyl hy' oM oM (growslice_fits oM (by rw[hby];omega));rw[hr]at hr2;injection hr2 with e1 e2;subst e1 e2;exact⟨.inr ⟨rfl,hbw _⟩,hfresh _ (λu q=>by
     simp only[Array.mem_append,List.mem_toArray,List.mem_singleton]at q;rcases q with (q|q)|q
     ·rw[<-htk]at q;exact hn2 u (by simpa using List.mem_of_mem_take q)
     ·rw[q];exact yp
     ·exact z8 u (zc_mem q)) _ _⟩
 unfold Oper.wp execOp;simp only[ho,resolve,invoke,builtin,Sem.run_bind,Sem.run_pure,Result.andThen_ok,List.map_toArray,List.map_cons,List.map_nil,hs,hx,hr];exact hK _ _ (h v' w' ⟨by rw[Qg];exact h2,key.2⟩ key.1)
end
def noI(u:Value):Prop:= ∀k x,u≠ .int k x
def isI(u:Value):Prop:= ∃k x,u= .int k x
theorem MoB.ty{G:Gst}{W:Wd}{X:Nat}{m:Mo Bk}(h: @MoB G W X m):jH W X 90:=by
 obtain⟨M,b,a,c,ps,h1,_⟩:=h;exact h1.ty
structure PfR[Gst](w W:Wd)(X:Nat)(m:Mo Bk)(Zs:List (Nat × Mo Bk))(vc vn:Value)(ts:List Nat):Prop where
 mo:MoB W X m
 cs:∀z∈Zs,MoB W z.1 z.2/\X≠z.1
 rc:RwP W w 25 noI vc (Zs.map λz=> .pointer (cw z.1 0))
 rn:RwP W w 3 isI vn (ts.map λt:Nat=> .int .i64 t)
 gh:Gst.g=vn.ownBlock
 g:Below w w W
 lx:w.heap.size<=X
section
variable{w W W':Wd}{X:Nat}{m m':Mo Bk}{Zs:List (Nat × Mo Bk)}{vc vn v':Value}{ts:List Nat}
theorem PfR.aIx[Gst](h:PfR w W X m Zs vc vn ts)(hb:Below W W W'):PfR w W' X m Zs vc vn ts:=
 ⟨h.mo.aIx hb,λz q=>⟨(h.cs z q).1.aIx hb,(h.cs z q).2⟩,h.rc.aIx hb,h.rn.aIx hb,h.gh,h.g.on hb,h.lx⟩
theorem PfR.went[Gst](h:PfR w W X m Zs vc vn ts)(hm:MoB W' X m')(hg:W.grownBy W' (some X)):PfR w W' X m' Zs vc vn ts:=by
 have h1:=h.lx;exact⟨hm,λz q=>⟨(h.cs z q).1.aJm h.mo.odM hg (h.cs z q).2.symm,(h.cs z q).2⟩,h.rc.other hg (h.rc.ne h.mo.ty dE),h.rn.other hg (h.rn.ne h.mo.ty dE),h.gh,h.g.aJa hg (λj e=>by injection e with e;omega),h1⟩
theorem PfR.addc[Gst]{Z:Nat}(h:PfR w W X m Zs vc vn ts)(hz:MoB W Z m')(hne:X≠Z)(hr:RwP W' w 25 noI v' ((Zs.map λz=> .pointer (cw z.1 0))++[.pointer (cw Z 0)]))
  (hd:(v'.ownBlock=vc.ownBlock/\W.grownBy W' vc.ownBlock)∨(v'.ownBlock=some W.heap.size/\Below W W W')):PfR w W' X m (Zs++[(Z,m')]) v' vn ts:=by
 have fin:MoB W' X m->(∀Y q,MoB W Y q->MoB W' Y q)->RwP W' w 3 isI vn (ts.map λt:Nat=> .int .i64 t)->Below w w W'->PfR w W' X m (Zs++[(Z,m')]) v' vn ts:=λa b c d=>
  ⟨a,λz q=>by
   rcases Qn.1 q with q|q
   ·exact⟨b _ _ (h.cs z q).1,(h.cs z q).2⟩
   ·obtain rfl:=List.mem_singleton.1 q
    exact⟨b _ _ hz,hne⟩,by rw[Yz];exact hr,c,h.gh,d,h.lx⟩
 have low:Below W W W'->PfR w W' X m (Zs++[(Z,m')]) v' vn ts:=λhb=>fin (h.mo.aIx hb) (λ_ _ q=>q.aIx hb) (h.rn.aIx hb) (h.g.on hb);rcases hd with ⟨_,hg⟩|⟨_,hb⟩
 ·cases hb:vc.ownBlock with
  | none=>
   rw[hb]at hg;exact low (rG hg)
  | some g=>
   rw[hb]at hg;obtain⟨cur,hc,_⟩:=h.rc.all g hb;have ht:jH W g 25:=⟨cur,_,hc⟩;have od:OdM W g:=⟨λx p vr d n q hn=>h.rc.cell hb hn.s _ _ rfl,.inl ⟨_,dE,ht⟩,_,dE,dE,ht⟩;have q3:=World.ownsRow.lt h.rc.own g hb;have ne:∀{Y:Nat} {q:Mo Bk},MoB W Y q->Y≠g:=λhY e=>h.rc.ne hY.ty dE (e ▸ hb);exact fin (h.mo.aJm od hg (ne h.mo)) (λ_ _ q=>q.aJm od hg (ne q)) (h.rn.other hg (h.rn.ne ht dE)) (h.g.aJa hg (λj e=>by injection e with e;omega))
 ·exact low hb
theorem PfR.addn[G:Gst]{t:Nat}(h:PfR w W X m Zs vc vn ts)(hr:RwP W' w 3 isI v' ((ts.map λt:Nat=> .int .i64 t)++[.int .i64 t]))
  (hd:(v'.ownBlock=vn.ownBlock/\W.grownBy W' vn.ownBlock)∨(v'.ownBlock=some W.heap.size/\Below W W W')): @PfR ⟨v'.ownBlock⟩ w W' X m Zs vc v' (ts++[t]):=by
 have hr':RwP W' w 3 isI v' ((ts++[t]).map λt:Nat=> .int .i64 t):=by rw[Yz];exact hr
 rcases hd with ⟨e1,hg⟩|⟨e1,hb⟩
 ·have e0:G.g=v'.ownBlock:=h.gh.trans e1.symm;have eG:G=⟨v'.ownBlock⟩:=congrArg Gst.mk e0;rw[<-eG]
  cases hb:vn.ownBlock with
  | none=>
   rw[hb]at hg;have k:=h.aIx (rG hg);exact⟨k.mo,k.cs,k.rc,hr',k.gh.trans e1.symm,k.g,k.lx⟩
  | some g=>
   rw[hb]at hg;obtain⟨cur,hc,_⟩:=h.rn.all g hb;have ht:jH W g 3:=⟨cur,_,hc⟩;have od:OdM W g:=⟨λx p vr d n q hn=>(by obtain⟨_,_,e⟩:=h.rn.cell hb hn.l;cases e),.inr (h.gh.trans hb),_,dE,dE,ht⟩;have q3:=World.ownsRow.lt h.rn.own g hb;have ne:∀{Y:Nat} {q:Mo Bk},MoB W Y q->Y≠g:=λhY e=>h.rn.ne hY.ty dE (e ▸ hb);exact⟨h.mo.aJm od hg (ne h.mo),λz q=>⟨(h.cs z q).1.aJm od hg (ne (h.cs z q).1),(h.cs z q).2⟩,h.rc.other hg (h.rc.ne ht dE),hr',h.gh.trans e1.symm,h.g.aJa hg (λj e=>by injection e with e;omega),h.lx⟩
 ·have hG:∀g,(⟨v'.ownBlock⟩:Gst).g=some g->W.heap.size<=g/\g<W'.heap.size:=λg e=>by
   have e2:v'.ownBlock=some g:=e;have q3:=World.ownsRow.lt hr.own g e2;rw[e1]at e2;injection e2 with e2;omega
  exact @PfR.mk ⟨v'.ownBlock⟩ _ _ _ _ _ _ _ _ (h.mo.swap G _ hb hG) (λz q=>⟨(h.cs z q).1.swap G _ hb hG,(h.cs z q).2⟩) (h.rc.aIx hb) hr' rfl (h.g.on hb) h.lx
end
structure CmQ(w W:Wd)(gb go k:Nat)(x:CV):Prop where
 at':yC W gb go k x
 fit:tN x.c
 dat:RdB w x.a x.c.data
 few:x.c.kd=5->x.c.n<=255
 lt:gb<w.heap.size
theorem CmQ.of{G:Gst}{w W:Wd}{b:OA}{L:List CV}(h:FM w b L)(hf:Dk L=true)(hb:Below w w W){k:Nat}(hk:k<L.length):∃gb go,b=cw gb go/\ ∀j x,L[j]? =some x->CmQ w W gb go j x:=by
 obtain⟨gb,go,rfl,hat⟩:=h.at oM;refine⟨gb,go,rfl,λj x hx=> ?_⟩;have hm:=List.mem_of_getElem? hx;have hfw:=MB hf hm;have c:=hat j x hx;exact⟨c.keep hb,(h.2.1 _ hm).fit,(h.2.1 _ hm).dat oM,λe=>by have:=hfw.2 e;omega,Qj w ⟨gb,_,none⟩ c.c0⟩
theorem infoP25:(prog.info? 25).map (λi=>(i.zero,i.size,i.bytes))=some (some (.pointer none),1,8):=kR
theorem law_prefix48(n:Nat)(A:List CV)(a:OA)(ca:Nat)(kp:Nat)(w:Wd)(hn:n<=255)(hr:FM w a A)(hk:kp<=255):
  ep 7 #[.int .u8 n,.slice a A ca,.int .u8 kp] w (RB w true):=by
 letI G0:Gst:=⟨none⟩
 obtain⟨q1,hq1⟩:∃q,(Dk A&&decide (A.length<=20))=q:=⟨_,rfl⟩;have hm40:((n:Int)%40)=((n%40:Nat):Int):=oM
 obtain⟨q,hq⟩:∃q,n%40=q:=⟨_,rfl⟩;have hq40:q<=39:=oM
 rw[hq]at hm40;have HMD:=hD hm40;have HA0:=hD hr;have HQ1:=hD hq1;clear hr hq1 hm40 hq;go_enter func7,ntmps7;have HB:=hD (bQ w);go_wp2_with fail;refine(Fz _).m ?_;rintro e wq ⟨rfl,hb⟩;have HB1:=hD (HB.o.on hb);clear hb;replace HB:=HB1;cases q1
 ·go_wp2_with fail;refine(GM A a ca 20 _ (HA0.o.keep HB.o) oM _ HQ1.o).m ?_;rintro e wq ⟨rfl,hb⟩;have HB2:=hD (HB.o.on hb);clear hb;go_wp2_with fail;go_ret;exact⟨rfl,HB2.o⟩
 go_wp2_with fail;refine(GM A a ca 20 _ (HA0.o.keep HB.o) oM _ HQ1.o).m ?_;rintro e wq ⟨rfl,hb⟩;have HB2:=hD (HB.o.on hb);clear hb;have h1:=Bool.and_eq_true_iff.1 HQ1.o;have HF1:=hD h1.1;have HL1:Hid (A.length<=20):=hD (Qt h1.2);clear h1 HQ1 HB1 HB;go_wp2_with fail;rw[HMD.o];refine(Hl q _ oM rfl).m ?_;rintro e w3 ⟨X,rfl,hX,hmo,hb⟩;have HB3:=hD (HB2.o.on hb);have HMO:=hD hmo;have HXL:Hid (w.heap.size<=X):=hD (by have:=HB2.o.size;omega);have HFM:=hD (xD q oM);clear hmo hb hX HB2 HMD;go_wp2_with fail;refine(mmcopy_is X (pJ q) _ HMO.o (by simp[pJ])).m ?_;rintro e w4 ⟨Z,rfl,hz,hzl,hb⟩;have hk4:=(bQ w4).aIw (cq #[.pointer (cw Z 0)] 25);have hk5:=(Below.refl (w4.alloc (cq #[.pointer (cw Z 0)] 25)).heap.size (w4.alloc (cq #[.pointer (cw Z 0)] 25))).aIw (cq #[oo] 3);have HP:Hid (@PfR ⟨some (w4.heap.size+1)⟩ w ((w4.alloc (cq #[.pointer (cw Z 0)] 25)).alloc (cq #[oo] 3)) X (pJ q) [(Z,pJ q)] (.slice (cw w4 0) 1 1) (.slice (cw (cf w4) 0) 1 1) [0]):=hD (by
  have hG:∀g,(⟨some (w4.heap.size+1)⟩:Gst).g=some g->(w4.alloc (cq #[.pointer (cw Z 0)] 25)).heap.size<=g/\g<((w4.alloc (cq #[.pointer (cw Z 0)] 25)).alloc (cq #[oo] 3)).heap.size:=λg e=>by
   cases e;simp
  have hs4:w.heap.size<=w4.heap.size:=(HB3.o.on hb).size;have l2:=RwP.lit (w4.alloc (cq #[.pointer (cw Z 0)] 25)) w 3 isI oo pO ⟨_,_,rfl⟩;rw[show(w4.alloc (cq #[.pointer (cw Z 0)] 25)).heap.size=w4.heap.size+1 by simp]at l2;exact @PfR.mk ⟨some (w4.heap.size+1)⟩ _ _ _ _ _ _ _ _ (((HMO.o.aIx hb).aIx hk4).swap G0 _ hk5 hG) (λz q=>by
   obtain rfl:=List.mem_singleton.1 q
   exact⟨(hz.aIx hk4).swap G0 _ hk5 hG,by have:=HMO.o.lt;simp only;omega⟩) ((RwP.lit w4 w 25 noI _ hs4 (λk x e=>by cases e)).aIx hk5) l2 rfl (((HB3.o.on hb).on hk4).on hk5) HXL.o)
 clear hb hz hzl hk4 hk5 HMO HB3 HXL;go_upto_region 11 with fail;generalize (w4.alloc (cq #[.pointer (cw Z 0)] 25)).alloc (cq #[oo] 3)=W5 at *;go_wp2_with fail;go_loopw [9,10,11,12] (λvc vn tv iv wr=>∃(k:Nat) (G:Gst) (m:Mo Bk) (Zs:List (Nat × Mo Bk)) (ts:List Nat) (tot:Nat) (uc un:Value),k<=A.length/\iv= .int .i64 k/\tv= .int .i64 tot/\uc=vc/\un=vn/\Hid (@PfR G w wr X m Zs uc un ts)/\Hid (Pfx (Zs.map (·.2)) ts m tot)/\Hid m.fine/\Hid (∀z∈Zs,z.2.fine)/\Hid (m.past.length<=k)/\Hid (tot<=k)/\Hid (Zs.length=k+1)/\Hid (ts.length=k+1)) (λ_ _ _ iv _=>A.length-(intOf iv).toNat)
 case atStart=>exact⟨0,⟨some (w4.heap.size+1)⟩,pJ q,[(Z,pJ q)],[0],0,_,_,Yf _,rfl,rfl,rfl,rfl,HP,hD (Pfx.start _ rfl),HFM,hD (λz q=>by rw[List.mem_singleton.1 q];exact HFM.o),hD (by simp[pJ]),hD (Ye _),hD rfl,hD rfl⟩
 case round=>
  clear HP;obtain⟨k,G,m,Zs,ts,tot,uc,un,hkA,rfl,rfl,rfl,rfl,HP,HPX,HFC,HFZ,HPL,HTT,HZL,HTL⟩:=hrel;by_cases hlt:k<A.length
  ·as_aux_lemma=>
   obtain⟨gb,go,rfl,hat⟩:=CmQ.of (G:=G) HA0.o HF1.o HP.o.g hlt;obtain⟨x,hx⟩:∃x,A[k]? =some x:=⟨_,Qa hlt⟩;have HXQ:=hD hx;have HC:=hD (hat k x hx);clear hx;obtain⟨⟨tg,kd,ao,af,vol,oth,cp,cn,dt⟩,xa,xk⟩:=x;obtain⟨⟨e0,e1,e2,e3,e4,e5,e6,e7,e8⟩,hfit,hdat,hfew,hgb⟩:=HC.o;simp only at e0 e1 e2 e3 e4 e5 e6 e7 e8 hfit hdat hfew;have hk0:(0:Int)<=k:=oM
   have hk1:(k:Int)<A.length:=oM
   have HMP:=hD (λW h1 h2=>yX X m ⟨tg,kd,ao,af,vol,oth,cp,cn,dt⟩ xa xk W h1 HFC.o (by have:=HPL.o;have:=HL1.o;omega) hfit h2 hfew);have HFW:=hD hfew;have HDT:=hD (hdat.keep HP.o.g);clear hat hfit hdat hfew hgb HC;obtain⟨rp,hrp⟩:∃r,kW Bk.zero m.cur (⟨tg,kd,ao,af,vol,oth,cp,cn,dt⟩:Cmd Bk)=r:=⟨_,rfl⟩;have HRP:=hD hrp;unfold JY cmV at HMP;rw[hrp]at HMP;clear hrp;obtain⟨rt,re,rD⟩:=rp;simp only at HMP;go_wp2_with fail;refine(HMP.o _ HP.o.mo HDT.o).m ?_;rintro e w6 ⟨a3,k3,m',rfl,hap,hmo,hrd,hgr⟩;have hk6:=(bQ w6).aIw (cq #[rt,re,.slice a3 rD k3] 44);have HAP:=hD hap;have HP6:=hD ((HP.o.went hmo hgr).aIx hk6);have HBX:=hD (Bx3.new w6 _ rfl rt re (.slice a3 rD k3) 44);clear hk6 hap hmo hrd hgr HMP HDT HP e0 e1 e2 e3 e4 e5 e6 e7 e8;go_upto_region 15 with fail;generalize w6.alloc (cq #[rt,re,.slice a3 rD k3] 44)=W6 at *;generalize w6.heap.size=T13 at *;obtain⟨gb',go',eab,hat'⟩:=CmQ.of (G:=G) HA0.o HF1.o HP6.o.g hlt;cases eab;have hc1:=(hat' k _ HXQ.o).at'.c1;simp only at hc1;obtain⟨c0,c1,c2,-⟩:=HBX.o;have HP7:=HP6;have HPL2:Hid (m'.past.length<=k+1):=hD (by have:=HAP.o.past;have:=HPL.o;omega);have HFM2:=hD (HAP.o.fine HFC.o HFW.o);obtain⟨tb,htb⟩:∃b,tranB (z:=Bk.zero) m.cur (⟨tg,kd,ao,af,vol,oth,cp,cn,dt⟩:Cmd Bk)=b:=⟨_,rfl⟩;have hst:=HPX.o.step HAP.o;rw[htb]at hst;have HST0:=hD hst;have HTB:Hid ((decide (re=0)&&(decide (kd≠1)&&decide (kd≠4)))=tb):=hD (by rw[<-htb];unfold tranB;rw[HRP.o]);have ht20:tot<=20:=by have:=HTT.o;have:=HL1.o;omega
   have hk20:k<20:=by have:=HL1.o;omega
   clear hat' hst htb HBX HP6 HPX HRP HAP;by_cases h0:re=0
   ·subst h0;by_cases hk1:kd=1
    ·subst hk1;exact sy7
    ·by_cases hk4:kd=4
     ·subst hk4;exact sy7
     ·obtain rfl:tb=true:=by rw[<-HTB.o];simp[hk1,hk4]
      have HST:=HST0;simp only[if_true]at HST;have g1:(kd != 1)=true:=by simpa using hk1
      have g4:(kd != 4)=true:=by simpa using hk4
      clear hk1 hk4;go_wp2_with fail;refine(mmcopy_is X m' _ HP7.o.mo (by have:=HPL2.o;have:=HL1.o;omega)).m ?_;rintro e w9 ⟨Z,rfl,hz,hzl,hb⟩;have HP9:=hD (HP7.o.aIx hb);have HNE:Hid (X≠Z):=hD (by have:=HP7.o.mo.lt;omega);have hka:=(bQ w9).aIw (cq #[.pointer (cw Z 0)] 25);have HPa:=hD (HP9.o.aIx hka);have HZa:=hD (hz.aIx hka);have hsz:=HPa.o.g.size;clear hb hz hzl hka HP7 HP9
      go_wp2_with (at_builtin;first|(refine wpList_rw rfl _ _ 65 rfl underlying65 _ infoP25 rfl (λk x e=>by cases e) (.pointer (cw Z 0)) rfl HPa.o.rc w9 1 rfl sM rfl (λk x e=>by cases e) (by have:=HZL.o;have:=HL1.o;simp;omega) hsz ?_;intro v1 w11 hr1 hd1;have HPb:=hD (HPa.o.addc HZa.o HNE.o hr1 hd1);have hkb:=(bQ w11).aIw (cq #[.int .i64 ((tot:Int)+1)] 3);have HPc:=hD (HPb.o.aIx hkb);have hszc:=HPc.o.g.size;clear hr1 hd1 hkb hsz)|(refine wpList_rw rfl _ _ 66 rfl underlying66 _ RQ rfl ⟨_,_,rfl⟩ (.int .i64 ((tot:Int)+1)) rfl HPc.o.rn w11 1 rfl sM rfl ⟨_,_,rfl⟩ (by have:=HTL.o;have:=HL1.o;simp;omega) hszc ?_;intro v2 w13 hr2 hd2;have HPd:=hD (HPc.o.addn (t:=(tot+1)) hr2 hd2);clear hr2 hd2 hszc))
      go_wp2_with fail;go_roundw
      case rel=>exact⟨k+1,⟨v2.ownBlock⟩,m',Zs++[(Z,m')],ts++[(tot+1)],(tot+1),v1,v2,oM,by go_num,by go_num,rfl,rfl,HPd,hD (by rw[Yz];exact HST.o),HFM2,hD (λz q=>by
       rcases Qn.1 q with q|q
       ·exact HFZ.o z q
       ·rw[List.mem_singleton.1 q];exact HFM2.o),HPL2,hD (by have:=HTT.o;omega),hD sy8,hD sy9⟩
      case measure=>simp[intOf];omega
   ·have g0:(re==0)=false:=by simpa using h0
    obtain rfl:tb=false:=by rw[<-HTB.o];simp[h0]
    have HST:=HST0;simp only[Bool.false_eq_true,if_false]at HST;clear h0;exact sy5
  ·as_aux_lemma=>
   obtain rfl:k=A.length:=oM
   obtain⟨N,hN⟩:∃N,m.past.length=N:=⟨_,rfl⟩;obtain⟨κ,hκ⟩:∃κ,kp%(N+1)=κ:=⟨_,rfl⟩;have hNt:N<=tot:=by have:=HPX.o.le;omega
   have hκN:κ<=N:=by have:=Nat.mod_lt kp (show 0<N+1 by omega);omega
   have ht20:tot<=20:=by have:=HTT.o;have:=HL1.o;omega
   have HKM:Hid ((kp:Int)%((N:Int)+1)=(κ:Int)):=hD (by rw[<-hκ];push_cast;rfl);obtain⟨j,hj⟩:=HPX.o.all (tot-N+κ) oM;have hjl:=(Qx.1 hj).1;have HCUT:∀(i:Nat) (z:Nat × Mo Bk),Zs[i]? =some z->ts[i]? =some (tot-N+κ)->(lC m κ).1.cur=z.2.cur/\(lC m κ).2=0/\(lC m κ).1.past=[]:=λi z h1 h2=>HPX.o.cut (k:=κ) oM (j:=i) (by rw[Yw,h1];rfl) (by rw[hN];exact h2);have hjz:j<Zs.length:=by have:=HTL.o;have:=HZL.o;omega
   obtain⟨c1,c2,c3⟩:=HCUT j _ (Qa hjz) hj;have HCC:=hD HCUT;have HC2:=hD c2;have HC3:=hD c3;have HJ:=hD hj;have HSD:Hid ((lC m κ).1.cur.F.sound):=hD (by rw[c1];exact(HFZ.o _ (Qm hjz)).cur.sound);have HNN:=hD hN;clear hj HCUT c1 c2 c3 hN hκ;go_wp2_with fail;refine(Hg X m N _ HP.o.mo HNN.o).m ?_;rintro e w6 ⟨rfl,hb⟩;have HP6:=hD (HP.o.aIx hb);clear hb HP;have hN20:(N:Int)<=20:=oM
   have hNT:(N:Int)<=tot:=oM
   go_wp2_with fail;rw[HKM.o];refine(RN X m κ _ HP6.o.mo (by unfold gJ;omega)).m ?_;rintro e w7 ⟨rfl,hmo,hgr⟩;rw[HC2.o];have HP7:=hD (HP6.o.went hmo hgr);clear hmo hgr HP6;go_wp2_with fail;refine(Hg X (lC m κ).1 0 _ HP7.o.mo (by rw[HC3.o];rfl)).m ?_;rintro e w8 ⟨rfl,hb⟩;have HP8:=hD (HP7.o.aIx hb);clear hb HP7;obtain⟨gc,kc,rfl,-⟩:=HP8.o.rc.form sy8;obtain⟨gn,kn,rfl,-⟩:=HP8.o.rn.form sy9;simp only[Yy]at HP8 ⊢;have hzt:Zs.length=ts.length:=by have:=HTL.o;have:=HZL.o;omega
   have hz21:Zs.length<=21:=by have:=HZL.o;have:=HL1.o;omega
   go_wp2_with fail;go_loopw [16] (λiv wr=>∃i:Nat,i<=Zs.length/\iv= .int .i64 i/\Hid (∀q,q<i->ts[q]? ≠some (tot-N+κ))/\Hid (PfR w wr X (lC m κ).1 Zs (.slice (cw gc 0) Zs.length kc) (.slice (cw gn 0) ts kn) ts)) (λiv _=>Zs.length-(intOf iv).toNat)
   case atStart=>exact⟨0,Yf _,rfl,hD (λq h=>by omega),HP8⟩
   case round=>
    clear HP8;obtain⟨i,hi,rfl,HNO,HP⟩:=hrel;by_cases hli:i<Zs.length
    ·as_aux_lemma=>
     have hlt:i<ts.length:=oM
     have ox:=HP.o.rc.own;have oy:=HP.o.rn.own;rw[Yy]at ox oy;have x0:=ox.cellAt i oM;have y0:=oy.cellAt i oM;clear ox oy;rw[Yw,Qa hli]at x0;rw[Yw,Qa hlt]at y0;have HZ:=hD (HP.o.cs _ (Qm hli));have HZF:=hD (HFZ.o _ (Qm hli));have HZi:Hid (Zs[i]? =some Zs[i]):=hD (Qa hli);have HTi:Hid (ts[i]? =some ts[i]):=hD (Qa hlt);simp only[Option.map_some]at x0 y0;generalize Zs[i]=z at *;generalize ts[i]=t at *;obtain⟨Z,d⟩:=z;simp only at x0 HZ HZF;have hi0:(0:Int)<=i:=oM
     have hi1:(i:Int)<Zs.length:=oM
     have hi2:(i:Int)<ts.length:=oM
     have r1:IntKind.i64.wrap ((tot:Int)-N)=(tot:Int)-N:=IntWalk.i64_in _ oM;have r2:IntKind.i64.wrap ((tot:Int)-N+κ)=(tot:Int)-N+κ:=IntWalk.i64_in _ oM;by_cases ht:t=tot-N+κ
     ·have g1:((t:Int)==(tot:Int)-N+κ)=true:=by simp;omega
      obtain⟨c1,-,-⟩:=HCC.o i _ HZi.o (by rw[HTi.o,ht]);simp only at c1;have HS1:=hD (λW h1 h2=>mmsame_is X Z (lC m κ).1 d W h1 h2 HSD.o HZF.o.cur.sound);have HS2:=hD (λW h1 h2=>mmsame_is Z X d (lC m κ).1 W h1 h2 HZF.o.cur.sound HSD.o);rw[c1,sameO_refl]at HS1 HS2;clear c1 ht;go_wp2_with fail;refine(HS1.o _ HP.o.mo HZ.o.1).m ?_;rintro e w9 ⟨rfl,hb⟩;have HP9:=hD (HP.o.aIx hb);have HZ9:=hD (HZ.o.1.aIx hb);have x9:=hb.keep x0;clear hb x0 y0 HP;go_wp2_with fail;refine(HS2.o _ HZ9.o HP9.o.mo).m ?_;rintro e w10 ⟨rfl,hb⟩;have HE:=hD (HP9.o.g.on hb);clear hb HP9;go_wp2_with fail;go_ret;exact⟨rfl,HE.o⟩
     ·have g1:((t:Int)==(tot:Int)-N+κ)=false:=by simp;omega
      have HTN:=hD ht;clear ht;go_wp2_with fail;go_roundw
      case rel=>exact⟨i+1,oM,by go_num,hD (λq h=>by
       by_cases e:q=i
       ·subst e;rw[HTi.o];exactλe=>HTN.o (Qv e)
       ·exact HNO.o q oM),HP⟩
      case measure=>simp[intOf];omega
    ·exact absurd HJ.o (HNO.o j oM)
end Go.Proofs.YtphfgbbbejloaaaGreatDoor
