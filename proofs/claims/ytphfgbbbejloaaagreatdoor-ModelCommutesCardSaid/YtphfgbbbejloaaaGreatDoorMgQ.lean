/- tegulalaw48: two commands change places Conditions: as each theorem says. -/
import Derived.Test.YtphfgbbbejloaaaGreatDoorMgW
set_option linter.unusedSimpArgs false
set_option linter.unusedVariables false
set_option maxRecDepth 100000
set_option maxHeartbeats 16000000
namespace Go.Proofs.YtphfgbbbejloaaaGreatDoor
open Go.RowKit Go.Maps
open Go.Proofs.Tryz
theorem sy17 {P:Prop} (h:P:=by rw[Qd,Qc,Qc];omega):P:=h
theorem sy14 {P:Prop} (h:P:=by
  refine hK.out _ _ HQ.o.cc (fun hHeld=> ?_);clear hK K
  try simp only[Act.put,sg,sp]
  refine TJ 5 7 (fun K hK=> ?_) (fun K hK=> ?_)
  ·go_simp;refine(HAY.o m1 HP1.o _ HQ.o.mo (HDY.o.keep HQ.o.cc.g)).m ?_;rintro e v3 ⟨a2,k2,m2,rfl,hap,hmo,hrd,hgr⟩;have HP2:=hD hap;replace HQ:=hD ((HQ.o.went1 hmo hgr).dat hrd);clear hap hmo hrd hgr;exact sy11
  ·go_simp;replace HQ:=hD (HQ.o.box oo oo sn);generalize v2.alloc (cq #[oo,oo,sn] 44)=v3 at HQ ⊢;generalize v2.heap.size=T7 at HQ ⊢;exact sy10
  ):P:=h
theorem sy15 {P:Prop} (h:P:=by
  refine hK.out _ _ HQ.o.cc (fun hHeld=> ?_);clear hK K
  try simp only[Act.put,sg,sp]
  refine TJ 5 6 (fun K hK=> ?_) (fun K hK=> ?_)
  ·go_simp;refine(HAY.o m1 HP1.o _ HQ.o.mo (HDY.o.keep HQ.o.cc.g)).m ?_;rintro e v3 ⟨a2,k2,m2,rfl,hap,hmo,hrd,hgr⟩;have HP2:=hD hap;replace HQ:=hD ((HQ.o.went1 hmo hgr).dat hrd);clear hap hmo hrd hgr;exact sy12
  ·go_simp;replace HQ:=hD (HQ.o.box oo oo sn);generalize v2.alloc (cq #[oo,oo,sn] 44)=v3 at HQ ⊢;generalize v2.heap.size=T6 at HQ ⊢;exact sy10
  ):P:=h
theorem sy16 {P:Prop} (h:P:=by
  refine hK.out _ _ HQ.o.cc (fun hHeld=> ?_);clear hK K
  try simp only[Act.put,sg,sp]
  refine rdy 2 fun K hK=> ?_;go_simp;refine(HAX.o _ HQ.o.mo (HDX.o.keep HQ.o.cc.g)).m ?_;rintro e v3 ⟨a1,k1,m1,rfl,hap,hmo,hrd,hgr⟩;have HP1:=hD hap;replace HQ:=hD ((HQ.o.went1 hmo hgr).dat hrd);clear hap hmo hrd hgr;exact sy10
  ):P:=h
theorem sy10 {P:Prop} (h:P:=by
  refine hK.out _ _ HQ.o.cc (fun hHeld=> ?_);clear hK K
  try simp only[Act.put,sg,sp]
  refine rdy 5 fun K hK=> ?_;go_simp;refine(HAY.o m1 HP1.o _ HQ.o.mo (HDY.o.keep HQ.o.cc.g)).m ?_;rintro e v4 ⟨a2,k2,m2,rfl,hap,hmo,hrd,hgr⟩;have HP2:=hD hap;replace HQ:=hD ((HQ.o.went1 hmo hgr).dat hrd);clear hap hmo hrd hgr;exact sy3
  ):P:=h
theorem sy11 {P:Prop} (h:P:=by
  refine hK.out _ _ HQ.o.cc (fun hHeld=> ?_);clear hK K
  try simp only[Act.put,sg,sp]
  refine rdy 7 fun K hK=> ?_;go_simp;replace HQ:=hD (HQ.o.box oo oo sn);generalize v3.alloc (cq #[oo,oo,sn] 44)=v4 at HQ ⊢;generalize v3.heap.size=T7 at HQ ⊢;exact sy3
  ):P:=h
theorem sy12 {P:Prop} (h:P:=by
  refine hK.out _ _ HQ.o.cc (fun hHeld=> ?_);clear hK K
  try simp only[Act.put,sg,sp]
  refine rdy 6 fun K hK=> ?_;go_simp;replace HQ:=hD (HQ.o.box oo oo sn);generalize v3.alloc (cq #[oo,oo,sn] 44)=v4 at HQ ⊢;generalize v3.heap.size=T6 at HQ ⊢;exact sy3
  ):P:=h
theorem sy13 {P:Prop} (h:P:=by
  go_wp2_with fail;rw[rounds_succ];go_wp2_with fail;go_ret;exact⟨by rw[<-HR.o];simp,HB.o⟩
  ):P:=h
theorem sy3 {P:Prop} (h:P:=by
  refine hK.out _ _ HQ.o.cc (fun hHeld=> ?_);clear hK K
  try simp only[Act.put,sg,sp]
  obtain⟨c0,c1,c2,c3,c4,c5,-⟩:=HQ.o.bx (T6,.int .i64 0,.int .i64 0,.slice none 0 0) sM;simp only at c0 c1 c2 c3 c4 c5;have HN:=hD HQ.o.nd;replace HQ:=hD (HQ.o.put T6 (u:=oo) (v:=oo) (bs':=[(T7,.int .i64 0,.int .i64 0,.slice none 0 0)]) sM (fun b hb=>by have h:=HN.o;simp at hb h;subst hb;exact⟨sM,by first|exact h|exact fun e=>h e.symm⟩) sM a1 k1 ⟨rt,re,rD⟩);refine rdy 8 fun K hK=> ?_;go_simp;refine hK.out _ _ HQ.o.cc (fun hHeld=> ?_);clear hK K
  try simp only[Act.put,sg,sp]
  clear c0 c1 c2 c3 c4 c5;obtain⟨c0,c1,c2,c3,c4,c5,-⟩:=HQ.o.bx (T7,.int .i64 0,.int .i64 0,.slice none 0 0) sM;simp only at c0 c1 c2 c3 c4 c5;replace HQ:=hD (HQ.o.put T7 (u:=oo) (v:=oo) (bs':=[rpB T6 a1 k1 ⟨rt,re,rD⟩]) sM (fun b hb=>by have h:=HN.o;simp at hb h;subst hb;exact⟨sM,by first|exact h|exact fun e=>h e.symm⟩) sM a2 k2 (kW Bk.zero m1.cur (⟨tg',kd',ao',af',vol',oth',p',n',dt'⟩:Cmd Bk)));refine rdy 9 fun K hK=> ?_;go_simp;refine hK.out _ _ HQ.o.cc (fun hHeld=> ?_);clear hK K
  try simp only[Act.put,sg,sp]
  clear c0 c1 c2 c3 c4 c5 HN;refine wpAnyH_done kR ?_ _;go_wp2_with fail;go_meet;exact⟨T6,T7,a1,k1,m1,a2,k2,m2,rfl,rfl,HP1,HP2,HQ⟩
  ):P:=h
theorem sy4 {P:Prop} (h:P:=by
  go_wp2_with fail;refine(HA.o _ (HD.o.keep H2.o.g) HV1.o).m ?_;rintro e wq ⟨rfl,hb⟩;have H3:=hD (H2.o.aIx hb);clear c0 c1 c2 c3 c4 c5 c6 c7 c8 d0 d1 d2 d3 d4 d5 d6 d7 d8;clear hb;obtain⟨c0,c1,c2,c3,c4,c5,c6,c7,c8⟩:=H3.o.x;obtain⟨d0,d1,d2,d3,d4,d5,d6,d7,d8⟩:=H3.o.y;simp only at c0 c1 c2 c3 c4 c5 c6 c7 c8 d0 d1 d2 d3 d4 d5 d6 d7 d8;go_wp2_with fail;refine(HB.o _ (HE.o.keep H3.o.g) HV2.o).m ?_;rintro e wq ⟨rfl,hb⟩;have H4:=hD (H3.o.aIx hb);clear c0 c1 c2 c3 c4 c5 c6 c7 c8 d0 d1 d2 d3 d4 d5 d6 d7 d8;clear hb;obtain⟨c0,c1,c2,c3,c4,c5,c6,c7,c8⟩:=H4.o.x;obtain⟨d0,d1,d2,d3,d4,d5,d6,d7,d8⟩:=H4.o.y;simp only at c0 c1 c2 c3 c4 c5 c6 c7 c8 d0 d1 d2 d3 d4 d5 d6 d7 d8;go_wp2_with fail;go_ret;exact⟨rfl,H4.o.g⟩
  ):P:=h
theorem sy5 {P:Prop} (h:P:=by
  go_wp2_with fail;rw[rounds_succ];cases u3
  ·cases u4
   ·cases u5
    ·exact sy13
    ·go_wp2_with fail;go_ret;exact⟨by rw[<-HR.o];simp,HB.o⟩
   ·go_wp2_with fail;go_ret;exact⟨by rw[<-HR.o];simp,HB.o⟩
  ·exact sy13
  ):P:=h
theorem sy6 {P:Prop} (h:P:=by
  cases h1:stepG z g a b.vol <;> cases h2:g b.vol <;> rw[h1,h2]at hv <;> simp only[Option.map_none,Option.map_some,Option.some.injEq,reduceCtorEq]at hv ⊢;rw[hv]
  ):P:=h
theorem sy7 {P:Prop} (h:P:=by
  go_wp2_with fail;go_ret;exact⟨by rw[<-HR2.o];rfl,H4.o.g⟩
  ):P:=h
theorem sy8 {P:Prop} (h:P:=by
  rw[Qe q1]at h
  split
  ·rfl
  ·rename_i q2
   rw[Qe q2]at h
   split
   ·rename_i q3
    rw[Qf q3]at h;exact absurd rfl h
   ·rfl
  ):P:=h
theorem sy9 {P:Prop} (h:P:=by
  exact⟨sM,sM,sM,sM,sM,sM,sM,sM,sM⟩
  ):P:=h
section
variable {α:Type}
theorem enough_or (a b:Int):iL a b=0∨iL a b=11:=by unfold iL;split <;> simp
theorem err_ob {s:MSt α} (hF:s.F.ok) (c:Cmd α):fE s.F c=errO (obS s) c∨(errO (obS s) c=0/\fE s.F c=11):=by
 have hlen:(obS s).length=s.F.vs.length:=by unfold obS;rw[Yy]
 have hget:∀ nm,xZ (obS s) nm=(aN s.F.vs nm).map (obV s):=fun nm=>Jk s nm _;unfold fE errO;rw[hlen,hget,hget];by_cases k1:c.kd=1
 ·rw [Qf k1,Qf (.inl k1)]
  left
  unfold dP
  cases hv:aN s.F.vs c.vol with
  |none=>rfl
  | some v=>
   simp only[Option.map_some];show(if inB c.p c.n v.n=false then _ else _:List E × Int).2=if inB c.p c.n v.n=false then 2 else 0
   split <;> rfl
 ·rw [Qe k1];by_cases k2:c.kd=2
  ·rw [Qf k2,Qe (show ¬(c.kd=1∨c.kd=3) by omega),Qf k2];unfold jO dW
   cases hv:aN s.F.vs c.vol with
   |none=>left;rfl
   | some v=>
    simp only[Option.map_some,if_true];show(if 1<=c.n/\c.n<=16 then _ else _)=(if 1<=c.n/\c.n<=16 then (if inB c.p c.n v.n=false then (2:Int)else 0)else 1)∨_;by_cases q:1<=c.n/\c.n<=16
    ·rw [Qf q,Qf q];unfold fM;by_cases q2:inB c.p c.n v.n=false
     ·rw[Qf q2]
      left
      have hr:(dP s.F c.vol c.p c.n).2=2:=by unfold dP;rw[hv];simp only;rw[Qf q2]
      unfold jP;rw[hr];rfl
     ·rw [Qe q2];have hr:(dP s.F c.vol c.p c.n).2=0:=by unfold dP;rw[hv];simp only;rw[Qe q2]
      have hn:(jP s.F c.vol c.p c.n).2=0:=by unfold jP;rw[Qf hr]
      rw[Qf hn];rcases enough_or (jP s.F c.vol c.p c.n).1 ((gQ s.F c.vol).1+max 0 (dC s.F))with h|h
      ·left;exact h
      ·right
       refine⟨?_,h⟩;show(if 1<=c.n/\c.n<=16 then (if inB c.p c.n v.n=false then (2:Int)else 0)else 1)=0;rw[Qf q,Qe q2]
    ·rw[Qe q,Qe q]
     left;rfl
  ·rw [Qe k2];by_cases k3:c.kd=3
   ·rw [Qf k3,Qf (.inr k3)]
    left
    unfold bS
    cases hv:aN s.F.vs c.vol with
    |none=>rfl
    | some v=>
     simp only[Option.map_some];show(if inB c.p c.n v.n=false then _ else _:Fam × List E × Int).2.2=if inB c.p c.n v.n=false then 2 else 0
     split <;> rfl
   ·rw [Qe k3,Qe (show ¬(c.kd=1∨c.kd=3) by omega),Qe k2];by_cases k5:c.kd=5
    ·rw [Qf k5,Qf k5];unfold crE;by_cases q1:(bC c.vol&&BF c.n c.p)=false
     ·have he:(aW s.F c.vol c.n c.p).2=1:=by unfold aW;rw[Qf q1]
      rw[he,Qf q1]
      left;rfl
     ·rw [Qe q1]
      cases hv:aN s.F.vs c.vol with
      | some v=>
       have he:(aW s.F c.vol c.n c.p).2=10:=by unfold aW;rw[Qe q1,hv];rfl
       rw[he]
       left;rfl
      | none=>
       simp only[Option.map_none,Option.isSome_none,Bool.false_eq_true,if_false];by_cases q3:32<=s.F.vs.length
       ·have he:(aW s.F c.vol c.n c.p).2=7:=by unfold aW;rw[Qe q1,hv];simp only[Option.isSome_none,Bool.false_eq_true,if_false];rw[Qf q3]
        rw[he,Qf q3]
        left;rfl
       ·have he:(aW s.F c.vol c.n c.p).2=0:=by unfold aW;rw[Qe q1,hv];simp only[Option.isSome_none,Bool.false_eq_true,if_false];rw[Qe q3]
        rw[Qf he,Qe q3];unfold fG;rw[Qe (fun e=>q1 (by rw[e];simp))];rcases enough_or c.p (dC s.F)with h|h
        ·left;exact h
        ·right;exact⟨by first|rfl|trivial,h⟩
    ·rw [Qe k5,Qe k5];by_cases k6:c.kd=6
     ·rw [Qf k6,Qf k6];unfold clE
      cases hv:aN s.F.vs c.vol with
      | none=>
       have he:(bJ s.F c.vol c.oth).2=9:=by unfold bJ;rw[hv]
       rw[he]
       left;rfl
      | some v=>
       simp only[Option.map_some];by_cases q1:bC c.oth=false
       ·have he:(bJ s.F c.vol c.oth).2=1:=by unfold bJ;rw[hv];simp only;rw[Qf q1]
        rw[he,Qf q1]
        left;rfl
       ·rw [Qe q1]
        cases hv2:aN s.F.vs c.oth with
        | some v2=>
         have he:(bJ s.F c.vol c.oth).2=10:=by unfold bJ;rw[hv];simp only;rw[Qe q1,hv2];rfl
         rw[he]
         left;rfl
        | none=>
         simp only[Option.map_none,Option.isSome_none,Bool.false_eq_true,if_false];by_cases q3:32<=s.F.vs.length
         ·have he:(bJ s.F c.vol c.oth).2=7:=by unfold bJ;rw[hv];simp only;rw[Qe q1,hv2];simp only[Option.isSome_none,Bool.false_eq_true,if_false];rw[Qf q3]
          rw[he,Qf q3]
          left;rfl
         ·have he:(bJ s.F c.vol c.oth).2=0:=by unfold bJ;rw[hv];simp only;rw[Qe q1,hv2];simp only[Option.isSome_none,Bool.false_eq_true,if_false];rw[Qe q3]
          rw[Qf he,Qe q3];unfold eD;rw[hv];simp only;rcases enough_or (v.r-aY s.F.C v) (dC s.F)with h|h
          ·left;exact h
          ·right;exact⟨by first|rfl|trivial,h⟩
     ·rw[Qe k6,Qe k6]
      left
      by_cases k7:c.kd=7
      ·rw[Qf k7,Qf k7];unfold aZ;cases hv:aN s.F.vs c.vol <;> rfl
      ·rw[Qe k7,Qe k7]
end
section
variable {α:Type}
def sortedO (vs:List (OV α)):Prop:=vs.Pairwise fun a b=>bytesBefore a.nm b.nm=true
theorem ob_sorted {s:MSt α} (h:s.F.ok):sortedO (obS s):=List.pairwise_map.2 h.sorted
theorem mem_insO {v x:OV α} {vs:List (OV α)}:x∈aBh v vs↔x=v∨x∈vs:=by
 induction vs with
 |nil=>simp[aBh]
 | cons w r ih=>
  unfold aBh
  split
  ·simp
  ·simp only[Yl,ih]
   constructor
   ·rintro(h|h|h)
    ·exact .inr (.inl h)
    ·exact .inl h
    ·exact .inr (.inr h)
   ·rintro(h|h|h)
    ·exact .inr (.inl h)
    ·exact .inl h
    ·exact .inr (.inr h)
theorem mem_delO {x:OV α} {vs:List (OV α)} {nm:LU}:x∈aBy vs nm↔x∈vs/\x.nm≠nm:=by simp[aBy]
theorem mem_putO {x v:OV α} {vs:List (OV α)}:x∈KV vs v↔x=v∨(x∈vs/\x.nm≠v.nm):=by unfold KV;rw[mem_insO,mem_delO]
theorem sorted_delO {vs:List (OV α)} (h:sortedO vs) (nm:LU):sortedO (aBy vs nm):=h.filter _
theorem sorted_insO {v:OV α} {vs:List (OV α)} (h:sortedO vs) (hne:∀ w∈vs,w.nm≠v.nm):sortedO (aBh v vs):=by
 induction vs with
 |nil=>simp[aBh,sortedO]
 | cons w r ih=>
  obtain⟨h1,h2⟩:=Yk.1 h;unfold aBh
  split
  ·rename_i hb
   refine Yk.2 ⟨fun x hx=> ?_,h⟩;rcases Yl.1 hx with rfl|hx
   ·exact hb
   ·exact WideShapes.bytes_trans _ _ _ hb (h1 x hx)
  ·rename_i hb
   have hw:bytesBefore w.nm v.nm=true:=(WideAt.bytes_total w.nm v.nm (hne w sM)).resolve_right (by simpa using hb);refine Yk.2 ⟨fun x hx=> ?_,ih h2 fun x hx=>hne x (by simp[hx])⟩;rcases mem_insO.1 hx with rfl|hx
   ·exact hw
   ·exact h1 x hx
theorem sorted_putO {v:OV α} {vs:List (OV α)} (h:sortedO vs):sortedO (KV vs v):=sorted_insO (sorted_delO h _) fun _ hw=>(mem_delO.1 hw).2
theorem sorted_uniqO {vs:List (OV α)} (h:sortedO vs) {a b:OV α} (ha:a∈vs) (hb:b∈vs) (he:a.nm=b.nm):a=b:=by
 induction vs with
 |nil=>simp at ha
 | cons w r ih=>
  obtain⟨h1,h2⟩:=Yk.1 h;rcases Yl.1 ha with rfl|ha'
  ·rcases Yl.1 hb with rfl|hb'
   ·rfl
   ·have:=h1 b hb';rw[he,WideAt.bytes_irrefl]at this;cases this
  ·rcases Yl.1 hb with rfl|hb'
   ·have:=h1 a ha';rw[he,WideAt.bytes_irrefl]at this;cases this
   ·exact ih h2 ha' hb'
theorem getO_mem {vs:List (OV α)} {nm:LU} {v:OV α} (h:xZ vs nm=some v):v∈vs/\v.nm=nm:=
 ⟨List.mem_of_find?_eq_some h,by simpa using List.find?_some h⟩
theorem getO_none {vs:List (OV α)} {nm:LU}:xZ vs nm=none↔ ∀w∈vs,w.nm≠nm:=by simp[xZ]
theorem getO_of {vs:List (OV α)} (h:sortedO vs) {v:OV α} (hv:v∈vs):xZ vs v.nm=some v:=by
 cases hg:xZ vs v.nm with
 |none=>exact absurd rfl (getO_none.1 hg v hv)
 | some w=>
  obtain⟨h1,h2⟩:=getO_mem hg;rw[sorted_uniqO h h1 hv h2]
theorem getO_put {vs:List (OV α)} (h:sortedO vs) (v:OV α) (nm:LU):xZ (KV vs v) nm=if nm=v.nm then some v else xZ vs nm:=by
 split
 ·rename_i he
  subst he;exact getO_of (sorted_putO h) (mem_putO.2 (.inl rfl))
 ·rename_i he
  cases hg:xZ vs nm with
  | none=>
   rw[getO_none]at hg ⊢;intro w hw;rcases mem_putO.1 hw with rfl|hw
   ·exact fun h=>he h.symm
   ·exact hg w hw.1
  | some w=>
   obtain⟨h1,rfl⟩:=getO_mem hg;exact getO_of (sorted_putO h) (mem_putO.2 (.inr ⟨h1,he⟩))
theorem getO_del {vs:List (OV α)} (h:sortedO vs) (nm nm':LU):xZ (aBy vs nm) nm'=if nm'=nm then none else xZ vs nm':=by
 split
 ·rename_i he
  subst he;exact getO_none.2 fun w hw=>(mem_delO.1 hw).2
 ·rename_i he
  cases hg:xZ vs nm' with
  | none=>
   rw[getO_none]at hg ⊢;exact fun w hw=>hg w (mem_delO.1 hw).1
  | some w=>
   obtain⟨h1,rfl⟩:=getO_mem hg;exact getO_of (sorted_delO h _) (mem_delO.2 ⟨h1,he⟩)
theorem sorted_extO:∀ {A B:List (OV α)},sortedO A->sortedO B->(∀x,x∈A↔x∈B)->A=B:=by
 intro A
 induction A with
 | nil=>
  intro B _ _ h
  cases B with
  |nil=>rfl
  |cons b B=>exact absurd ((h b).2 sM) sM
 | cons a A ih=>
  intro B hA hB h
  cases B with
  |nil=>exact absurd ((h a).1 sM) sM
  | cons b B=>
   obtain ⟨hA1,hA2⟩:=Yk.1 hA;obtain⟨hB1,hB2⟩:=Yk.1 hB;have hab:a=b:=by
    rcases Yl.1 ((h a).1 sM)with e|e
    ·exact e
    ·rcases Yl.1 ((h b).2 sM)with e2|e2
     ·exact e2.symm
     ·have h1:=uZ _ _ (hB1 a e);rw[hA1 b e2]at h1;cases h1
   subst hab;congr 1;refine ih hA2 hB2 fun x=>⟨fun hx=> ?_,fun hx=> ?_⟩
   ·rcases Yl.1 ((h x).1 (List.mem_cons_of_mem _ hx))with rfl|e
    ·have h1:=hA1 x hx;rw[before_irrefl]at h1;cases h1
    ·exact e
   ·rcases Yl.1 ((h x).2 (List.mem_cons_of_mem _ hx))with rfl|e
    ·have h1:=hB1 x hx;rw[before_irrefl]at h1;cases h1
    ·exact e
theorem ob_ext {A B:List (OV α)} (hA:sortedO A) (hB:sortedO B) (h:∀ nm,xZ A nm=xZ B nm):A=B:=by
 refine sorted_extO hA hB fun x=>⟨fun hx=> ?_,fun hx=> ?_⟩
 ·have h1:=getO_of hA hx;rw[h]at h1;exact(getO_mem h1).1
 ·have h1:=getO_of hB hx;rw[<-h]at h1;exact(getO_mem h1).1
end
section
variable {α:Type}
theorem err_few {ob:List (OV α)} {c:Cmd α} (h:errO ob c≠7):errO ob c=errG (xZ ob) c:=by
  unfold errO errG at *;by_cases k1:c.kd=1∨c.kd=3
  · rw[Qf k1,Qf k1]
    try(cases xZ ob c.vol <;> rfl)
  · rw [Qe k1,Qe k1];by_cases k2:c.kd=2
    · rw[Qf k2,Qf k2]
      try(cases xZ ob c.vol <;> rfl)
    · rw [Qe k2,Qe k2];by_cases k5:c.kd=5
      · rw [Qf k5,Qf k5];rw[Qe k1,Qe k2,Qf k5]at h
        split
        · rfl
        · rename_i q1
          exact sy8
      · rw [Qe k5,Qe k5];by_cases k6:c.kd=6
        · rw [Qf k6,Qf k6];rw[Qe k1,Qe k2,Qe k5,Qf k6]at h
          cases hv:xZ ob c.vol with
          |none=>rfl
          | some v=>
            rw[hv]at h;simp only at h ⊢
            split
            · rfl
            · rename_i q1
              exact sy8
        · rw [Qe k6,Qe k6]
          try (split
               · cases xZ ob c.vol <;> rfl
               · rfl)
theorem getO_nm {A:List (OV α)} {nm:LU} {v:OV α} (h:xZ A nm=some v):v.nm=nm:=(getO_mem h).2
theorem step_get {z:α} {ob:List (OV α)} (h:sortedO ob) {c:Cmd α} (he:errO ob c=0):xZ (zW z ob c)=stepG z (xZ ob) c:=by
 funext nm
 unfold zW stepG;by_cases k2:c.kd=2
 ·rw [Qf k2,Qf (.inl k2)]
  cases hv:xZ ob c.vol with
  | none=>
   simp only
   split
   ·rename_i e;rw[e,hv];rfl
   ·rfl
  | some v=>
   simp only;rw[getO_put h,getO_nm hv]
   split
   ·rename_i e;rw[e,hv]
    simp only[Option.map_some,OV.write,aFd,Qf k2,getO_nm hv]
   ·rfl
 ·rw [Qe k2];by_cases k3:c.kd=3
  ·rw [Qf k3,Qf (.inr k3)]
   cases hv:xZ ob c.vol with
   | none=>
    simp only
    split
    ·rename_i e;rw[e,hv];rfl
    ·rfl
   | some v=>
    simp only;rw[getO_put h,getO_nm hv]
    split
    ·rename_i e;rw[e,hv]
     simp only[Option.map_some,OV.write,aFd,Qe k2,getO_nm hv]
    ·rfl
  ·rw [Qe k3,Qe (show ¬(c.kd=2∨c.kd=3) by omega)];by_cases k5:c.kd=5
   ·rw[Qf k5,Qf k5,getO_put h]
   ·rw [Qe k5,Qe k5];by_cases k6:c.kd=6
    ·rw [Qf k6,Qf k6]
     cases hv:xZ ob c.vol with
     | none=>
      unfold errO at he;rw[Qe (show ¬(c.kd=1∨c.kd=3) by omega),Qe k2,Qe k5,Qf k6,hv]at he;cases he
     | some v=>
      simp only;rw[getO_put h];rfl
    ·rw[Qe k6,Qe k6];by_cases k7:c.kd=7
     ·rw[Qf k7,Qf k7,getO_del h]
     ·rw[Qe k7,Qe k7]
end
section
variable {α:Type} {z:α} {g g':GO α} {a b c:Cmd α} {nm:LU}
def inT (c:Cmd α) (nm:LU):Prop:=nm=c.vol∨(c.kd=6/\nm=c.oth)
theorem stepG_out (h:¬ inT c nm):stepG z g c nm=g nm:=by
 have h1:¬ nm=c.vol:=fun e=>h (.inl e);unfold stepG;simp only[Qe h1]
 split
 ·rfl
 ·split
  ·rfl
  ·split
   ·rename_i k6
    rw[Qe fun e=>h (.inr ⟨k6,e⟩)]
   ·split <;> rfl
theorem stepG_congr (h:∀ nm,inT c nm->g nm=g' nm) (hn:inT c nm):stepG z g c nm=stepG z g' c nm:=by
 have h1:=h nm hn;have h2:=h c.vol (.inl rfl);unfold stepG;rw[h1,h2]
theorem errG_congr (h:∀ nm,inT c nm->g nm=g' nm):errG g c=errG g' c:=by
 have h2:=h c.vol (.inl rfl);unfold errG;rw[h2];by_cases k6:c.kd=6
 ·rw[h c.oth (.inr ⟨k6,rfl⟩)]
 ·simp only[Qe k6]
def Apart (a b:Cmd α):Prop:= ∀nm,inT a nm-> ¬inT b nm
theorem comm_apart (h:Apart a b):stepG z (stepG z g a) b=stepG z (stepG z g b) a:=by
 funext nm
 by_cases hb:inT b nm
 ·have ha:¬ inT a nm:=fun ha=>h nm ha hb;rw[stepG_out ha];exact stepG_congr (fun m hm=>stepG_out fun ha=>h m ha hm) hb
 ·rw[stepG_out hb];by_cases ha:inT a nm
  ·exact(stepG_congr (fun m hm=>stepG_out fun hb=>h m hm hb) ha).symm
  ·rw[stepG_out ha,stepG_out ha,stepG_out hb]
theorem err_apart (h:Apart a b):errG (stepG z g a) b=errG g b:=errG_congr fun m hm=>stepG_out fun ha=>h m ha hm
def readG (z:α) (g:GO α) (c:Cmd α):List α:=(List.range c.n.toNat).map fun i:Nat=>match g c.vol with
 |none=>z
 |some v=>(v.c (c.p+i).toNat).getD z
theorem read_apart (h:Apart a b):readG z (stepG z g a) b=readG z g b:=by
 unfold readG;rw[stepG_out fun ha=>h _ ha (.inl rfl)]
def clear2 (a b:Cmd α):Prop:= ∀i:Nat,a.p<=i->(i:Int)<a.p+a.n->b.p<=i->(i:Int)<b.p+b.n->False
theorem write_comm (v:OV α) (f h:Nat->Option α) (hc:clear2 a b):(v.write a.p a.n f).write b.p b.n h=(v.write b.p b.n h).write a.p a.n f:=by
 unfold OV.write;simp only[OV.mk.injEq,true_and]
 funext i
 by_cases h1:a.p<=(i:Int)/\(i:Int)<a.p+a.n
 ·have h2:¬ (b.p<=(i:Int)/\(i:Int)<b.p+b.n):=fun h2=>hc i h1.1 h1.2 h2.1 h2.2;simp only[Qf h1,Qe h2]
 ·simp only[Qe h1]
theorem comm_range (ha:aGm a) (hb:aGm b) (hc:(a.kd=1∨b.kd=1)∨a.vol≠b.vol∨clear2 a b):stepG z (stepG z g a) b=stepG z (stepG z g b) a:=by
 funext nm
 rw[aDb hb,aDb ha,aDb ha,aDb hb];by_cases h1:a.kd≠1/\nm=a.vol
 ·by_cases h2:b.kd≠1/\nm=b.vol
  ·rw [Qf h2,Qf h1,Qf h1,Qf h2];rcases hc with hc|hc|hc
   ·omega
   ·exact absurd (h1.2.symm.trans h2.2) hc
   ·cases g nm with
    |none=>rfl
    |some v=>exact congrArg some (write_comm v _ _ hc)
  ·rw[Qe h2,Qf h1,Qf h1,Qe h2]
 ·rw[Qe h1,Qe h1]
theorem err_range (ha:aGm a) (hb:aGm b):errG (stepG z g a) b=errG g b:=by
 have hs:∀ nm,(stepG z g a nm).map OV.n=(g nm).map OV.n:=fun nm=>by
  rw[aDb ha]
  split
  ·cases g nm <;> rfl
  ·rfl
 have hv:=hs b.vol;unfold errG;rcases hb with k|k|k
 ·rw[Qf (.inl k),Qf (.inl k)];exact sy6
 ·have k13:¬ (b.kd=1∨b.kd=3):=oM
  rw[Qe k13,Qe k13,Qf k,Qf k];exact sy6
 ·rw[Qf (.inr k),Qf (.inr k)];exact sy6
theorem read_range (ha:aGm a) (h0:0<=b.p) (hc:a.kd=1∨a.vol≠b.vol∨clear2 a b):readG z (stepG z g a) b=readG z g b:=by
 unfold readG;refine List.map_congr_left fun i hi=> ?_;have hi:=List.mem_range.1 hi;rw[aDb ha];by_cases h1:a.kd≠1/\b.vol=a.vol
 ·rw [Qf h1]
  cases g b.vol with
  |none=>rfl
  | some v=>
   simp only[Option.map_some];rcases hc with hc|hc|hc
   ·exact absurd hc h1.1
   ·exact absurd h1.2.symm hc
   ·unfold OV.write;simp only;rw[Qe fun q=>hc (b.p+i).toNat q.1 q.2 oM oM]
 ·rw[Qe h1]
end
section
variable {α:Type} {z:α} {a b:Cmd α}
def fenceC (c:Cmd α):Bool:=decide (c.ao=1)||decide (c.kd=4)
def rgkB (c:Cmd α):Bool:=c.valid&&decide (c.kd=1∨c.kd=2∨c.kd=3)
def namesC (c:Cmd α) (nm:LU):Bool:= !nm.isEmpty&&(c.vol==nm||c.oth==nm)
def overC (a b:Cmd α):Bool:=
 if (a.valid&&b.valid)=false then false
 else if (rgkB a&&rgkB b)=true then a.vol==b.vol&&(decide (a.p<b.p+b.n)&&(decide (b.p<a.p+a.n)&&(decide (a.kd≠1)||decide (b.kd≠1))))
 else if a.kd<5/\b.kd<5 then false
 else namesC a b.vol||namesC a b.oth
def befC (a b:Cmd α):Bool:=fenceC a||(fenceC b||overC a b)
theorem name_full {nm:LU} (h:bC nm=true):nm.isEmpty=false:=by
 cases nm with
 |nil=>exact absurd h dE
 |cons x r=>rfl
theorem free_pair (ha:a.valid=true) (hb:b.valid=true) (h:befC a b=false):(aGm a/\aGm b/\((a.kd=1/\b.kd=1)∨a.vol≠b.vol∨clear2 a b))∨Apart a b:=by
 unfold befC fenceC at h;simp only[Bool.or_eq_false_iff,Qy]at h;obtain⟨⟨_,ha4⟩,⟨_,hb4⟩,ho⟩:=h;obtain⟨ka,na,oa⟩:=tQ ha;obtain⟨kb,nb,ob⟩:=tQ hb;unfold overC rgkB at ho;rw[ha,hb]at ho;simp only[Bool.and_self,Bool.true_eq_false,if_false,Bool.true_and]at ho;by_cases hr:(a.kd=1∨a.kd=2∨a.kd=3)/\(b.kd=1∨b.kd=2∨b.kd=3)
 ·left
  refine⟨hr.1,hr.2,?_⟩;rw[Qf (by rw[Qo hr.1,Qo hr.2];rfl)]at ho;by_cases e:a.vol=b.vol
  ·rw[e]at ho;simp only[beq_self_eq_true,Bool.true_and,Yo,Bool.or_eq_false_iff,Qy]at ho;rcases ho with q|q|q
   ·right;right;intro i h1 h2 h3 h4;omega
   ·right;right;intro i h1 h2 h3 h4;omega
   ·left;omega
  ·exact .inr (.inl e)
 ·right
  rw[Qe (by rw[Qd,Qc,Qc];exact hr),Qe oM]at ho;unfold namesC at ho;simp only[Bool.or_eq_false_iff,Yo,Bool.not_eq_false',beq_eq_false_iff_ne,ne_eq]at ho;obtain⟨o1,o2⟩:=ho;have f1:=name_full (nb oM);rw[f1]at o1;have o1':=o1.resolve_left sM;intro nm h1 h2;rcases h1 with rfl|⟨k6,rfl⟩
  ·rcases h2 with e|⟨k6',e⟩
   ·exact o1'.1 e
   ·rw[name_full (ob k6')]at o2;exact(o2.resolve_left sM).1 e
  ·rcases h2 with e|⟨k6',e⟩
   ·exact o1'.2 e
   ·rw[name_full (ob k6')]at o2;exact(o2.resolve_left sM).2 e
theorem clear2.symm (h:clear2 a b):clear2 b a:=fun i h1 h2 h3 h4=>h i h3 h4 h1 h2
theorem Apart.symm (h:Apart a b):Apart b a:=fun nm h1 h2=>h nm h2 h1
theorem free_comm (g:GO α) (ha:a.valid=true) (hb:b.valid=true) (h:befC a b=false):
  stepG z (stepG z g a) b=stepG z (stepG z g b) a/\errG (stepG z g a) b=errG g b/\errG (stepG z g b) a=errG g a/\
  (b.kd=1->0<=b.p->readG z (stepG z g a) b=readG z g b)/\(a.kd=1->0<=a.p->readG z (stepG z g b) a=readG z g a):=by
 rcases free_pair ha hb h with ⟨ra,rb,hc⟩|hap
 ·refine ⟨comm_range ra rb ?_,err_range ra rb,err_range rb ra,fun _ h0=>read_range ra h0 ?_,fun _ h0=>read_range rb h0 ?_⟩
  ·rcases hc with hc|hc|hc
   ·exact .inl (.inl hc.1)
   ·exact .inr (.inl hc)
   ·exact .inr (.inr hc)
  ·rcases hc with hc|hc|hc
   ·exact .inl hc.1
   ·exact .inr (.inl hc)
   ·exact .inr (.inr hc)
  ·rcases hc with hc|hc|hc
   ·exact .inl hc.2
   ·exact .inr (.inl (Ne.symm hc))
   ·exact .inr (.inr hc.symm)
 ·exact⟨comm_apart hap,err_apart hap,err_apart hap.symm,fun _ _=>read_apart hap,fun _ _=>read_apart hap.symm⟩
end
section
variable {α:Type} {z:α} {s s' s1 s2 s12 s21:MSt α} {a b c:Cmd α}
theorem err_bridge (hF:s.F.ok) (c:Cmd α) (h7:fE s.F c≠7) (h11:fE s.F c≠11):fE s.F c=errG (xZ (obS s)) c/\fE s.F c=errO (obS s) c:=by
 rcases err_ob hF c with h|⟨_,h⟩
 ·exact⟨by rw[h];exact err_few (by rw[<-h];exact h7),h⟩
 ·exact absurd h h11
def Ax (z:α) (s:MSt α) (c:Cmd α) (s':MSt α):Prop:=if c.valid=true/\fE s.F c=0/\c.kd≠1 then Nx z s c s' else s'=s
def actG (z:α) (g:GO α) (c:Cmd α):GO α:=if errG g c=0 then stepG z g c else g
theorem ax_ob (hs:s.fine) (hv:c.valid=true) (h:Ax z s c s') (h7:fE s.F c≠7) (h11:fE s.F c≠11):xZ (obS s')=actG z (xZ (obS s)) c:=by
 have hF:=hs.sound.ok;obtain⟨e1,e2⟩:=err_bridge hF c h7 h11;unfold Ax at h;unfold actG;by_cases he:fE s.F c=0
 ·rw [Qf (by rw[<-e1];exact he)];by_cases k:c.kd=1
  ·rw[Qe (fun q=>q.2.2 k)]at h;rw[h]
   funext nm
   rw[aDb (.inl k),Qe (fun q=>q.1 k)]
  ·rw[Qf ⟨hv,he,k⟩]at h;rw[Jj hF h he];exact step_get (ob_sorted hF) (by rw[<-e2];exact he)
 ·rw[Qe (by rw[<-e1];exact he)];rw[Qe (fun q=>he q.2.1)]at h;rw[h]
end
section
variable {α:Type} {z:α} {s s':MSt α} {a b c:Cmd α}
theorem read_get (hF:s.F.ok) (h0:0<=c.p):vD z s c.vol c.p c.n=readG z (xZ (obS s)) c:=by
 unfold vD readG;refine List.map_congr_left fun i _=> ?_;rw[JO hF _ _ oM]
 try rfl
def repV (z:α) (g:GO α) (c:Cmd α):Rp α:=
 if c.valid=true then ⟨c.tag,errG g c,if c.kd=1/\errG g c=0 then readG z g c else []⟩else ⟨c.tag,1,[]⟩
def actV (z:α) (g:GO α) (c:Cmd α):GO α:=if c.valid=true/\c.kd≠4 then actG z g c else g
theorem rep_ob (hs:s.fine) (h7:(kW z s c).err≠7) (h11:(kW z s c).err≠11):kW z s c=repV z (xZ (obS s)) c:=by
 unfold kW repV at *;by_cases hv:c.valid=true
 ·rw[Qf hv]at h7 h11 ⊢;rw[Qf hv];have e1:=(err_bridge hs.sound.ok c h7 h11).1;rw[e1];congr 1;by_cases q:c.kd=1/\errG (xZ (obS s)) c=0
  ·rw[Qf q,Qf q];exact read_get hs.sound.ok (DV hv q.1).1
  ·rw[Qe q,Qe q]
 ·rw[Qe hv,Qe hv]
theorem act_ob (hs:s.fine) {m m':Mo α} (hm:m.cur=s) (h:Ap z m c m') (h7:(kW z s c).err≠7) (h11:(kW z s c).err≠11):xZ (obS m'.cur)=actV z (xZ (obS s)) c:=by
 subst hm;unfold actV;unfold kW at h7 h11;by_cases hv:c.valid=true
 ·rw [Qf hv]at h7 h11;by_cases k4:c.kd=4
  ·rw[Qe (fun q=>q.2 k4)];unfold Ap at h
   split at h
   ·rw[h]
   ·rw[h]
  ·rw [Qf ⟨hv,k4⟩];refine ax_ob hs hv ?_ h7 h11;unfold Ax;unfold Ap at h
   split at h
   ·rename_i q
    rw[Qf q];exact h.1
   ·rename_i q
    rw[Qe q,h]
 ·rw[Qe (fun q=>hv q.1)];unfold Ap at h;rw[Qe (fun q=>hv q.1)]at h;rw[h]
theorem bef_fence (h:befC a b=false):a.kd≠4/\b.kd≠4:=by
 unfold befC fenceC at h;simp only[Bool.or_eq_false_iff,Qy]at h;exact⟨h.1.2,h.2.1.2⟩
theorem readG_act {g:GO α} (hr:readG z (stepG z g a) b=readG z g b):readG z (actG z g a) b=readG z g b:=by
 unfold actG
 split
 ·exact hr
 ·rfl
theorem free_act (g:GO α) (h:befC a b=false):
  actV z (actV z g a) b=actV z (actV z g b) a/\repV z (actV z g a) b=repV z g b/\repV z (actV z g b) a=repV z g a:=by
 obtain⟨a4,b4⟩:=bef_fence h;by_cases ha:a.valid=true
 ·by_cases hb:b.valid=true
  ·obtain ⟨k1,k2,k3,k4,k5⟩:=free_comm (z:=z) g ha hb h;have va:∀ g:GO α,actV z g a=actG z g a:=fun g=>by unfold actV;rw[Qf ⟨ha,a4⟩]
   have vb:∀ g:GO α,actV z g b=actG z g b:=fun g=>by unfold actV;rw[Qf ⟨hb,b4⟩]
   have ea:errG (actG z g a) b=errG g b:=by
    unfold actG
    split
    ·exact k2
    ·rfl
   have eb:errG (actG z g b) a=errG g a:=by
    unfold actG
    split
    ·exact k3
    ·rfl
   simp only[va,vb];refine⟨?_,?_,?_⟩
   ·have l1:actG z (actG z g a) b=if errG g b=0 then stepG z (actG z g a) b else actG z g a:=by
     show(if errG (actG z g a) b=0 then _ else _)=_;rw[ea]
    have l2:actG z (actG z g b) a=if errG g a=0 then stepG z (actG z g b) a else actG z g b:=by
     show(if errG (actG z g b) a=0 then _ else _)=_;rw[eb]
    rw[l1,l2];unfold actG;by_cases qa:errG g a=0
    ·by_cases qb:errG g b=0
     ·rw[Qf qa,Qf qb,Qf qb,Qf qa];exact k1
     ·rw[Qf qa,Qe qb,Qe qb,Qf qa]
    ·by_cases qb:errG g b=0
     ·simp only[Qe qa,Qf qb]
     ·simp only[Qe qa,Qe qb]
   ·unfold repV;rw[Qf hb,Qf hb,ea];congr 1;by_cases q:b.kd=1/\errG g b=0
    ·rw[Qf q,Qf q];exact readG_act (k4 q.1 (DV hb q.1).1)
    ·rw[Qe q,Qe q]
   ·unfold repV;rw[Qf ha,Qf ha,eb];congr 1;by_cases q:a.kd=1/\errG g a=0
    ·rw[Qf q,Qf q];exact readG_act (k5 q.1 (DV ha q.1).1)
    ·rw[Qe q,Qe q]
  ·have vb:∀ g:GO α,actV z g b=g:=fun g=>by unfold actV;rw[Qe (fun q=>hb q.1)]
   have rb:∀ g:GO α,repV z g b=⟨b.tag,1,[]⟩:=fun g=>by unfold repV;rw[Qe hb]
   simp only[vb,rb];exact⟨trivial,trivial,trivial⟩
 ·have va:∀ g:GO α,actV z g a=g:=fun g=>by unfold actV;rw[Qe (fun q=>ha q.1)]
  have ra:∀ g:GO α,repV z g a=⟨a.tag,1,[]⟩:=fun g=>by unfold repV;rw[Qe ha]
  simp only[va,ra];exact⟨trivial,trivial,trivial⟩
end
theorem full_is (tg er:Int) (v:Value) (w:Wd):ep 27 #[.agg #[tg,er,v]] w (RB w (.bool (decide (er=11)||decide (er=7)))):=by
  cases h1:(er==11)
  · cases h2:(er==7)
    all_goals
      have g1:er≠11:=by simpa using h1
      go_enter func27,ntmps27;go_wp2;go_ret
      first
        | (have g2:er≠7:=by simpa using h2
           exact⟨aU (by simp[g1,g2]),(bQ w).aIw _⟩)
        | (have g2:er=7:=by simpa using h2
           exact⟨aU (by simp[g1,g2]),(bQ w).aIw _⟩)
  · have g1:er=11:=by simpa using h1
    go_enter func27,ntmps27;go_wp2;go_ret;exact⟨aU (by simp[g1]),(bQ w).aIw _⟩
theorem fence_is (c:Cmd Bk) (a:OA) (k:Nat) (w:Wd):
  ep 51 #[cmV c a k] w (RB w (.bool (fenceC c))):=by
 obtain⟨tg,kd,ao,af,vol,oth,p,n,dt⟩:=c;have hk:=(bQ w).aIw (.cells (bB ⟨tg,kd,ao,af,vol,oth,p,n,dt⟩ a k) 48);have HB:=hD hk;have hc:=CB.new w _ rfl ⟨tg,kd,ao,af,vol,oth,p,n,dt⟩ a k 48;have c1:=hc.c1;have c2:=hc.c2;simp only at c1 c2;clear hk hc;obtain⟨R,hR⟩:∃ R,fenceC (⟨tg,kd,ao,af,vol,oth,p,n,dt⟩:Cmd Bk)=R:=⟨_,rfl⟩;rw[hR];unfold fenceC at hR;simp only at hR;unfold cmV;simp only;go_enter func51,ntmps51;go_upto_region 1 with fail;generalize w.alloc (cq #[tg,kd,ao,.bool af,nmV vol,nmV oth,p,n,.slice a dt k] 48)=W at *;by_cases h1:ao=1
 ·rw[Qo h1,Bool.true_or]at hR;subst h1 hR;go_wp2_with fail;go_ret;exact⟨rfl,HB.o⟩
 ·rw [Qp h1,Bool.false_or]at hR;have h3:(ao==1)=false:=by simpa using h1
  by_cases h2:kd=4
  ·rw[Qo h2]at hR;subst h2 hR;clear h1;go_wp2_with fail;go_ret;exact⟨rfl,HB.o⟩
  ·rw[Qp h2]at hR;subst hR;have h4:(kd==4)=false:=by simpa using h2
   clear h1 h2;go_wp2_with fail;go_ret;exact⟨rfl,HB.o⟩
theorem crange_is (c:Cmd Bk) (a:OA) (k:Nat) (w:Wd) (hf:tN c) (hd:RdB w a c.data) (hv:c.valid=true):
  ep 85 #[cmV c a k] w (RB w (if 3<c.kd then .tuple #[.string ⟨#[]⟩,oo,oo,false]else .tuple #[nmV c.vol,c.p,c.n,true])):=by
 have hk:=(bQ w).aIw (.cells (bB c a k) 48);have HB:=hD hk;have HV:=hD (fun W h=>xM c a k W hf h);have HD:=hD (hd.keep hk);rw[hv]at HV;obtain⟨tg,kd,ao,af,vol,oth,p,n,dt⟩:=c;have HC:=hD (CB.new w _ rfl ⟨tg,kd,ao,af,vol,oth,p,n,dt⟩ a k 48);clear hk hf hd hv;unfold cmV at HV;simp only at HV;unfold cmV;simp only;go_enter func85,ntmps85;go_upto_region 1 with fail;generalize w.alloc (cq #[tg,kd,ao,.bool af,nmV vol,nmV oth,p,n,.slice a dt k] 48)=W at *;obtain⟨c0,c1,c2,c3,c4,c5,c6,c7,c8⟩:=HC.o;simp only at c0 c1 c2 c3 c4 c5 c6 c7 c8;by_cases h3:3<kd
 ·rw[Qf h3];go_wp2_with fail;refine(HV.o _ HD.o).m ?_;rintro e w1 ⟨rfl,hb⟩;have d1:=hb.keep c1;have HB1:=hD (HB.o.on hb);clear c0 c1 c2 c3 c4 c5 c6 c7 c8 hb;go_wp2_with fail;refine Yg (v:= .tuple #[.string ⟨#[]⟩,oo,oo,false]) kR rfl ?_;exact⟨rfl,HB1.o⟩
 ·rw[Qe h3];go_wp2_with fail;refine(HV.o _ HD.o).m ?_;rintro e w1 ⟨rfl,hb⟩;have d1:=hb.keep c1;have d4:=hb.keep c4;have d6:=hb.keep c6;have d7:=hb.keep c7;have HB1:=hD (HB.o.on hb);clear c0 c1 c2 c3 c4 c5 c6 c7 c8 hb;go_upto_region 3 with fail;refine wpr ?_
  repeat(go_big_quiet_step ((fail)))
  refine wqn fun nq=> ?_;go_wp2_with fail;refine Yg (v:= .tuple #[nmV vol,p,n,true]) kR rfl ?_;exact⟨rfl,HB1.o.on (World.aIy _ _)⟩
def shB (a b:Cmd Bk):Bool:=(!a.vol.isEmpty&&(a.vol==b.vol||a.vol==b.oth))||(!a.oth.isEmpty&&(a.oth==b.vol||a.oth==b.oth))
theorem shB_names (a b:Cmd Bk):shB a b=(namesC a b.vol||namesC a b.oth):=by
 have e:∀ x y:LU,(x==y)=true->x.isEmpty=y.isEmpty:=fun x y h=>by rw[beq_iff_eq.1 h]
 have h1:=e a.vol b.vol;have h2:=e a.vol b.oth;have h3:=e a.oth b.vol;have h4:=e a.oth b.oth;unfold shB namesC;generalize (a.vol==b.vol)=x1 at *;generalize (a.vol==b.oth)=x2 at *;generalize (a.oth==b.vol)=x3 at *;generalize (a.oth==b.oth)=x4 at *;generalize a.vol.isEmpty=y1 at *;generalize a.oth.isEmpty=y2 at *;generalize b.vol.isEmpty=y3 at *;generalize b.oth.isEmpty=y4 at *;clear e;revert h1 h2 h3 h4;cases x1 <;> cases x2 <;> cases x3 <;> cases x4 <;> cases y1 <;> cases y2 <;> cases y3 <;> cases y4 <;> simp
theorem shares_is (x y:Cmd Bk) (a b:OA) (k l:Nat) (w:Wd):
  ep 84 #[cmV x a k,cmV y b l] w (RB w (.bool (shB x y))):=by
 obtain⟨tg,kd,ao,af,vol,oth,p,n,dt⟩:=x;obtain⟨tg',kd',ao',af',vol',oth',p',n',dt'⟩:=y;have hk:=(bQ w).aIw (.cells (bB ⟨tg,kd,ao,af,vol,oth,p,n,dt⟩ a k) 48);have hl:=(Below.refl (w.alloc (.cells (bB ⟨tg,kd,ao,af,vol,oth,p,n,dt⟩ a k) 48)).heap.size (w.alloc (.cells (bB ⟨tg,kd,ao,af,vol,oth,p,n,dt⟩ a k) 48))).aIw (.cells (bB ⟨tg',kd',ao',af',vol',oth',p',n',dt'⟩ b l) 48);have HB:=hD (hk.on hl);have hx:=(CB.new w _ rfl ⟨tg,kd,ao,af,vol,oth,p,n,dt⟩ a k 48).aIx hl;have hy:=CB.new (w.alloc (.cells (bB ⟨tg,kd,ao,af,vol,oth,p,n,dt⟩ a k) 48)) (cf w) sM ⟨tg',kd',ao',af',vol',oth',p',n',dt'⟩ b l 48;have c4:=hx.c4;have c5:=hx.c5;have d4:=hy.c4;have d5:=hy.c5;simp only at c4 c5 d4 d5;clear hk hl hx hy;unfold cmV;simp only;obtain⟨R,hR⟩:∃ R,shB ⟨tg,kd,ao,af,vol,oth,p,n,dt⟩ ⟨tg',kd',ao',af',vol',oth',p',n',dt'⟩=R:=⟨_,rfl⟩;rw[hR];unfold shB at hR;simp only at hR;go_enter func84,ntmps84;go_upto_region 1 with fail;generalize (w.alloc (cq #[tg,kd,ao,.bool af,nmV vol,nmV oth,p,n,.slice a dt k] 48)).alloc (cq #[tg',kd',ao',.bool af',nmV vol',nmV oth',p',n',.slice b dt' l] 48)=W at *;go_wp2_with fail;have i0:∀ W,(Instr.index 215 (.agg #[nmV vol,nmV oth]) oo).run prog W= .ok (nmV vol) W:=fun W=>by kernel_rfl
 have i1:∀ W,(Instr.index 215 (.agg #[nmV vol,nmV oth]) ol).run prog W= .ok (nmV oth) W:=fun W=>by kernel_rfl
 obtain⟨u0,h0⟩:∃ u,vol.isEmpty=u:=⟨_,rfl⟩;obtain⟨u1,h1⟩:∃ u,(vol==vol')=u:=⟨_,rfl⟩;obtain⟨u2,h2⟩:∃ u,(vol==oth')=u:=⟨_,rfl⟩;obtain⟨u3,h3⟩:∃ u,oth.isEmpty=u:=⟨_,rfl⟩;obtain⟨u4,h4⟩:∃ u,(oth==vol')=u:=⟨_,rfl⟩;obtain⟨u5,h5⟩:∃ u,(oth==oth')=u:=⟨_,rfl⟩;rw[h0,h1,h2,h3,h4,h5]at hR;have HR:=hD hR;clear hR;refine wp_loop_rounds 3 ?_;rw[rounds_succ];cases u0
 ·cases u1
  ·cases u2
   ·exact sy5
   ·go_wp2_with fail;go_ret;exact⟨by rw[<-HR.o];rfl,HB.o⟩
  ·go_wp2_with fail;go_ret;exact⟨by rw[<-HR.o];rfl,HB.o⟩
 ·exact sy5
theorem valid_in {c:Cmd Bk} (h:c.valid=true) (k:c.kd<=3):0<=c.p/\1<=c.n/\c.p+c.n<=65536:=by
 have h1:=(tQ h).1;unfold Cmd.valid at h;simp only[Qd]at h;have hk:=h.2.2;unfold Cmd.aJj at hk;by_cases k1:c.kd=1
 ·rw[Qf k1]at hk;simp only[Qd,lK,Qc]at hk;omega
 ·rw[Qe k1]at hk;by_cases k2:c.kd=2
  ·rw[Qf k2]at hk;simp only[Qd,lK,Qc]at hk;omega
  ·rw[Qe k2,Qf (show c.kd=3 by omega)]at hk;simp only[Qd,lK,Qc]at hk;omega
structure C2 (w W:Wd) (x y:Cmd Bk) (a b:OA) (k l:Nat):Prop where
 x:CB W w x a k
 y:CB W (cf w) y b l
 g:Below w w W
theorem C2.aIx {w W W':Wd} {x y:Cmd Bk} {a b:OA} {k l:Nat} (h:C2 w W x y a b k l) (hb:Below W W W'):C2 w W' x y a b k l:=⟨h.x.aIx hb,h.y.aIx hb,h.g.on hb⟩
theorem C2.new (w:Wd) (x y:Cmd Bk) (a b:OA) (k l:Nat):C2 w ((w.alloc (.cells (bB x a k) 48)).alloc (.cells (bB y b l) 48)) x y a b k l:=by
 have hk:=(bQ w).aIw (.cells (bB x a k) 48);have hl:=(Below.refl (w.alloc (.cells (bB x a k) 48)).heap.size (w.alloc (.cells (bB x a k) 48))).aIw (.cells (bB y b l) 48);exact⟨(CB.new w _ rfl x a k 48).aIx hl,CB.new _ (w.heap.size+1) sM y b l 48,hk.on hl⟩
theorem overlap_is (x y:Cmd Bk) (a b:OA) (k l:Nat) (w:Wd) (hf:tN x) (hg:tN y) (hd:RdB w a x.data) (he:RdB w b y.data):
  ep 52 #[cmV x a k,cmV y b l] w (RB w (.bool (overC x y))):=by
 have H0:=hD (C2.new w x y a b k l);have HV:=hD (fun W h=>xM x a k W hf h);have HW:=hD (fun W h=>xM y b l W hg h);have HD:=hD hd;have HE:=hD he;obtain⟨R,hR⟩:∃ R,overC x y=R:=⟨_,rfl⟩;rw[hR];have HR:=hD hR;have HS:=hD (fun W=>shares_is x y a b k l W);have HK:=hD (fun(h:x.valid=true)=>tQ h);have HL:=hD (fun(h:y.valid=true)=>tQ h);have HM:=hD (fun(h:x.valid=true) k=>valid_in h k);have HN:=hD (fun(h:y.valid=true) k=>valid_in h k);have HA:=hD (fun W h (hv:x.valid=true)=>crange_is x a k W hf h hv);have HB:=hD (fun W h (hv:y.valid=true)=>crange_is y b l W hg h hv);clear hR hf hg hd he;obtain⟨v1,hv1⟩:∃ v,x.valid=v:=⟨_,rfl⟩;obtain⟨v2,hv2⟩:∃ v,y.valid=v:=⟨_,rfl⟩;rw[hv1]at HV;rw[hv2]at HW;have HV1:=hD hv1;have HV2:=hD hv2;clear hv1 hv2;obtain⟨tg,kd,ao,af,vol,oth,p,n,dt⟩:=x;obtain⟨tg',kd',ao',af',vol',oth',p',n',dt'⟩:=y;unfold cmV at HV HW HS HA HB ⊢;simp only at HV HW HS HA HB HK HL HM HN HD HE ⊢;go_enter func52,ntmps52;go_upto_region 1 with fail;generalize (w.alloc (cq #[tg,kd,ao,.bool af,nmV vol,nmV oth,p,n,.slice a dt k] 48)).alloc (cq #[tg',kd',ao',.bool af',nmV vol',nmV oth',p',n',.slice b dt' l] 48)=W at *;obtain⟨c0,c1,c2,c3,c4,c5,c6,c7,c8⟩:=H0.o.x;obtain⟨d0,d1,d2,d3,d4,d5,d6,d7,d8⟩:=H0.o.y;simp only at c0 c1 c2 c3 c4 c5 c6 c7 c8 d0 d1 d2 d3 d4 d5 d6 d7 d8;cases v1
 ·obtain rfl:R=false:=by rw[<-HR.o];unfold overC;rw[HV1.o];rfl
  go_wp2_with fail;refine(HV.o _ (HD.o.keep H0.o.g)).m ?_;rintro e wq ⟨rfl,hb⟩;have H1:=hD (H0.o.aIx hb);clear c0 c1 c2 c3 c4 c5 c6 c7 c8 d0 d1 d2 d3 d4 d5 d6 d7 d8;clear hb;go_wp2_with fail;go_ret;exact⟨rfl,H1.o.g⟩
 go_wp2_with fail;refine(HV.o _ (HD.o.keep H0.o.g)).m ?_;rintro e wq ⟨rfl,hb⟩;have H1:=hD (H0.o.aIx hb);clear c0 c1 c2 c3 c4 c5 c6 c7 c8 d0 d1 d2 d3 d4 d5 d6 d7 d8;clear hb;clear HV;obtain⟨c0,c1,c2,c3,c4,c5,c6,c7,c8⟩:=H1.o.x;obtain⟨d0,d1,d2,d3,d4,d5,d6,d7,d8⟩:=H1.o.y;simp only at c0 c1 c2 c3 c4 c5 c6 c7 c8 d0 d1 d2 d3 d4 d5 d6 d7 d8;cases v2
 ·obtain rfl:R=false:=by rw[<-HR.o];unfold overC;rw[HV1.o,HV2.o];rfl
  go_wp2_with fail;refine(HW.o _ (HE.o.keep H1.o.g)).m ?_;rintro e wq ⟨rfl,hb⟩;have H2:=hD (H1.o.aIx hb);clear c0 c1 c2 c3 c4 c5 c6 c7 c8 d0 d1 d2 d3 d4 d5 d6 d7 d8;clear hb;go_wp2_with fail;go_ret;exact⟨rfl,H2.o.g⟩
 go_wp2_with fail;refine(HW.o _ (HE.o.keep H1.o.g)).m ?_;rintro e wq ⟨rfl,hb⟩;have H2:=hD (H1.o.aIx hb);clear c0 c1 c2 c3 c4 c5 c6 c7 c8 d0 d1 d2 d3 d4 d5 d6 d7 d8;clear hb;clear HW H0 H1;have k1:=(HK.o HV1.o).1;have k2:=(HL.o HV2.o).1;obtain⟨c0,c1,c2,c3,c4,c5,c6,c7,c8⟩:=H2.o.x;obtain⟨d0,d1,d2,d3,d4,d5,d6,d7,d8⟩:=H2.o.y;simp only at c0 c1 c2 c3 c4 c5 c6 c7 c8 d0 d1 d2 d3 d4 d5 d6 d7 d8;by_cases h5:5<=kd∨5<=kd'
 ·have hR2:shB ⟨tg,kd,ao,af,vol,oth,p,n,dt⟩ ⟨tg',kd',ao',af',vol',oth',p',n',dt'⟩=R:=by
   rw[<-HR.o,shB_names];unfold overC rgkB;rw[HV1.o,HV2.o];simp only[Bool.and_self,Bool.true_eq_false,if_false,Bool.true_and];rw[Qe sy17,Qe oM]
  rw[hR2]at HS;clear hR2;by_cases h6:5<=kd
  all_goals
   go_wp2_with fail;refine(HS.o _).m ?_;rintro e wq ⟨rfl,hb⟩;have H3:=hD (H2.o.aIx hb);clear c0 c1 c2 c3 c4 c5 c6 c7 c8 d0 d1 d2 d3 d4 d5 d6 d7 d8;clear hb;go_wp2_with fail;go_ret;exact⟨rfl,H3.o.g⟩
 ·have hno:¬ (kd<=3/\kd'<=3)->R=false:=fun hn=>by
   rw[<-HR.o];unfold overC rgkB;rw[HV1.o,HV2.o];simp only[Bool.and_self,Bool.true_eq_false,if_false,Bool.true_and];rw[Qe sy17,Qf oM]
  by_cases h3:3<kd
  ·obtain rfl:=hno oM;simp only[Qf h3]at HA;clear hno;by_cases h3':3<kd'
   ·simp only[Qf h3']at HB;exact sy4
   ·simp only[Qe h3']at HB;exact sy4
  ·simp only[Qe h3]at HA;by_cases h3':3<kd'
   ·obtain rfl:=hno oM;simp only[Qf h3']at HB;clear hno;exact sy4
   ·simp only[Qe h3']at HB;clear hno;obtain⟨m1,m2,m3⟩:=HM.o HV1.o oM;obtain⟨n1,n2,n3⟩:=HN.o HV2.o oM;have q1:IntKind.i64.wrap (p'+n')=p'+n':=IntWalk.i64_in _ oM;have q2:IntKind.i64.wrap (p+n)=p+n:=IntWalk.i64_in _ oM;clear m1 m2 m3 n1 n2 n3;obtain⟨u1,g1⟩:∃ u,(vol==vol')=u:=⟨_,rfl⟩;obtain⟨u2,g2⟩:∃ u,decide (p<p'+n')=u:=⟨_,rfl⟩;obtain⟨u3,g3⟩:∃ u,decide (p'<p+n)=u:=⟨_,rfl⟩;obtain⟨u4,g4⟩:∃ u,(kd != 1)=u:=⟨_,rfl⟩;obtain⟨u5,g5⟩:∃ u,(kd' != 1)=u:=⟨_,rfl⟩;have hR2:(u1&&(u2&&(u3&&(u4||u5))))=R:=by
     rw[<-HR.o,<-g1,<-g2,<-g3,<-g4,<-g5];unfold overC rgkB;rw[HV1.o,HV2.o];simp only[Bool.and_self,Bool.true_eq_false,if_false,Bool.true_and];rw[Qf sy17];simp[bne,Bool.beq_eq_decide_eq]
    have HR2:=hD hR2;have z1:¬ (5<=kd):=oM
    have z2:¬ (5<=kd'):=oM
    clear hR2 k1 k2 h5 h3 h3';go_wp2_with fail;refine(HA.o _ (HD.o.keep H2.o.g) HV1.o).m ?_;rintro e wq ⟨rfl,hb⟩;have H3:=hD (H2.o.aIx hb);clear c0 c1 c2 c3 c4 c5 c6 c7 c8 d0 d1 d2 d3 d4 d5 d6 d7 d8;clear hb;obtain⟨c0,c1,c2,c3,c4,c5,c6,c7,c8⟩:=H3.o.x;obtain⟨d0,d1,d2,d3,d4,d5,d6,d7,d8⟩:=H3.o.y;simp only at c0 c1 c2 c3 c4 c5 c6 c7 c8 d0 d1 d2 d3 d4 d5 d6 d7 d8;go_wp2_with fail;refine(HB.o _ (HE.o.keep H3.o.g) HV2.o).m ?_;rintro e wq ⟨rfl,hb⟩;have H4:=hD (H3.o.aIx hb);clear c0 c1 c2 c3 c4 c5 c6 c7 c8 d0 d1 d2 d3 d4 d5 d6 d7 d8;clear hb;obtain⟨c0,c1,c2,c3,c4,c5,c6,c7,c8⟩:=H4.o.x;obtain⟨d0,d1,d2,d3,d4,d5,d6,d7,d8⟩:=H4.o.y;simp only at c0 c1 c2 c3 c4 c5 c6 c7 c8 d0 d1 d2 d3 d4 d5 d6 d7 d8;cases u1
    ·exact sy7
    ·cases u2
     ·exact sy7
     ·cases u3
      ·exact sy7
      ·cases u4
       ·cases u5
        ·exact sy7
        ·exact sy7
       ·exact sy7
theorem before_is (x y:Cmd Bk) (a b:OA) (k l:Nat) (w:Wd) (hf:tN x) (hg:tN y) (hd:RdB w a x.data) (he:RdB w b y.data):
  ep 29 #[cmV x a k,cmV y b l] w (RB w (.bool (befC x y))):=by
 have H0:=hD (C2.new w x y a b k l);have HF:=hD (fun W=>fence_is x a k W);have HG:=hD (fun W=>fence_is y b l W);have HO:=hD (fun W h h'=>overlap_is x y a b k l W hf hg h h');have HD:=hD hd;have HE:=hD he;obtain⟨R,hR⟩:∃ R,befC x y=R:=⟨_,rfl⟩;rw[hR];unfold befC at hR;obtain⟨u1,g1⟩:∃ u,fenceC x=u:=⟨_,rfl⟩;obtain⟨u2,g2⟩:∃ u,fenceC y=u:=⟨_,rfl⟩;obtain⟨u3,g3⟩:∃ u,overC x y=u:=⟨_,rfl⟩;rw[g1,g2,g3]at hR;rw[g1]at HF;rw[g2]at HG;rw[g3]at HO;clear hf hg hd he g1 g2 g3;obtain⟨tg,kd,ao,af,vol,oth,p,n,dt⟩:=x;obtain⟨tg',kd',ao',af',vol',oth',p',n',dt'⟩:=y;unfold cmV at HF HG HO ⊢;simp only at HF HG HO HD HE ⊢;go_enter func29,ntmps29;go_upto_region 1 with fail;generalize (w.alloc (cq #[tg,kd,ao,.bool af,nmV vol,nmV oth,p,n,.slice a dt k] 48)).alloc (cq #[tg',kd',ao',.bool af',nmV vol',nmV oth',p',n',.slice b dt' l] 48)=W at *;obtain⟨c0,c1,c2,c3,c4,c5,c6,c7,c8⟩:=H0.o.x;obtain⟨d0,d1,d2,d3,d4,d5,d6,d7,d8⟩:=H0.o.y;simp only at c0 c1 c2 c3 c4 c5 c6 c7 c8 d0 d1 d2 d3 d4 d5 d6 d7 d8;go_wp2_with fail;refine(HF.o _).m ?_;rintro e wq ⟨rfl,hb⟩;have H1:=hD (H0.o.aIx hb);clear c0 c1 c2 c3 c4 c5 c6 c7 c8 d0 d1 d2 d3 d4 d5 d6 d7 d8;clear hb;obtain⟨c0,c1,c2,c3,c4,c5,c6,c7,c8⟩:=H1.o.x;obtain⟨d0,d1,d2,d3,d4,d5,d6,d7,d8⟩:=H1.o.y;simp only at c0 c1 c2 c3 c4 c5 c6 c7 c8 d0 d1 d2 d3 d4 d5 d6 d7 d8;cases u1
 ·subst hR;go_wp2_with fail;refine(HG.o _).m ?_;rintro e wq ⟨rfl,hb⟩;have H2:=hD (H1.o.aIx hb);clear c0 c1 c2 c3 c4 c5 c6 c7 c8 d0 d1 d2 d3 d4 d5 d6 d7 d8;clear hb;obtain⟨c0,c1,c2,c3,c4,c5,c6,c7,c8⟩:=H2.o.x;obtain⟨d0,d1,d2,d3,d4,d5,d6,d7,d8⟩:=H2.o.y;simp only at c0 c1 c2 c3 c4 c5 c6 c7 c8 d0 d1 d2 d3 d4 d5 d6 d7 d8;cases u2
  ·go_wp2_with fail;refine(HO.o _ (HD.o.keep H2.o.g) (HE.o.keep H2.o.g)).m ?_;rintro e wq ⟨rfl,hb⟩;have H3:=hD (H2.o.aIx hb);clear c0 c1 c2 c3 c4 c5 c6 c7 c8 d0 d1 d2 d3 d4 d5 d6 d7 d8;clear hb;go_wp2_with fail;go_ret;exact⟨sM,H3.o.g⟩
  ·go_wp2_with fail;go_ret;exact⟨sM,H2.o.g⟩
 ·subst hR;go_wp2_with fail;go_ret;exact⟨sM,H1.o.g⟩
theorem cm_pair (W:Wd) (x y:CV) (hx:x.fit W) (hy:y.fit W) (t:TypeId):
  FM (W.alloc (cq #[x.c.tag,x.c.kd,x.c.ao,.bool x.c.af,nmV x.c.vol,nmV x.c.oth,x.c.p,x.c.n,.slice x.a x.c.data.length x.k,y.c.tag,y.c.kd,y.c.ao,.bool y.c.af,nmV y.c.vol,nmV y.c.oth,y.c.p,y.c.n,.slice y.a y.c.data.length y.k] t)) (cw W 0) [x,y]:=by
 have hk:=(bQ W).aIw (cq #[x.c.tag,x.c.kd,x.c.ao,.bool x.c.af,nmV x.c.vol,nmV x.c.oth,x.c.p,x.c.n,.slice x.a x.c.data.length x.k,y.c.tag,y.c.kd,y.c.ao,.bool y.c.af,nmV y.c.vol,nmV y.c.oth,y.c.p,y.c.n,.slice y.a y.c.data.length y.k] t);refine⟨sM,fun z hz=> ?_,.inr ⟨_,0,rfl,fun i z hz=> ?_⟩⟩
 ·simp only[Yl,List.not_mem_nil,or_false]at hz;rcases hz with rfl|rfl
  ·exact hx.keep hk
  ·exact hy.keep hk
 ·match i with
  | 0=>
   obtain rfl:x=z:=by simpa using hz
   exact sy9
  | 1=>
   obtain rfl:y=z:=by simpa using hz
   exact sy9
  |n+2=>simp at hz
theorem C2.grown {w W W':Wd} {x y:Cmd Bk} {a b:OA} {k l X:Nat} (h:C2 w W x y a b k l) (hg:W.grownBy W' (some X)) (hX:w.heap.size+1<X):C2 w W' x y a b k l:=
 ⟨h.x.grown hg oM,h.y.grown hg oM,h.g.aJa hg (fun j e=>by injection e with e;omega)⟩
abbrev rpB (T:Nat) (a:OA) (k:Nat) (r:Rp Bk):Nat × Value × Value × Value:=(T,.int .i64 r.tag,.int .i64 r.err,.slice a r.data.length k)
structure Qcw (w W:Wd) (x y:Cmd Bk) (xa ya:OA) (xk yk:Nat) (X:Nat) (m:Mo Bk) (Z:Nat) (n:Mo Bk) (bs:List (Nat × Value × Value × Value)) (ds:List (OA × List Bk)):Prop where
 cc:C2 w W x y xa ya xk yk
 mo:MoB W X m
 mz:MoB W Z n
 bx:∀ b∈bs,Bx3 W b.1 44 b.2.1 b.2.2.1 b.2.2.2
 ge:∀ b∈bs,Z<b.1
 nd:(bs.map (·.1)).Nodup
 da:∀ d∈ds,RdB W d.1 d.2
 xz:X<Z
 lx:w.heap.size+1<X
section
variable {w W W':Wd} {x y:Cmd Bk} {xa ya:OA} {xk yk:Nat} {X:Nat} {m m':Mo Bk} {Z:Nat} {n n':Mo Bk} {bs bs':List (Nat × Value × Value × Value)} {ds:List (OA × List Bk)}
theorem Qcw.aIx (h:Qcw w W x y xa ya xk yk X m Z n bs ds) (hb:Below W W W'):Qcw w W' x y xa ya xk yk X m Z n bs ds:=
 ⟨h.cc.aIx hb,h.mo.aIx hb,h.mz.aIx hb,fun b q=>(h.bx b q).aIx hb,h.ge,h.nd,fun d q=>(h.da d q).keep hb,h.xz,h.lx⟩
theorem Qcw.went1 (h:Qcw w W x y xa ya xk yk X m Z n bs ds) (hm:MoB W' X m') (hg:W.grownBy W' (some X)):Qcw w W' x y xa ya xk yk X m' Z n bs ds:=by
 have h1:=h.xz;have h2:=h.ge;exact⟨h.cc.grown hg h.lx,hm,h.mz.aJm h.mo.odM hg oM,fun b q=>(h.bx b q).grown hg (fun e=>by have:=h2 b q;injection e with e;omega),h.ge,h.nd,fun d q=>(h.da d q).aJh h.mo.mx hg,h.xz,h.lx⟩
theorem Qcw.went2 (h:Qcw w W x y xa ya xk yk X m Z n bs ds) (hn:MoB W' Z n') (hg:W.grownBy W' (some Z)):Qcw w W' x y xa ya xk yk X m Z n' bs ds:=by
 have h1:=h.xz;have h2:=h.ge;have h3:=h.lx;exact⟨h.cc.grown hg oM,h.mo.aJm h.mz.odM hg oM,hn,fun b q=>(h.bx b q).grown hg (fun e=>by have:=h2 b q;injection e with e;omega),h.ge,h.nd,fun d q=>(h.da d q).aJh h.mz.mx hg,h.xz,h.lx⟩
theorem Qcw.box (h:Qcw w W x y xa ya xk yk X m Z n bs ds) (u v z:Value):Qcw w (W.alloc (cq #[u,v,z] 44)) x y xa ya xk yk X m Z n ((W.heap.size,u,v,z)::bs) ds:=by
 have hb:=(bQ W).aIw (cq #[u,v,z] 44);have h0:=h.aIx hb;refine⟨h0.cc,h0.mo,h0.mz,fun b q=> ?_,fun b q=> ?_,?_,h0.da,h.xz,h.lx⟩
 ·rcases Yl.1 q with rfl|q
  ·exact Bx3.new W _ rfl u v z _
  ·exact h0.bx b q
 ·rcases Yl.1 q with rfl|q
  ·exact h.mz.lt
  ·exact h.ge b q
 ·rw[List.map_cons,List.nodup_cons];refine⟨fun q=> ?_,h.nd⟩;obtain⟨b,q1,q2⟩:=Yd.1 q;have:=(h.bx b q1).lt;simp only at q2;omega
theorem Qcw.dat {a:OA} {D:List Bk} (h:Qcw w W x y xa ya xk yk X m Z n bs ds) (hd:RdB W a D):Qcw w W x y xa ya xk yk X m Z n bs ((a,D)::ds):=
 ⟨h.cc,h.mo,h.mz,h.bx,h.ge,h.nd,fun d q=>by
  rcases Yl.1 q with rfl|q
  ·exact hd
  ·exact h.da d q,h.xz,h.lx⟩
theorem Qcw.put (h:Qcw w W x y xa ya xk yk X m Z n bs ds) (T:Nat) {u v:Value} (hT:(T,u,v,.slice none 0 0)∈bs) (hs:∀ b∈bs',b∈bs/\b.1≠T) (hn:(bs'.map (·.1)).Nodup) (a:OA) (k:Nat) (r:Rp Bk):
  Qcw w (xX W T r.tag r.err (.slice a r.data.length k)) x y xa ya xk yk X m Z n (rpB T a k r::bs') ds:=by
 have hb:=h.bx _ hT;have ht:=h.ge _ hT;simp only at hb ht;have h1:=h.xz;have h2:=h.lx;have g1:=dY W T r.tag r.err (.slice a r.data.length k);have o1:=hb.odN GN (fun j d e=>by cases e);have o2:=hb.odM GN reMa reSt;refine⟨h.cc.grown g1 oM,h.mo.aJm o2 g1 oM,h.mz.aJm o2 g1 oM,fun b q=> ?_,fun b q=> ?_,?_,fun d q=>(h.da d q).aJe o1 g1,h1,h2⟩
 ·rcases Yl.1 q with rfl|q
  ·exact hb.rep _ _ _
  ·exact(h.bx b (hs b q).1).grown g1 (fun e=>(hs b q).2 (Qv e).symm)
 ·rcases Yl.1 q with rfl|q
  ·exact ht
  ·exact h.ge b (hs b q).1
 ·rw[List.map_cons,List.nodup_cons];refine⟨fun q=> ?_,hn⟩;obtain⟨b,q1,q2⟩:=Yd.1 q;exact(hs b q1).2 q2
end
theorem comm_law {m m1 m12 m2 m21:Mo Bk} {a b:Cmd Bk} (fm:m.fine) (hf:befC a b=false) (h1:Ap Bk.zero m a m1) (h12:Ap Bk.zero m1 b m12) (h2:Ap Bk.zero m b m2) (h21:Ap Bk.zero m2 a m21)
  (ca:a.kd=5->a.n<=255) (cb:b.kd=5->b.n<=255)
  (r1:¬ ((kW Bk.zero m.cur a).err=11∨(kW Bk.zero m.cur a).err=7)) (r2:¬ ((kW Bk.zero m1.cur b).err=11∨(kW Bk.zero m1.cur b).err=7))
  (r3:¬ ((kW Bk.zero m.cur b).err=11∨(kW Bk.zero m.cur b).err=7)) (r4:¬ ((kW Bk.zero m2.cur a).err=11∨(kW Bk.zero m2.cur a).err=7)):
  kW Bk.zero m.cur a=kW Bk.zero m2.cur a/\kW Bk.zero m1.cur b=kW Bk.zero m.cur b/\obS m12.cur=obS m21.cur:=by
 have f1:=h1.fine fm ca;have f2:=h2.fine fm cb;have f12:=h12.fine f1 cb;have f21:=h21.fine f2 ca;have p1:=rep_ob (z:=Bk.zero) fm.cur (fun e=>r1 (.inr e)) (fun e=>r1 (.inl e));have p2:=rep_ob (z:=Bk.zero) f1.cur (fun e=>r2 (.inr e)) (fun e=>r2 (.inl e));have p3:=rep_ob (z:=Bk.zero) fm.cur (fun e=>r3 (.inr e)) (fun e=>r3 (.inl e));have p4:=rep_ob (z:=Bk.zero) f2.cur (fun e=>r4 (.inr e)) (fun e=>r4 (.inl e));have o1:=act_ob fm.cur rfl h1 (fun e=>r1 (.inr e)) (fun e=>r1 (.inl e));have o2:=act_ob f1.cur rfl h12 (fun e=>r2 (.inr e)) (fun e=>r2 (.inl e));have o3:=act_ob fm.cur rfl h2 (fun e=>r3 (.inr e)) (fun e=>r3 (.inl e));have o4:=act_ob f2.cur rfl h21 (fun e=>r4 (.inr e)) (fun e=>r4 (.inl e));obtain⟨e1,e2,e3⟩:=free_act (z:=Bk.zero) (xZ (obS m.cur)) hf;refine⟨?_,?_,ob_ext (ob_sorted f12.cur.sound.ok) (ob_sorted f21.cur.sound.ok) fun nm=> ?_⟩
 ·rw[p1,p4,o3,e3]
 ·rw[p2,p3,o1,e2]
 ·rw[o2,o4,o1,o3,e1]
theorem law_comm48 (L:List CV) (a:OA) (c:Nat) (x y:CV) (w:Wd) (hr:FM w a L) (hx:x.fit w) (hy:y.fit w):
  ep 10 #[.slice a L c,cmV x.c x.a x.k,cmV y.c y.a y.k] w (RB w true):=by
 have H0:=hD (C2.new w x.c y.c x.a y.a x.k y.k);have HR:=hD hr;have HX:=hD hx;have HY:=hD hy;obtain⟨q1,hq1⟩:∃ q,(Dk L&&decide (L.length<=15))=q:=⟨_,rfl⟩;obtain⟨q2,hq2⟩:∃ q,(Dk [x,y]&&decide ([x,y].length<=2))=q:=⟨_,rfl⟩;obtain⟨q3,hq3⟩:∃ q,befC x.c y.c=q:=⟨_,rfl⟩;have HQ1:=hD hq1;have HQ2:=hD hq2;have HQ3:=hD hq3;have HBF:=hD (fun W h h'=>before_is x.c y.c x.a y.a x.k y.k W hx.fit hy.fit h h');rw[hq3]at HBF;have HPR:=hD (fun W h h'=>cm_pair W x y h h' 48);clear hr hx hy hq1 hq2 hq3;obtain⟨⟨tg,kd,ao,af,vol,oth,p0,n,dt⟩,xa,xk⟩:=x;obtain⟨⟨tg',kd',ao',af',vol',oth',p',n',dt'⟩,ya,yk⟩:=y;unfold cmV at HBF ⊢;simp only at HBF HPR ⊢;go_enter func10,ntmps10;go_upto_region 1 with fail;generalize (w.alloc (cq #[tg,kd,ao,.bool af,nmV vol,nmV oth,p0,n,.slice xa dt xk] 48)).alloc (cq #[tg',kd',ao',.bool af',nmV vol',nmV oth',p',n',.slice ya dt' yk] 48)=W at *;go_wp2_with fail;refine(Fz _).m ?_;rintro e w1 ⟨rfl,hb⟩;have H1:=hD (H0.o.aIx hb);clear hb H0;obtain⟨c0,c1,c2,c3,c4,c5,c6,c7,c8⟩:=H1.o.x;obtain⟨d0,d1,d2,d3,d4,d5,d6,d7,d8⟩:=H1.o.y;simp only at c0 c1 c2 c3 c4 c5 c6 c7 c8 d0 d1 d2 d3 d4 d5 d6 d7 d8;cases q1
 ·go_wp2_with fail;refine(GM L a c 15 _ (HR.o.keep H1.o.g) oM _ HQ1.o).m ?_;rintro e w2 ⟨rfl,hb⟩;have H2:=hD (H1.o.g.on hb);clear hb;clear c0 c1 c2 c3 c4 c5 c6 c7 c8 d0 d1 d2 d3 d4 d5 d6 d7 d8;go_wp2_with fail;go_ret;exact⟨rfl,H2.o⟩
 go_wp2_with fail;refine(GM L a c 15 _ (HR.o.keep H1.o.g) oM _ HQ1.o).m ?_;rintro e w2 ⟨rfl,hb⟩;have H2:=hD (H1.o.aIx hb);clear hb H1;clear c0 c1 c2 c3 c4 c5 c6 c7 c8 d0 d1 d2 d3 d4 d5 d6 d7 d8;obtain⟨c0,c1,c2,c3,c4,c5,c6,c7,c8⟩:=H2.o.x;obtain⟨d0,d1,d2,d3,d4,d5,d6,d7,d8⟩:=H2.o.y;simp only at c0 c1 c2 c3 c4 c5 c6 c7 c8 d0 d1 d2 d3 d4 d5 d6 d7 d8;have hp:=HPR.o w2 (HX.o.keep H2.o.g) (HY.o.keep H2.o.g);have hkp:=(bQ w2).aIw (cq #[tg,kd,ao,.bool af,nmV vol,nmV oth,p0,n,.slice xa dt xk,tg',kd',ao',.bool af',nmV vol',nmV oth',p',n',.slice ya dt' yk] 48);have HP:=hD hp;have H3:=hD (H2.o.aIx hkp);have HFW:=hD (fun W h=>GM [⟨⟨tg,kd,ao,af,vol,oth,p0,n,dt⟩,xa,xk⟩,⟨⟨tg',kd',ao',af',vol',oth',p',n',dt'⟩,ya,yk⟩] (cw w2 0) 2 2 W h oM _ HQ2.o);clear hp hkp HPR;simp only[List.length_cons,List.length_nil]at HFW;cases q2
 ·go_wp2_with fail;refine(HFW.o _ HP.o).m ?_;rintro e w3 ⟨rfl,hb⟩;have H4:=hD (H3.o.g.on hb);clear hb;clear c0 c1 c2 c3 c4 c5 c6 c7 c8 d0 d1 d2 d3 d4 d5 d6 d7 d8;go_wp2_with fail;go_ret;exact⟨rfl,H4.o⟩
 go_wp2_with fail;refine(HFW.o _ HP.o).m ?_;rintro e w3 ⟨rfl,hb⟩;have H4:=hD (H3.o.aIx hb);clear hb H2 H3 HP HFW;clear c0 c1 c2 c3 c4 c5 c6 c7 c8 d0 d1 d2 d3 d4 d5 d6 d7 d8;obtain⟨c0,c1,c2,c3,c4,c5,c6,c7,c8⟩:=H4.o.x;obtain⟨d0,d1,d2,d3,d4,d5,d6,d7,d8⟩:=H4.o.y;simp only at c0 c1 c2 c3 c4 c5 c6 c7 c8 d0 d1 d2 d3 d4 d5 d6 d7 d8;have hq:=Bool.and_eq_true_iff.1 HQ2.o;have hq1:=Bool.and_eq_true_iff.1 HQ1.o;have hfx:=MB hq.1 (show(⟨⟨tg,kd,ao,af,vol,oth,p0,n,dt⟩,xa,xk⟩:CV)∈_ from List.mem_cons_self);have hfy:=MB hq.1 (show(⟨⟨tg',kd',ao',af',vol',oth',p',n',dt'⟩,ya,yk⟩:CV)∈_ from List.mem_cons_of_mem _ List.mem_cons_self);simp only at hfx hfy;have HFX:=hD hfx;have HFY:=hD hfy;have HFW:=hD hq1.1;have HL:Hid (L.length<=15):=hD (Qt hq1.2);have HDX:Hid (RdB w xa dt):=hD (HX.o.dat sO);have HDY:Hid (RdB w ya dt'):=hD (HY.o.dat sO);have HCX:=hD HX.o.fit;have HCY:=hD HY.o.fit;clear hq hq1 hfx hfy HQ1 HQ2 HX HY;simp only at HCX HCY;cases q3
 rotate_left
 ·go_wp2_with fail;refine(HBF.o _ (HDX.o.keep H4.o.g) (HDY.o.keep H4.o.g)).m ?_;rintro e w5 ⟨rfl,hb⟩;have H5:=hD (H4.o.g.on hb);clear hb;clear c0 c1 c2 c3 c4 c5 c6 c7 c8 d0 d1 d2 d3 d4 d5 d6 d7 d8;go_wp2_with fail;go_ret;exact⟨rfl,H5.o⟩
 go_wp2_with fail;refine(HBF.o _ (HDX.o.keep H4.o.g) (HDY.o.keep H4.o.g)).m ?_;rintro e w5 ⟨rfl,hb⟩;have H5:=hD (H4.o.aIx hb);clear hb H4 HBF;clear c0 c1 c2 c3 c4 c5 c6 c7 c8 d0 d1 d2 d3 d4 d5 d6 d7 d8;go_wp2_with fail;refine(Ic 39 L a c _ oM (HR.o.keep H5.o.g) HFW.o (by have:=HL.o;omega)).m ?_;rintro e w6 ⟨X,m,g,pq,pa,pc,ps,rfl,hm,hg,hs,fm,fg,hpl,hx,hb⟩;obtain⟨va,vn,vc,da,dc,s⟩:=pq;have hk4:=hb.aIw (cq #[s.F.N,.slice va vn vc,.slice da s.F.N dc,.slice pa ps pc] 34);have H6:=hD (H5.o.aIx hk4);have HM:=hD (hm.aIx ((bQ w6).aIw (cq #[s.F.N,.slice va vn vc,.slice da s.F.N dc,.slice pa ps pc] 34)));have HXL:Hid (w.heap.size+1<X):=hD (by have:=H5.o.y.lt;omega);have HFM:=hD fm;have HPL:Hid (m.past.length<=15):=hD (by have:=HL.o;omega);clear hk4 hm hg hs fm fg hpl hx hb H5 HR HFW HL;unfold rmV;simp only;go_upto_region 6 with fail;generalize w6.alloc (cq #[s.F.N,.slice va vn vc,.slice da s.F.N dc,.slice pa ps pc] 34)=W6 at *;go_wp2_with fail;refine(mmcopy_is X m _ HM.o (by have:=HPL.o;omega)).m ?_;rintro e w7 ⟨Z,rfl,hz,hzl,hb⟩;have H7:=hD (H6.o.aIx hb);have HM7:=hD (HM.o.aIx hb);have HZ:=hD hz;have HXZ:Hid (X<Z):=hD (by have:=HM.o.lt;omega);clear hb hz hzl H6 HM;go_upto_region 9 with fail;obtain⟨⟨rt,re,rD⟩,hr1⟩:∃ r,kW Bk.zero m.cur (⟨tg,kd,ao,af,vol,oth,p0,n,dt⟩:Cmd Bk)=r:=⟨_,rfl⟩;have HAX:=hD (fun W h1 h2=>yX X m ⟨tg,kd,ao,af,vol,oth,p0,n,dt⟩ xa xk W h1 HFM.o (by have:=HPL.o;omega) HCX.o h2 (fun e=>by have:=HFX.o.2 e;show n<=255;omega));have HAY:=hD (fun m1 (h:Ap Bk.zero m ⟨tg,kd,ao,af,vol,oth,p0,n,dt⟩ m1) W h1 h2=>yX X m1 ⟨tg',kd',ao',af',vol',oth',p',n',dt'⟩ ya yk W h1 (h.fine HFM.o (fun e=>by have:=HFX.o.2 e;show n<=255;omega)) (by have:=HPL.o;have:=h.past;omega) HCY.o h2 (fun e=>by have:=HFY.o.2 e;show n'<=255;omega));unfold JY cmV at HAX HAY;rw[hr1]at HAX;simp only at HAX HAY;have HQ0:Hid (Qcw w w7 ⟨tg,kd,ao,af,vol,oth,p0,n,dt⟩ ⟨tg',kd',ao',af',vol',oth',p',n',dt'⟩ xa ya xk yk X m Z m [] []):=hD ⟨H7.o,HM7.o,HZ.o,fun b q=>by simp at q,fun b q=>by simp at q,sM,fun d q=>by simp at q,HXZ.o,HXL.o⟩;clear H7 HM7 HZ
 go_cut [11,12] from 42 to 47 (fun p q wx=>∃ (T6 T7:Nat) (a1:OA) (k1:Nat) (m1:Mo Bk) (a2:OA) (k2:Nat) (m2:Mo Bk),p= .pointer (cw T6 0)/\q= .pointer (cw T7 0)/\Hid (Ap Bk.zero m ⟨tg,kd,ao,af,vol,oth,p0,n,dt⟩ m1)/\Hid (Ap Bk.zero m1 ⟨tg',kd',ao',af',vol',oth',p',n',dt'⟩ m2)/\Hid (Qcw w wx ⟨tg,kd,ao,af,vol,oth,p0,n,dt⟩ ⟨tg',kd',ao',af',vol',oth',p',n',dt'⟩ xa ya xk yk X m2 Z m [rpB T7 a2 k2 (kW Bk.zero m1.cur (⟨tg',kd',ao',af',vol',oth',p',n',dt'⟩:Cmd Bk)),rpB T6 a1 k1 ⟨rt,re,rD⟩] [(a2,(kW Bk.zero m1.cur (⟨tg',kd',ao',af',vol',oth',p',n',dt'⟩:Cmd Bk)).data),(a1,rD)]))
 case first=>
  have HQ:=hD (HQ0.o.aIx (bQ w7).drew);clear HQ0;refine wp_region_held_drew (S:=fun W=>C2 w W ⟨tg,kd,ao,af,vol,oth,p0,n,dt⟩ ⟨tg',kd',ao',af',vol',oth',p',n',dt'⟩ xa ya xk yk) kR HQ.o.cc (fun hHeld=> ?_);generalize w7.drew=v0 at *;refine tk 0 ?_ (y:=by intro w hSw;obtain⟨c0,c1,c2,c3,c4,c5,c6,c7,c8⟩:=hSw.x;obtain⟨d0,d1,d2,d3,d4,d5,d6,d7,d8⟩:=hSw.y;simp only at c0 c1 c2 c3 c4 c5 c6 c7 c8 d0 d1 d2 d3 d4 d5 d6 d7 d8;clear hSw;go_simp;try with_reducible rfl) (k:=by intro g;(try simp only[Act.put,sg,sp]);exact g);refine tk 1 ?_ (y:=by intro w hSw;obtain⟨c0,c1,c2,c3,c4,c5,c6,c7,c8⟩:=hSw.x;obtain⟨d0,d1,d2,d3,d4,d5,d6,d7,d8⟩:=hSw.y;simp only at c0 c1 c2 c3 c4 c5 c6 c7 c8 d0 d1 d2 d3 d4 d5 d6 d7 d8;clear hSw;go_simp;try with_reducible rfl) (k:=by intro g;(try simp only[Act.put,sg,sp]);exact g);refine tk 3 ?_ (y:=by intro w hSw;obtain⟨c0,c1,c2,c3,c4,c5,c6,c7,c8⟩:=hSw.x;obtain⟨d0,d1,d2,d3,d4,d5,d6,d7,d8⟩:=hSw.y;simp only at c0 c1 c2 c3 c4 c5 c6 c7 c8 d0 d1 d2 d3 d4 d5 d6 d7 d8;clear hSw;go_simp;try with_reducible rfl) (k:=by intro g;(try simp only[Act.put,sg,sp]);exact g);refine tk 4 ?_ (y:=by intro w hSw;obtain⟨c0,c1,c2,c3,c4,c5,c6,c7,c8⟩:=hSw.x;obtain⟨d0,d1,d2,d3,d4,d5,d6,d7,d8⟩:=hSw.y;simp only at c0 c1 c2 c3 c4 c5 c6 c7 c8 d0 d1 d2 d3 d4 d5 d6 d7 d8;clear hSw;go_simp;try with_reducible rfl) (k:=by intro g;(try simp only[Act.put,sg,sp]);exact g);refine rdy3 2 6 7 (fun K hK=> ?_) (fun K hK=> ?_) (fun K hK=> ?_)
  ·go_simp;refine(HAX.o _ HQ.o.mo (HDX.o.keep HQ.o.cc.g)).m ?_;rintro e v1 ⟨a1,k1,m1,rfl,hap,hmo,hrd,hgr⟩;have HP1:=hD hap;replace HQ:=hD ((HQ.o.went1 hmo hgr).dat hrd);clear hap hmo hrd hgr;refine hK.out _ _ HQ.o.cc (fun hHeld=> ?_);clear hK K
   try simp only[Act.put,sg,sp]
   refine rdy3 5 6 7 (fun K hK=> ?_) (fun K hK=> ?_) (fun K hK=> ?_)
   ·go_simp;refine(HAY.o m1 HP1.o _ HQ.o.mo (HDY.o.keep HQ.o.cc.g)).m ?_;rintro e v2 ⟨a2,k2,m2,rfl,hap,hmo,hrd,hgr⟩;have HP2:=hD hap;replace HQ:=hD ((HQ.o.went1 hmo hgr).dat hrd);clear hap hmo hrd hgr;refine hK.out _ _ HQ.o.cc (fun hHeld=> ?_);clear hK K
    try simp only[Act.put,sg,sp]
    refine TJ 6 7 (fun K hK=> ?_) (fun K hK=> ?_)
    ·go_simp;replace HQ:=hD (HQ.o.box oo oo sn);generalize v2.alloc (cq #[oo,oo,sn] 44)=v3 at HQ ⊢;generalize v2.heap.size=T6 at HQ ⊢;exact sy11
    ·go_simp;replace HQ:=hD (HQ.o.box oo oo sn);generalize v2.alloc (cq #[oo,oo,sn] 44)=v3 at HQ ⊢;generalize v2.heap.size=T7 at HQ ⊢;exact sy12
   ·go_simp;replace HQ:=hD (HQ.o.box oo oo sn);generalize v1.alloc (cq #[oo,oo,sn] 44)=v2 at HQ ⊢;generalize v1.heap.size=T6 at HQ ⊢;exact sy14
   ·go_simp;replace HQ:=hD (HQ.o.box oo oo sn);generalize v1.alloc (cq #[oo,oo,sn] 44)=v2 at HQ ⊢;generalize v1.heap.size=T7 at HQ ⊢;exact sy15
  ·go_simp;replace HQ:=hD (HQ.o.box oo oo sn);generalize v0.alloc (cq #[oo,oo,sn] 44)=v1 at HQ ⊢;generalize v0.heap.size=T6 at HQ ⊢;refine hK.out _ _ HQ.o.cc (fun hHeld=> ?_);clear hK K
   try simp only[Act.put,sg,sp]
   refine TJ 2 7 (fun K hK=> ?_) (fun K hK=> ?_)
   ·go_simp;refine(HAX.o _ HQ.o.mo (HDX.o.keep HQ.o.cc.g)).m ?_;rintro e v2 ⟨a1,k1,m1,rfl,hap,hmo,hrd,hgr⟩;have HP1:=hD hap;replace HQ:=hD ((HQ.o.went1 hmo hgr).dat hrd);clear hap hmo hrd hgr;exact sy14
   ·go_simp;replace HQ:=hD (HQ.o.box oo oo sn);generalize v1.alloc (cq #[oo,oo,sn] 44)=v2 at HQ ⊢;generalize v1.heap.size=T7 at HQ ⊢;exact sy16
  ·go_simp;replace HQ:=hD (HQ.o.box oo oo sn);generalize v0.alloc (cq #[oo,oo,sn] 44)=v1 at HQ ⊢;generalize v0.heap.size=T7 at HQ ⊢;refine hK.out _ _ HQ.o.cc (fun hHeld=> ?_);clear hK K
   try simp only[Act.put,sg,sp]
   refine TJ 2 6 (fun K hK=> ?_) (fun K hK=> ?_)
   ·go_simp;refine(HAX.o _ HQ.o.mo (HDX.o.keep HQ.o.cc.g)).m ?_;rintro e v2 ⟨a1,k1,m1,rfl,hap,hmo,hrd,hgr⟩;have HP1:=hD hap;replace HQ:=hD ((HQ.o.went1 hmo hgr).dat hrd);clear hap hmo hrd hgr;exact sy15
   ·go_simp;replace HQ:=hD (HQ.o.box oo oo sn);generalize v1.alloc (cq #[oo,oo,sn] 44)=v2 at HQ ⊢;generalize v1.heap.size=T6 at HQ ⊢;exact sy16
 case rest=>
  obtain⟨T6,T7,a1,k1,m1,a2,k2,m2,rfl,rfl,HP1,HP2,HQ⟩:=hcut;generalize hw9:wc=w9 at *;clear hw9 HQ0 HAX HAY;obtain⟨⟨st,se,sD⟩,hr2⟩:∃ r,kW Bk.zero m1.cur (⟨tg',kd',ao',af',vol',oth',p',n',dt'⟩:Cmd Bk)=r:=⟨_,rfl⟩;rw[hr2]at HQ;unfold rpB at HQ;simp only at HQ;have HCA:Hid (kd=5->n<=255):=hD (fun e=>by have:=HFX.o.2 e;omega);have HCB:Hid (kd'=5->n'<=255):=hD (fun e=>by have:=HFY.o.2 e;omega);obtain⟨⟨tt,te,tD⟩,hr3⟩:∃ r,kW Bk.zero m.cur (⟨tg',kd',ao',af',vol',oth',p',n',dt'⟩:Cmd Bk)=r:=⟨_,rfl⟩;have HAY:=hD (fun W h1 h2=>yX Z m ⟨tg',kd',ao',af',vol',oth',p',n',dt'⟩ ya yk W h1 HFM.o (by have:=HPL.o;omega) HCY.o h2 HCB.o);have HAX:=hD (fun m2 (h:Ap Bk.zero m ⟨tg',kd',ao',af',vol',oth',p',n',dt'⟩ m2) W h1 h2=>yX Z m2 ⟨tg,kd,ao,af,vol,oth,p0,n,dt⟩ xa xk W h1 (h.fine HFM.o HCB.o) (by have:=HPL.o;have:=h.past;omega) HCX.o h2 HCA.o);unfold JY cmV at HAX HAY;rw[hr3]at HAY;simp only at HAX HAY;have HR1:=hD hr1;have HR2:=hD hr2;have HR3:=hD hr3;clear hr1 hr2 hr3;obtain⟨c0,c1,c2,c3,c4,c5,c6,c7,c8⟩:=HQ.o.cc.x;obtain⟨d0,d1,d2,d3,d4,d5,d6,d7,d8⟩:=HQ.o.cc.y;simp only at c0 c1 c2 c3 c4 c5 c6 c7 c8 d0 d1 d2 d3 d4 d5 d6 d7 d8;go_wp2_with fail;refine(HAY.o _ HQ.o.mz (HDY.o.keep HQ.o.cc.g)).m ?_;rintro e v1 ⟨a3,k3,n1,rfl,hap,hmo,hrd,hgr⟩;have HP3:=hD hap;have HQ4:=hD ((((HQ.o.went2 hmo hgr).dat hrd).box tt te (.slice a3 tD k3)));clear c0 c1 c2 c3 c4 c5 c6 c7 c8 d0 d1 d2 d3 d4 d5 d6 d7 d8;clear hap hmo hrd hgr HQ HAY;go_upto_region 11 with fail;generalize v1.alloc (cq #[tt,te,.slice a3 tD k3] 44)=v2 at HQ4 ⊢;generalize v1.heap.size=T13 at HQ4 ⊢;obtain⟨⟨ut,ue,uD⟩,hr4⟩:∃ r,kW Bk.zero n1.cur (⟨tg,kd,ao,af,vol,oth,p0,n,dt⟩:Cmd Bk)=r:=⟨_,rfl⟩;replace HAX:=hD (HAX.o n1 HP3.o);rw[hr4]at HAX;simp only at HAX;have HR4:=hD hr4;clear hr4;obtain⟨c0,c1,c2,c3,c4,c5,c6,c7,c8⟩:=HQ4.o.cc.x;obtain⟨d0,d1,d2,d3,d4,d5,d6,d7,d8⟩:=HQ4.o.cc.y;simp only at c0 c1 c2 c3 c4 c5 c6 c7 c8 d0 d1 d2 d3 d4 d5 d6 d7 d8;go_wp2_with fail;refine(HAX.o _ HQ4.o.mz (HDX.o.keep HQ4.o.cc.g)).m ?_;rintro e v3 ⟨a4,k4,n2,rfl,hap,hmo,hrd,hgr⟩;have HP4:=hD hap;have HQ5:=hD ((((HQ4.o.went2 hmo hgr).dat hrd).box ut ue (.slice a4 uD k4)));clear c0 c1 c2 c3 c4 c5 c6 c7 c8 d0 d1 d2 d3 d4 d5 d6 d7 d8;clear hap hmo hrd hgr HQ4 HAX HDX HDY HCX HCY;go_upto_region 12 with fail;generalize v3.alloc (cq #[ut,ue,.slice a4 uD k4] 44)=v4 at HQ5 ⊢;generalize v3.heap.size=T14 at HQ5 ⊢;obtain⟨f1,hf1⟩:∃ f,(decide (re=11)||decide (re=7))=f:=⟨_,rfl⟩;obtain⟨f2,hf2⟩:∃ f,(decide (se=11)||decide (se=7))=f:=⟨_,rfl⟩;obtain⟨f3,hf3⟩:∃ f,(decide (te=11)||decide (te=7))=f:=⟨_,rfl⟩;obtain⟨f4,hf4⟩:∃ f,(decide (ue=11)||decide (ue=7))=f:=⟨_,rfl⟩;have HF1:=hD (fun W=>full_is rt re (.slice a1 rD k1) W);have HF2:=hD (fun W=>full_is st se (.slice a2 sD k2) W);have HF3:=hD (fun W=>full_is tt te (.slice a3 tD k3) W);have HF4:=hD (fun W=>full_is ut ue (.slice a4 uD k4) W);rw[hf1]at HF1;rw[hf2]at HF2;rw[hf3]at HF3;rw[hf4]at HF4;have G1:=hD hf1;have G2:=hD hf2;have G3:=hD hf3;have G4:=hD hf4;clear hf1 hf2 hf3 hf4;obtain⟨c0,c1,c2,-⟩:=HQ5.o.bx (T6,(.int .i64 rt),(.int .i64 re),(.slice a1 rD k1)) sM;simp only at c0 c1 c2;go_wp2_with fail;refine(HF1.o _).m ?_;rintro e v8 ⟨rfl,hb⟩;replace HQ5:=hD (HQ5.o.aIx hb);clear hb c0 c1 c2;cases f1
  rotate_left
  ·go_wp2_with fail;go_ret;exact⟨rfl,HQ5.o.cc.g⟩
  obtain⟨c0,c1,c2,-⟩:=HQ5.o.bx (T7,(.int .i64 st),(.int .i64 se),(.slice a2 sD k2)) sM;simp only at c0 c1 c2;go_wp2_with fail;refine(HF2.o _).m ?_;rintro e v8 ⟨rfl,hb⟩;replace HQ5:=hD (HQ5.o.aIx hb);clear hb c0 c1 c2;cases f2
  rotate_left
  ·go_wp2_with fail;go_ret;exact⟨rfl,HQ5.o.cc.g⟩
  obtain⟨c0,c1,c2,-⟩:=HQ5.o.bx (T13,(.int .i64 tt),(.int .i64 te),(.slice a3 tD k3)) sM;simp only at c0 c1 c2;go_wp2_with fail;refine(HF3.o _).m ?_;rintro e v8 ⟨rfl,hb⟩;replace HQ5:=hD (HQ5.o.aIx hb);clear hb c0 c1 c2;cases f3
  rotate_left
  ·go_wp2_with fail;go_ret;exact⟨rfl,HQ5.o.cc.g⟩
  obtain⟨c0,c1,c2,-⟩:=HQ5.o.bx (T14,(.int .i64 ut),(.int .i64 ue),(.slice a4 uD k4)) sM;simp only at c0 c1 c2;go_wp2_with fail;refine(HF4.o _).m ?_;rintro e v8 ⟨rfl,hb⟩;replace HQ5:=hD (HQ5.o.aIx hb);clear hb c0 c1 c2;cases f4
  rotate_left
  ·go_wp2_with fail;go_ret;exact⟨rfl,HQ5.o.cc.g⟩
  obtain⟨e1,e2,e3⟩:=comm_law HFM.o HQ3.o HP1.o HP2.o HP3.o HP4.o HCA.o HCB.o (by rw[HR1.o];have:=G1.o;simpa using this) (by rw[HR2.o];have:=G2.o;simpa using this) (by rw[HR3.o];have:=G3.o;simpa using this) (by rw[HR4.o];have:=G4.o;simpa using this);rw[HR1.o,HR4.o]at e1;rw[HR2.o,HR3.o]at e2;injection e1 with g1 g2 g3;injection e2 with g4 g5 g6;subst g1 g2 g3 g4 g5 g6;have HSM:=hD (fun W h1 h2=>mmsame_is X Z m2 n2 W h1 h2 ((HP2.o.fine (HP1.o.fine HFM.o HCA.o) HCB.o).cur.sound) ((HP4.o.fine (HP3.o.fine HFM.o HCB.o) HCA.o).cur.sound));rw[e3,sameO_refl]at HSM;clear e3;obtain⟨c0,c1,c2,-⟩:=HQ5.o.bx (T6,.int .i64 rt,.int .i64 re,.slice a1 rD k1) sM;obtain⟨d0,d1,d2,-⟩:=HQ5.o.bx (T14,.int .i64 rt,.int .i64 re,.slice a4 rD k4) sM;simp only at c0 c1 c2 d0 d1 d2;go_wp2_with fail;refine(yF ⟨rt,re,rD⟩ a1 a4 k1 k4 _ (HQ5.o.da (a1,rD) sM) (HQ5.o.da (a4,rD) sM)).m ?_;rintro e v9 ⟨rfl,hb⟩;replace HQ5:=hD (HQ5.o.aIx hb);clear hb c0 c1 c2 d0 d1 d2;obtain⟨c0,c1,c2,-⟩:=HQ5.o.bx (T7,.int .i64 st,.int .i64 se,.slice a2 sD k2) sM;obtain⟨d0,d1,d2,-⟩:=HQ5.o.bx (T13,.int .i64 st,.int .i64 se,.slice a3 sD k3) sM;simp only at c0 c1 c2 d0 d1 d2;go_wp2_with fail;refine(yF ⟨st,se,sD⟩ a2 a3 k2 k3 _ (HQ5.o.da (a2,sD) sM) (HQ5.o.da (a3,sD) sM)).m ?_;rintro e v10 ⟨rfl,hb⟩;replace HQ5:=hD (HQ5.o.aIx hb);clear hb c0 c1 c2 d0 d1 d2;go_wp2_with fail;refine(HSM.o _ HQ5.o.mo HQ5.o.mz).m ?_;rintro e v11 ⟨rfl,hb⟩;have HE:=hD (HQ5.o.cc.g.on hb);clear hb HQ5;go_wp2_with fail;go_ret;exact⟨rfl,HE.o⟩
end Go.Proofs.YtphfgbbbejloaaaGreatDoor
