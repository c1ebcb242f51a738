/- tegulalaw48: two commands change places Conditions: as each theorem says. -/
import Derived.Test.YtphfgbbbejloaaaGreatDoorMgW
set_option linter.unusedSimpArgs false
set_option linter.unusedVariables false
set_option maxRecDepth 100000
set_option maxHeartbeats 16000000
namespace Go.Proofs.YtphfgbbbejloaaaGreatDoor
open Go.RowKit Go.Maps
open Go.Proofs.Tryz
theorem sy0{P:Prop}(h:P:=by
  go_wp2_with fail;refine(HA.o _ HV1.o).m ?_;rintro e wq ⟨rfl,hb⟩;have H3:=hD (H2.o.aIx hb);clear c0 c1 c2 c3 c4 c5 c6 c7 c8 d0 d1 d2 d3 d4 d5 d6 d7 d8;clear hb;obtain⟨c0,c1,c2,c3,c4,c5,c6,c7,c8⟩:=H3.o.x;obtain⟨d0,d1,d2,d3,d4,d5,d6,d7,d8⟩:=H3.o.y;simp only at c0 c1 c2 c3 c4 c5 c6 c7 c8 d0 d1 d2 d3 d4 d5 d6 d7 d8;go_wp2_with fail;refine(HB.o _ HV2.o).m ?_;rintro e wq ⟨rfl,hb⟩;have H4:=hD (H3.o.aIx hb);clear c0 c1 c2 c3 c4 c5 c6 c7 c8 d0 d1 d2 d3 d4 d5 d6 d7 d8;clear hb;obtain⟨c0,c1,c2,c3,c4,c5,c6,c7,c8⟩:=H4.o.x;obtain⟨d0,d1,d2,d3,d4,d5,d6,d7,d8⟩:=H4.o.y;simp only at c0 c1 c2 c3 c4 c5 c6 c7 c8 d0 d1 d2 d3 d4 d5 d6 d7 d8;by_cases h5:kd<5/\kd'<5
  ·rw[Qf h5]at hR2;subst hR2;obtain⟨h6,h7⟩:=h5;go_wp2_with fail;go_ret;exact⟨rfl,H4.o.g⟩
  ·rw [Qe h5]at hR2;by_cases h6:kd<5
   all_goals try(exfalso;omega)
   all_goals
    try have h7:¬ kd'<5:=oM
    go_wp2_with fail;refine(HS.o _).m ?_;rintro e wq ⟨rfl,hb⟩;have H5:=hD (H4.o.aIx hb);clear c0 c1 c2 c3 c4 c5 c6 c7 c8 d0 d1 d2 d3 d4 d5 d6 d7 d8;clear hb;obtain⟨c0,c1,c2,c3,c4,c5,c6,c7,c8⟩:=H5.o.x;obtain⟨d0,d1,d2,d3,d4,d5,d6,d7,d8⟩:=H5.o.y;simp only at c0 c1 c2 c3 c4 c5 c6 c7 c8 d0 d1 d2 d3 d4 d5 d6 d7 d8;cases u1
    ·go_wp2_with fail;refine(HO.o _).m ?_;rintro e wq ⟨rfl,hb⟩;have H6:=hD (H5.o.aIx hb);clear c0 c1 c2 c3 c4 c5 c6 c7 c8 d0 d1 d2 d3 d4 d5 d6 d7 d8;clear hb;go_wp2_with fail;go_ret;exact⟨by rw[<-hR2];rfl,H6.o.g⟩
    ·go_wp2_with fail;go_ret;exact⟨by rw[<-hR2];rfl,H5.o.g⟩
  ):P:=h
theorem sy1{P:Prop}(h:P:=by
  cases h1:stepG z g a b.vol <;> cases h2:g b.vol <;> rw[h1,h2]at hv <;> simp only[Option.map_none,Option.map_some,Option.some.injEq,reduceCtorEq]at hv ⊢;rw[hv]
  ):P:=h
theorem sy2{P:Prop}(h:P:=by
  go_wp2_with fail;go_ret;exact⟨by rw[<-HR2.o];rfl,H4.o.g⟩
  ):P:=h
theorem sy3{P:Prop}(h:P:=by
  rw[Qe q1]at h
  split
  ·rfl
  ·rename_i q2
   rw[Qe q2]at h
   split
   ·rename_i q3
    rw[Qf q3]at h;exact absurd rfl h
   ·rfl
  ):P:=h
section
variable{α:Type}
theorem enough_or(a b:Int):iL a b=0∨iL a b=11:=by unfold iL;split <;> simp
theorem err_ob{s:MSt α}(hF:s.F.ok)(c:Cmd α):fE s.F c=errO (obS s) c∨(errO (obS s) c=0/\fE s.F c=11):=by
 have hlen:(obS s).length=s.F.vs.length:=by unfold obS;rw[Yy]
 have hget:∀nm,xZ (obS s) nm=(aN s.F.vs nm).map (obV s):=λnm=>Jk s nm _;unfold fE errO;rw[hlen,hget,hget];by_cases k1:c.kd=1
 ·rw [Qf k1,Qf (.inl k1)]
  left
  unfold dP
  cases hv:aN s.F.vs c.vol with
  |none=>rfl
  | some v=>
   simp only[Option.map_some];show(if inB c.p c.n v.n=false then _ else _:List E × Int).2=if inB c.p c.n v.n=false then 2 else 0
   split <;> rfl
 ·rw [Qe k1];by_cases k2:c.kd=2
  ·rw [Qf k2,Qe (show ¬(c.kd=1∨c.kd=3) by omega),Qf k2];unfold jO dW
   cases hv:aN s.F.vs c.vol with
   |none=>left;rfl
   | some v=>
    simp only[Option.map_some,if_true];show(if 1<=c.n/\c.n<=16 then _ else _)=(if 1<=c.n/\c.n<=16 then (if inB c.p c.n v.n=false then (2:Int)else 0)else 1)∨_;by_cases q:1<=c.n/\c.n<=16
    ·rw [Qf q,Qf q];unfold fM;by_cases q2:inB c.p c.n v.n=false
     ·rw[Qf q2]
      left
      have hr:(dP s.F c.vol c.p c.n).2=2:=by unfold dP;rw[hv];simp only;rw[Qf q2]
      unfold jP;rw[hr];rfl
     ·rw [Qe q2];have hr:(dP s.F c.vol c.p c.n).2=0:=by unfold dP;rw[hv];simp only;rw[Qe q2]
      have hn:(jP s.F c.vol c.p c.n).2=0:=by unfold jP;rw[Qf hr]
      rw[Qf hn];rcases enough_or (jP s.F c.vol c.p c.n).1 ((gQ s.F c.vol).1+max 0 (dC s.F))with h|h
      ·left;exact h
      ·right
       refine⟨?_,h⟩;show(if 1<=c.n/\c.n<=16 then (if inB c.p c.n v.n=false then (2:Int)else 0)else 1)=0;rw[Qf q,Qe q2]
    ·rw[Qe q,Qe q]
     left;rfl
  ·rw [Qe k2];by_cases k3:c.kd=3
   ·rw [Qf k3,Qf (.inr k3)]
    left
    unfold bS
    cases hv:aN s.F.vs c.vol with
    |none=>rfl
    | some v=>
     simp only[Option.map_some];show(if inB c.p c.n v.n=false then _ else _:Fam × List E × Int).2.2=if inB c.p c.n v.n=false then 2 else 0
     split <;> rfl
   ·rw [Qe k3,Qe (show ¬(c.kd=1∨c.kd=3) by omega),Qe k2];by_cases k5:c.kd=5
    ·rw [Qf k5,Qf k5];unfold crE;by_cases q1:(bC c.vol&&BF c.n c.p)=false
     ·have he:(aW s.F c.vol c.n c.p).2=1:=by unfold aW;rw[Qf q1]
      rw[he,Qf q1]
      left;rfl
     ·rw [Qe q1]
      cases hv:aN s.F.vs c.vol with
      | some v=>
       have he:(aW s.F c.vol c.n c.p).2=10:=by unfold aW;rw[Qe q1,hv];rfl
       rw[he]
       left;rfl
      | none=>
       simp only[Option.map_none,Option.isSome_none,Bool.false_eq_true,if_false];by_cases q3:32<=s.F.vs.length
       ·have he:(aW s.F c.vol c.n c.p).2=7:=by unfold aW;rw[Qe q1,hv];simp only[Option.isSome_none,Bool.false_eq_true,if_false];rw[Qf q3]
        rw[he,Qf q3]
        left;rfl
       ·have he:(aW s.F c.vol c.n c.p).2=0:=by unfold aW;rw[Qe q1,hv];simp only[Option.isSome_none,Bool.false_eq_true,if_false];rw[Qe q3]
        rw[Qf he,Qe q3];unfold fG;rw[Qe (λe=>q1 (by rw[e];simp))];rcases enough_or c.p (dC s.F)with h|h
        ·left;exact h
        ·right;exact⟨by first|rfl|trivial,h⟩
    ·rw [Qe k5,Qe k5];by_cases k6:c.kd=6
     ·rw [Qf k6,Qf k6];unfold clE
      cases hv:aN s.F.vs c.vol with
      | none=>
       have he:(bJ s.F c.vol c.oth).2=9:=by unfold bJ;rw[hv]
       rw[he]
       left;rfl
      | some v=>
       simp only[Option.map_some];by_cases q1:bC c.oth=false
       ·have he:(bJ s.F c.vol c.oth).2=1:=by unfold bJ;rw[hv];simp only;rw[Qf q1]
        rw[he,Qf q1]
        left;rfl
       ·rw [Qe q1]
        cases hv2:aN s.F.vs c.oth with
        | some v2=>
         have he:(bJ s.F c.vol c.oth).2=10:=by unfold bJ;rw[hv];simp only;rw[Qe q1,hv2];rfl
         rw[he]
         left;rfl
        | none=>
         simp only[Option.map_none,Option.isSome_none,Bool.false_eq_true,if_false];by_cases q3:32<=s.F.vs.length
         ·have he:(bJ s.F c.vol c.oth).2=7:=by unfold bJ;rw[hv];simp only;rw[Qe q1,hv2];simp only[Option.isSome_none,Bool.false_eq_true,if_false];rw[Qf q3]
          rw[he,Qf q3]
          left;rfl
         ·have he:(bJ s.F c.vol c.oth).2=0:=by unfold bJ;rw[hv];simp only;rw[Qe q1,hv2];simp only[Option.isSome_none,Bool.false_eq_true,if_false];rw[Qe q3]
          rw[Qf he,Qe q3];unfold eD;rw[hv];simp only;rcases enough_or (v.r-aY s.F.C v) (dC s.F)with h|h
          ·left;exact h
          ·right;exact⟨by first|rfl|trivial,h⟩
     ·rw[Qe k6,Qe k6]
      left
      by_cases k7:c.kd=7
      ·rw[Qf k7,Qf k7];unfold aZ;cases hv:aN s.F.vs c.vol <;> rfl
      ·rw[Qe k7,Qe k7]
end
section
variable{α:Type}
def sortedO(vs:List (OV α)):Prop:=vs.Pairwise λa b=>bytesBefore a.nm b.nm=true
theorem ob_sorted{s:MSt α}(h:s.F.ok):sortedO (obS s):=List.pairwise_map.2 h.sorted
theorem mem_insO{v x:OV α}{vs:List (OV α)}:x∈aBh v vs↔x=v∨x∈vs:=by
 induction vs with
 |nil=>simp[aBh]
 | cons w r ih=>
  unfold aBh
  split
  ·simp
  ·simp only[Yl,ih]
   constructor
   ·rintro(h|h|h)
    ·exact .inr (.inl h)
    ·exact .inl h
    ·exact .inr (.inr h)
   ·rintro(h|h|h)
    ·exact .inr (.inl h)
    ·exact .inl h
    ·exact .inr (.inr h)
theorem mem_delO{x:OV α}{vs:List (OV α)}{nm:LU}:x∈aBy vs nm↔x∈vs/\x.nm≠nm:=by simp[aBy]
theorem mem_putO{x v:OV α}{vs:List (OV α)}:x∈KV vs v↔x=v∨(x∈vs/\x.nm≠v.nm):=by unfold KV;rw[mem_insO,mem_delO]
theorem sorted_delO{vs:List (OV α)}(h:sortedO vs)(nm:LU):sortedO (aBy vs nm):=h.filter _
theorem sorted_insO{v:OV α}{vs:List (OV α)}(h:sortedO vs)(hne:∀w∈vs,w.nm≠v.nm):sortedO (aBh v vs):=by
 induction vs with
 |nil=>simp[aBh,sortedO]
 | cons w r ih=>
  obtain⟨h1,h2⟩:=Yk.1 h;unfold aBh
  split
  ·rename_i hb
   refine Yk.2 ⟨λx hx=> ?_,h⟩;rcases Yl.1 hx with rfl|hx
   ·exact hb
   ·exact WideShapes.bytes_trans _ _ _ hb (h1 x hx)
  ·rename_i hb
   have hw:bytesBefore w.nm v.nm=true:=(WideAt.bytes_total w.nm v.nm (hne w sM)).resolve_right (by simpa using hb);refine Yk.2 ⟨λx hx=> ?_,ih h2 λx hx=>hne x (by simp[hx])⟩;rcases mem_insO.1 hx with rfl|hx
   ·exact hw
   ·exact h1 x hx
theorem sorted_putO{v:OV α}{vs:List (OV α)}(h:sortedO vs):sortedO (KV vs v):=sorted_insO (sorted_delO h _) λ_ hw=>(mem_delO.1 hw).2
theorem sorted_uniqO{vs:List (OV α)}(h:sortedO vs){a b:OV α}(ha:a∈vs)(hb:b∈vs)(he:a.nm=b.nm):a=b:=by
 induction vs with
 |nil=>simp at ha
 | cons w r ih=>
  obtain⟨h1,h2⟩:=Yk.1 h;rcases Yl.1 ha with rfl|ha'
  ·rcases Yl.1 hb with rfl|hb'
   ·rfl
   ·have:=h1 b hb';rw[he,WideAt.bytes_irrefl]at this;cases this
  ·rcases Yl.1 hb with rfl|hb'
   ·have:=h1 a ha';rw[he,WideAt.bytes_irrefl]at this;cases this
   ·exact ih h2 ha' hb'
theorem getO_mem{vs:List (OV α)}{nm:LU}{v:OV α}(h:xZ vs nm=some v):v∈vs/\v.nm=nm:=
 ⟨List.mem_of_find?_eq_some h,by simpa using List.find?_some h⟩
theorem getO_none{vs:List (OV α)}{nm:LU}:xZ vs nm=none↔ ∀w∈vs,w.nm≠nm:=by simp[xZ]
theorem getO_of{vs:List (OV α)}(h:sortedO vs){v:OV α}(hv:v∈vs):xZ vs v.nm=some v:=by
 cases hg:xZ vs v.nm with
 |none=>exact absurd rfl (getO_none.1 hg v hv)
 | some w=>
  obtain⟨h1,h2⟩:=getO_mem hg;rw[sorted_uniqO h h1 hv h2]
theorem getO_put{vs:List (OV α)}(h:sortedO vs)(v:OV α)(nm:LU):xZ (KV vs v) nm=if nm=v.nm then some v else xZ vs nm:=by
 split
 ·rename_i he
  subst he;exact getO_of (sorted_putO h) (mem_putO.2 (.inl rfl))
 ·rename_i he
  cases hg:xZ vs nm with
  | none=>
   rw[getO_none]at hg ⊢;intro w hw;rcases mem_putO.1 hw with rfl|hw
   ·exactλh=>he h.symm
   ·exact hg w hw.1
  | some w=>
   obtain⟨h1,rfl⟩:=getO_mem hg;exact getO_of (sorted_putO h) (mem_putO.2 (.inr ⟨h1,he⟩))
theorem getO_del{vs:List (OV α)}(h:sortedO vs)(nm nm':LU):xZ (aBy vs nm) nm'=if nm'=nm then none else xZ vs nm':=by
 split
 ·rename_i he
  subst he;exact getO_none.2 λw hw=>(mem_delO.1 hw).2
 ·rename_i he
  cases hg:xZ vs nm' with
  | none=>
   rw[getO_none]at hg ⊢;exactλw hw=>hg w (mem_delO.1 hw).1
  | some w=>
   obtain⟨h1,rfl⟩:=getO_mem hg;exact getO_of (sorted_delO h _) (mem_delO.2 ⟨h1,he⟩)
theorem sorted_extO:∀{A B:List (OV α)},sortedO A->sortedO B->(∀x,x∈A↔x∈B)->A=B:=by
 intro A
 induction A with
 | nil=>
  intro B _ _ h
  cases B with
  |nil=>rfl
  |cons b B=>exact absurd ((h b).2 sM) sM
 | cons a A ih=>
  intro B hA hB h
  cases B with
  |nil=>exact absurd ((h a).1 sM) sM
  | cons b B=>
   obtain ⟨hA1,hA2⟩:=Yk.1 hA;obtain⟨hB1,hB2⟩:=Yk.1 hB;have hab:a=b:=by
    rcases Yl.1 ((h a).1 sM)with e|e
    ·exact e
    ·rcases Yl.1 ((h b).2 sM)with e2|e2
     ·exact e2.symm
     ·have h1:=uZ _ _ (hB1 a e);rw[hA1 b e2]at h1;cases h1
   subst hab;congr 1;refine ih hA2 hB2 λx=>⟨λhx=> ?_,λhx=> ?_⟩
   ·rcases Yl.1 ((h x).1 (List.mem_cons_of_mem _ hx))with rfl|e
    ·have h1:=hA1 x hx;rw[before_irrefl]at h1;cases h1
    ·exact e
   ·rcases Yl.1 ((h x).2 (List.mem_cons_of_mem _ hx))with rfl|e
    ·have h1:=hB1 x hx;rw[before_irrefl]at h1;cases h1
    ·exact e
theorem ob_ext{A B:List (OV α)}(hA:sortedO A)(hB:sortedO B)(h:∀nm,xZ A nm=xZ B nm):A=B:=by
 refine sorted_extO hA hB λx=>⟨λhx=> ?_,λhx=> ?_⟩
 ·have h1:=getO_of hA hx;rw[h]at h1;exact(getO_mem h1).1
 ·have h1:=getO_of hB hx;rw[<-h]at h1;exact(getO_mem h1).1
end
section
variable{α:Type}
theorem err_few{ob:List (OV α)}{c:Cmd α}(h:errO ob c≠7):errO ob c=errG (xZ ob) c:=by
  unfold errO errG at *;by_cases k1:c.kd=1∨c.kd=3
  · rw[Qf k1,Qf k1]
    try(cases xZ ob c.vol <;> rfl)
  · rw [Qe k1,Qe k1];by_cases k2:c.kd=2
    · rw[Qf k2,Qf k2]
      try(cases xZ ob c.vol <;> rfl)
    · rw [Qe k2,Qe k2];by_cases k5:c.kd=5
      · rw [Qf k5,Qf k5];rw[Qe k1,Qe k2,Qf k5]at h
        split
        · rfl
        · rename_i q1
          exact sy3
      · rw [Qe k5,Qe k5];by_cases k6:c.kd=6
        · rw [Qf k6,Qf k6];rw[Qe k1,Qe k2,Qe k5,Qf k6]at h
          cases hv:xZ ob c.vol with
          |none=>rfl
          | some v=>
            rw[hv]at h;simp only at h ⊢
            split
            · rfl
            · rename_i q1
              exact sy3
        · rw [Qe k6,Qe k6]
          try (split
               · cases xZ ob c.vol <;> rfl
               · rfl)
theorem getO_nm{A:List (OV α)}{nm:LU}{v:OV α}(h:xZ A nm=some v):v.nm=nm:=(getO_mem h).2
theorem step_get{z:α}{ob:List (OV α)}(h:sortedO ob){c:Cmd α}(he:errO ob c=0):xZ (zW z ob c)=stepG z (xZ ob) c:=by
 funext nm
 unfold zW stepG;by_cases k2:c.kd=2
 ·rw [Qf k2,Qf (.inl k2)]
  cases hv:xZ ob c.vol with
  | none=>
   simp only
   split
   ·rename_i e;rw[e,hv];rfl
   ·rfl
  | some v=>
   simp only;rw[getO_put h,getO_nm hv]
   split
   ·rename_i e;rw[e,hv]
    simp only[Option.map_some,OV.write,aFd,Qf k2,getO_nm hv]
   ·rfl
 ·rw [Qe k2];by_cases k3:c.kd=3
  ·rw [Qf k3,Qf (.inr k3)]
   cases hv:xZ ob c.vol with
   | none=>
    simp only
    split
    ·rename_i e;rw[e,hv];rfl
    ·rfl
   | some v=>
    simp only;rw[getO_put h,getO_nm hv]
    split
    ·rename_i e;rw[e,hv]
     simp only[Option.map_some,OV.write,aFd,Qe k2,getO_nm hv]
    ·rfl
  ·rw [Qe k3,Qe (show ¬(c.kd=2∨c.kd=3) by omega)];by_cases k5:c.kd=5
   ·rw[Qf k5,Qf k5,getO_put h]
   ·rw [Qe k5,Qe k5];by_cases k6:c.kd=6
    ·rw [Qf k6,Qf k6]
     cases hv:xZ ob c.vol with
     | none=>
      unfold errO at he;rw[Qe (show ¬(c.kd=1∨c.kd=3) by omega),Qe k2,Qe k5,Qf k6,hv]at he;cases he
     | some v=>
      simp only;rw[getO_put h];rfl
    ·rw[Qe k6,Qe k6];by_cases k7:c.kd=7
     ·rw[Qf k7,Qf k7,getO_del h]
     ·rw[Qe k7,Qe k7]
end
section
variable{α:Type}{z:α}{g g':GO α}{a b c:Cmd α}{nm:LU}
def inT(c:Cmd α)(nm:LU):Prop:=nm=c.vol∨(c.kd=6/\nm=c.oth)
theorem stepG_out(h:¬ inT c nm):stepG z g c nm=g nm:=by
 have h1:¬ nm=c.vol:=λe=>h (.inl e);unfold stepG;simp only[Qe h1]
 split
 ·rfl
 ·split
  ·rfl
  ·split
   ·rename_i k6
    rw[Qe λe=>h (.inr ⟨k6,e⟩)]
   ·split <;> rfl
theorem stepG_congr(h:∀nm,inT c nm->g nm=g' nm)(hn:inT c nm):stepG z g c nm=stepG z g' c nm:=by
 have h1:=h nm hn;have h2:=h c.vol (.inl rfl);unfold stepG;rw[h1,h2]
theorem errG_congr(h:∀nm,inT c nm->g nm=g' nm):errG g c=errG g' c:=by
 have h2:=h c.vol (.inl rfl);unfold errG;rw[h2];by_cases k6:c.kd=6
 ·rw[h c.oth (.inr ⟨k6,rfl⟩)]
 ·simp only[Qe k6]
def Apart(a b:Cmd α):Prop:= ∀nm,inT a nm-> ¬inT b nm
theorem comm_apart(h:Apart a b):stepG z (stepG z g a) b=stepG z (stepG z g b) a:=by
 funext nm
 by_cases hb:inT b nm
 ·have ha:¬ inT a nm:=λha=>h nm ha hb;rw[stepG_out ha];exact stepG_congr (λm hm=>stepG_out λha=>h m ha hm) hb
 ·rw[stepG_out hb];by_cases ha:inT a nm
  ·exact(stepG_congr (λm hm=>stepG_out λhb=>h m hm hb) ha).symm
  ·rw[stepG_out ha,stepG_out ha,stepG_out hb]
theorem err_apart(h:Apart a b):errG (stepG z g a) b=errG g b:=errG_congr λm hm=>stepG_out λha=>h m ha hm
def readG(z:α)(g:GO α)(c:Cmd α):List α:=(List.range c.n.toNat).map λi:Nat=>match g c.vol with
 |none=>z
 |some v=>(v.c (c.p+i).toNat).getD z
theorem read_apart(h:Apart a b):readG z (stepG z g a) b=readG z g b:=by
 unfold readG;rw[stepG_out λha=>h _ ha (.inl rfl)]
def clear2(a b:Cmd α):Prop:= ∀i:Nat,a.p<=i->(i:Int)<a.p+a.n->b.p<=i->(i:Int)<b.p+b.n->False
theorem write_comm(v:OV α)(f h:Nat->Option α)(hc:clear2 a b):(v.write a.p a.n f).write b.p b.n h=(v.write b.p b.n h).write a.p a.n f:=by
 unfold OV.write;simp only[OV.mk.injEq,true_and]
 funext i
 by_cases h1:a.p<=(i:Int)/\(i:Int)<a.p+a.n
 ·have h2:¬ (b.p<=(i:Int)/\(i:Int)<b.p+b.n):=λh2=>hc i h1.1 h1.2 h2.1 h2.2;simp only[Qf h1,Qe h2]
 ·simp only[Qe h1]
theorem comm_range(ha:aGm a)(hb:aGm b)(hc:(a.kd=1∨b.kd=1)∨a.vol≠b.vol∨clear2 a b):stepG z (stepG z g a) b=stepG z (stepG z g b) a:=by
 funext nm
 rw[aDb hb,aDb ha,aDb ha,aDb hb];by_cases h1:a.kd≠1/\nm=a.vol
 ·by_cases h2:b.kd≠1/\nm=b.vol
  ·rw [Qf h2,Qf h1,Qf h1,Qf h2];rcases hc with hc|hc|hc
   ·omega
   ·exact absurd (h1.2.symm.trans h2.2) hc
   ·cases g nm with
    |none=>rfl
    |some v=>exact congrArg some (write_comm v _ _ hc)
  ·rw[Qe h2,Qf h1,Qf h1,Qe h2]
 ·rw[Qe h1,Qe h1]
theorem err_range(ha:aGm a)(hb:aGm b):errG (stepG z g a) b=errG g b:=by
 have hs:∀nm,(stepG z g a nm).map OV.n=(g nm).map OV.n:=λnm=>by
  rw[aDb ha]
  split
  ·cases g nm <;> rfl
  ·rfl
 have hv:=hs b.vol;unfold errG;rcases hb with k|k|k
 ·rw[Qf (.inl k),Qf (.inl k)];exact sy1
 ·have k13:¬ (b.kd=1∨b.kd=3):=oM
  rw[Qe k13,Qe k13,Qf k,Qf k];exact sy1
 ·rw[Qf (.inr k),Qf (.inr k)];exact sy1
theorem read_range(ha:aGm a)(h0:0<=b.p)(hc:a.kd=1∨a.vol≠b.vol∨clear2 a b):readG z (stepG z g a) b=readG z g b:=by
 unfold readG;refine List.map_congr_left λi hi=> ?_;have hi:=List.mem_range.1 hi;rw[aDb ha];by_cases h1:a.kd≠1/\b.vol=a.vol
 ·rw [Qf h1]
  cases g b.vol with
  |none=>rfl
  | some v=>
   simp only[Option.map_some];rcases hc with hc|hc|hc
   ·exact absurd hc h1.1
   ·exact absurd h1.2.symm hc
   ·unfold OV.write;simp only;rw[Qe λq=>hc (b.p+i).toNat q.1 q.2 oM oM]
 ·rw[Qe h1]
end
section
variable{α:Type}{z:α}{a b:Cmd α}
def fenceC(c:Cmd α):Bool:=decide (c.ao=1)||decide (c.kd=4)
def rgkB(c:Cmd α):Bool:=c.valid&&decide (c.kd=1∨c.kd=2∨c.kd=3)
def namesC(c:Cmd α)(nm:LU):Bool:= !nm.isEmpty&&(c.vol==nm||c.oth==nm)
def overC(a b:Cmd α):Bool:=
 if (a.valid&&b.valid)=false then false
 else if (rgkB a&&rgkB b)=true then a.vol==b.vol&&(decide (a.p<b.p+b.n)&&(decide (b.p<a.p+a.n)&&(decide (a.kd≠1)||decide (b.kd≠1))))
 else if a.kd<5/\b.kd<5 then false
 else namesC a b.vol||namesC a b.oth
def befC(a b:Cmd α):Bool:=fenceC a||(fenceC b||overC a b)
theorem name_full{nm:LU}(h:bC nm=true):nm.isEmpty=false:=by
 cases nm with
 |nil=>exact absurd h dE
 |cons x r=>rfl
theorem free_pair(ha:a.valid=true)(hb:b.valid=true)(h:befC a b=false):(aGm a/\aGm b/\((a.kd=1/\b.kd=1)∨a.vol≠b.vol∨clear2 a b))∨Apart a b:=by
 unfold befC fenceC at h;simp only[Bool.or_eq_false_iff,Qy]at h;obtain⟨⟨_,ha4⟩,⟨_,hb4⟩,ho⟩:=h;obtain⟨ka,na,oa⟩:=tQ ha;obtain⟨kb,nb,ob⟩:=tQ hb;unfold overC rgkB at ho;rw[ha,hb]at ho;simp only[Bool.and_self,Bool.true_eq_false,if_false,Bool.true_and]at ho;by_cases hr:(a.kd=1∨a.kd=2∨a.kd=3)/\(b.kd=1∨b.kd=2∨b.kd=3)
 ·left
  refine⟨hr.1,hr.2,?_⟩;rw[Qf (by rw[Qo hr.1,Qo hr.2];rfl)]at ho;by_cases e:a.vol=b.vol
  ·rw[e]at ho;simp only[beq_self_eq_true,Bool.true_and,Yo,Bool.or_eq_false_iff,Qy]at ho;rcases ho with q|q|q
   ·right;right;intro i h1 h2 h3 h4;omega
   ·right;right;intro i h1 h2 h3 h4;omega
   ·left;omega
  ·exact .inr (.inl e)
 ·right
  rw[Qe (by rw[Qd,Qc,Qc];exact hr),Qe oM]at ho;unfold namesC at ho;simp only[Bool.or_eq_false_iff,Yo,Bool.not_eq_false',beq_eq_false_iff_ne,ne_eq]at ho;obtain⟨o1,o2⟩:=ho;have f1:=name_full (nb oM);rw[f1]at o1;have o1':=o1.resolve_left sM;intro nm h1 h2;rcases h1 with rfl|⟨k6,rfl⟩
  ·rcases h2 with e|⟨k6',e⟩
   ·exact o1'.1 e
   ·rw[name_full (ob k6')]at o2;exact(o2.resolve_left sM).1 e
  ·rcases h2 with e|⟨k6',e⟩
   ·exact o1'.2 e
   ·rw[name_full (ob k6')]at o2;exact(o2.resolve_left sM).2 e
theorem clear2.symm(h:clear2 a b):clear2 b a:=λi h1 h2 h3 h4=>h i h3 h4 h1 h2
theorem Apart.symm(h:Apart a b):Apart b a:=λnm h1 h2=>h nm h2 h1
theorem free_comm(g:GO α)(ha:a.valid=true)(hb:b.valid=true)(h:befC a b=false):
  stepG z (stepG z g a) b=stepG z (stepG z g b) a/\errG (stepG z g a) b=errG g b/\errG (stepG z g b) a=errG g a/\
  (b.kd=1->0<=b.p->readG z (stepG z g a) b=readG z g b)/\(a.kd=1->0<=a.p->readG z (stepG z g b) a=readG z g a):=by
 rcases free_pair ha hb h with ⟨ra,rb,hc⟩|hap
 ·refine ⟨comm_range ra rb ?_,err_range ra rb,err_range rb ra,λ_ h0=>read_range ra h0 ?_,λ_ h0=>read_range rb h0 ?_⟩
  ·rcases hc with hc|hc|hc
   ·exact .inl (.inl hc.1)
   ·exact .inr (.inl hc)
   ·exact .inr (.inr hc)
  ·rcases hc with hc|hc|hc
   ·exact .inl hc.1
   ·exact .inr (.inl hc)
   ·exact .inr (.inr hc)
  ·rcases hc with hc|hc|hc
   ·exact .inl hc.2
   ·exact .inr (.inl (Ne.symm hc))
   ·exact .inr (.inr hc.symm)
 ·exact⟨comm_apart hap,err_apart hap,err_apart hap.symm,λ_ _=>read_apart hap,λ_ _=>read_apart hap.symm⟩
end
section
variable{α:Type}{z:α}{s s' s1 s2 s12 s21:MSt α}{a b c:Cmd α}
theorem err_bridge(hF:s.F.ok)(c:Cmd α)(h7:fE s.F c≠7)(h11:fE s.F c≠11):fE s.F c=errG (xZ (obS s)) c/\fE s.F c=errO (obS s) c:=by
 rcases err_ob hF c with h|⟨_,h⟩
 ·exact⟨by rw[h];exact err_few (by rw[<-h];exact h7),h⟩
 ·exact absurd h h11
def Ax(z:α)(s:MSt α)(c:Cmd α)(s':MSt α):Prop:=if c.valid=true/\fE s.F c=0/\c.kd≠1 then Nx z s c s' else s'=s
def actG(z:α)(g:GO α)(c:Cmd α):GO α:=if errG g c=0 then stepG z g c else g
theorem ax_ob(hs:s.fine)(hv:c.valid=true)(h:Ax z s c s')(h7:fE s.F c≠7)(h11:fE s.F c≠11):xZ (obS s')=actG z (xZ (obS s)) c:=by
 have hF:=hs.sound.ok;obtain⟨e1,e2⟩:=err_bridge hF c h7 h11;unfold Ax at h;unfold actG;by_cases he:fE s.F c=0
 ·rw [Qf (by rw[<-e1];exact he)];by_cases k:c.kd=1
  ·rw[Qe (λq=>q.2.2 k)]at h;rw[h]
   funext nm
   rw[aDb (.inl k),Qe (λq=>q.1 k)]
  ·rw[Qf ⟨hv,he,k⟩]at h;rw[Jj hF h he];exact step_get (ob_sorted hF) (by rw[<-e2];exact he)
 ·rw[Qe (by rw[<-e1];exact he)];rw[Qe (λq=>he q.2.1)]at h;rw[h]
end
section
variable{α:Type}{z:α}{s s':MSt α}{a b c:Cmd α}
theorem read_get(hF:s.F.ok)(h0:0<=c.p):vD z s c.vol c.p c.n=readG z (xZ (obS s)) c:=by
 unfold vD readG;refine List.map_congr_left λi _=> ?_;rw[JO hF _ _ oM]
 try rfl
def repV(z:α)(g:GO α)(c:Cmd α):Rp α:=
 if c.valid=true then ⟨c.tag,errG g c,if c.kd=1/\errG g c=0 then readG z g c else []⟩else ⟨c.tag,1,[]⟩
def actV(z:α)(g:GO α)(c:Cmd α):GO α:=if c.valid=true/\c.kd≠4 then actG z g c else g
theorem rep_ob(hs:s.fine)(h7:(kW z s c).err≠7)(h11:(kW z s c).err≠11):kW z s c=repV z (xZ (obS s)) c:=by
 unfold kW repV at *;by_cases hv:c.valid=true
 ·rw[Qf hv]at h7 h11 ⊢;rw[Qf hv];have e1:=(err_bridge hs.sound.ok c h7 h11).1;rw[e1];congr 1;by_cases q:c.kd=1/\errG (xZ (obS s)) c=0
  ·rw[Qf q,Qf q];exact read_get hs.sound.ok (DV hv q.1).1
  ·rw[Qe q,Qe q]
 ·rw[Qe hv,Qe hv]
theorem act_ob(hs:s.fine){m m':Mo α}(hm:m.cur=s)(h:Ap z m c m')(h7:(kW z s c).err≠7)(h11:(kW z s c).err≠11):xZ (obS m'.cur)=actV z (xZ (obS s)) c:=by
 subst hm;unfold actV;unfold kW at h7 h11;by_cases hv:c.valid=true
 ·rw [Qf hv]at h7 h11;by_cases k4:c.kd=4
  ·rw[Qe (λq=>q.2 k4)];unfold Ap at h
   split at h
   ·rw[h]
   ·rw[h]
  ·rw [Qf ⟨hv,k4⟩];refine ax_ob hs hv ?_ h7 h11;unfold Ax;unfold Ap at h
   split at h
   ·rename_i q
    rw[Qf q];exact h.1
   ·rename_i q
    rw[Qe q,h]
 ·rw[Qe (λq=>hv q.1)];unfold Ap at h;rw[Qe (λq=>hv q.1)]at h;rw[h]
theorem bef_fence(h:befC a b=false):a.kd≠4/\b.kd≠4:=by
 unfold befC fenceC at h;simp only[Bool.or_eq_false_iff,Qy]at h;exact⟨h.1.2,h.2.1.2⟩
theorem readG_act{g:GO α}(hr:readG z (stepG z g a) b=readG z g b):readG z (actG z g a) b=readG z g b:=by
 unfold actG
 split
 ·exact hr
 ·rfl
theorem free_act(g:GO α)(h:befC a b=false):
  actV z (actV z g a) b=actV z (actV z g b) a/\repV z (actV z g a) b=repV z g b/\repV z (actV z g b) a=repV z g a:=by
 obtain⟨a4,b4⟩:=bef_fence h;by_cases ha:a.valid=true
 ·by_cases hb:b.valid=true
  ·obtain ⟨k1,k2,k3,k4,k5⟩:=free_comm (z:=z) g ha hb h;have va:∀g:GO α,actV z g a=actG z g a:=λg=>by unfold actV;rw[Qf ⟨ha,a4⟩]
   have vb:∀g:GO α,actV z g b=actG z g b:=λg=>by unfold actV;rw[Qf ⟨hb,b4⟩]
   have ea:errG (actG z g a) b=errG g b:=by
    unfold actG
    split
    ·exact k2
    ·rfl
   have eb:errG (actG z g b) a=errG g a:=by
    unfold actG
    split
    ·exact k3
    ·rfl
   simp only[va,vb];refine⟨?_,?_,?_⟩
   ·have l1:actG z (actG z g a) b=if errG g b=0 then stepG z (actG z g a) b else actG z g a:=by
     show(if errG (actG z g a) b=0 then _ else _)=_;rw[ea]
    have l2:actG z (actG z g b) a=if errG g a=0 then stepG z (actG z g b) a else actG z g b:=by
     show(if errG (actG z g b) a=0 then _ else _)=_;rw[eb]
    rw[l1,l2];unfold actG;by_cases qa:errG g a=0
    ·by_cases qb:errG g b=0
     ·rw[Qf qa,Qf qb,Qf qb,Qf qa];exact k1
     ·rw[Qf qa,Qe qb,Qe qb,Qf qa]
    ·by_cases qb:errG g b=0
     ·simp only[Qe qa,Qf qb]
     ·simp only[Qe qa,Qe qb]
   ·unfold repV;rw[Qf hb,Qf hb,ea];congr 1;by_cases q:b.kd=1/\errG g b=0
    ·rw[Qf q,Qf q];exact readG_act (k4 q.1 (DV hb q.1).1)
    ·rw[Qe q,Qe q]
   ·unfold repV;rw[Qf ha,Qf ha,eb];congr 1;by_cases q:a.kd=1/\errG g a=0
    ·rw[Qf q,Qf q];exact readG_act (k5 q.1 (DV ha q.1).1)
    ·rw[Qe q,Qe q]
  ·have vb:∀g:GO α,actV z g b=g:=λg=>by unfold actV;rw[Qe (λq=>hb q.1)]
   have rb:∀g:GO α,repV z g b=⟨b.tag,1,[]⟩:=λg=>by unfold repV;rw[Qe hb]
   simp only[vb,rb];exact⟨trivial,trivial,trivial⟩
 ·have va:∀g:GO α,actV z g a=g:=λg=>by unfold actV;rw[Qe (λq=>ha q.1)]
  have ra:∀g:GO α,repV z g a=⟨a.tag,1,[]⟩:=λg=>by unfold repV;rw[Qe ha]
  simp only[va,ra];exact⟨trivial,trivial,trivial⟩
end
theorem full_is(tg er:Int)(v:Value)(w:Wd):ep 27 #[.agg #[tg,er,v]] w (RB w (.bool (decide (er=11)||decide (er=7)))):=by
  cases h1:(er==11)
  · cases h2:(er==7)
    all_goals
      have g1:er≠11:=by simpa using h1
      go_enter func27,ntmps27;go_wp2;go_ret
      first
        | (have g2:er≠7:=by simpa using h2
           exact⟨aU (by simp[g1,g2]),(bQ w).aIw _⟩)
        | (have g2:er=7:=by simpa using h2
           exact⟨aU (by simp[g1,g2]),(bQ w).aIw _⟩)
  · have g1:er=11:=by simpa using h1
    go_enter func27,ntmps27;go_wp2;go_ret;exact⟨aU (by simp[g1]),(bQ w).aIw _⟩
section
variable{α:Type}{z:α}
def Ran(z:α)(h:GO α):GO α->List (Cmd α × Rp α)->Prop
 |g,[]=>h=g
 |g,x::X=>x.2=repV z g x.1/\Ran z h (actV z g x.1) X
theorem Ran.snoc{h:GO α}(c:Cmd α):∀{X:List (Cmd α × Rp α)} {g:GO α},Ran z h g X->Ran z (actV z h c) g (X++[(c,repV z h c)])
 | [],_,q=>by cases q;exact⟨rfl,rfl⟩
 |_::_,_,q=>⟨q.1,Ran.snoc c q.2⟩
theorem Ran.move{h:GO α}{c:Cmd α}{r:Rp α}{B:List (Cmd α × Rp α)}:∀{A:List (Cmd α × Rp α)} {g:GO α},(∀a∈A,befC a.1 c=false)->Ran z h g (A++(c,r)::B)->r=repV z g c/\Ran z h (actV z g c) (A++B)
 | [],_,_,q=>q
 | a::A,g,hA,q=>by
  obtain⟨f1,f2,f3⟩:=free_act (z:=z) g (hA _ List.mem_cons_self);obtain⟨i1,i2⟩:=Ran.move (λx hx=>hA x (List.mem_cons_of_mem _ hx)) q.2;rw[f2]at i1;rw[f1]at i2;exact⟨i1,q.1.trans f3.symm,i2⟩
def remD{β:Type}:List Bool->List β->List β
 |d::D,x::X=>if d=true then remD D X else x::remD D X
 |_,_=>[]
theorem remD_new{β:Type}:∀X:List β,remD (List.replicate X.length false) X=X
 | []=>rfl
 |x::X=>by rw[List.length_cons,List.replicate_succ];exact congrArg (x:: ·) (remD_new X)
theorem remD_one{β:Type}:∀{D:List Bool} {X:List β},remD D X≠ []-> ∃j,j<X.length/\D[j]? =some false
 | [],_,h=>(h rfl).elim
 |_::_,[],h=>(h rfl).elim
 |false::_,_::_,_=>⟨0,sM,rfl⟩
 | true::D,_::X,h=>by
  obtain⟨j,h1,h2⟩:=remD_one (D:=D) (X:=X) h;exact⟨j+1,by simpa using h1,h2⟩
theorem remD_split{β:Type}{x:β}:∀{D:List Bool} {X:List β} {k:Nat},D[k]? =some false->X[k]? =some x-> ∃A B,remD D X=A++x::B/\remD (D.set k true) X=A++B/\ ∀a∈A,∃j,j<k/\D[j]? =some false/\X[j]? =some a
 | [],_,_,h,_=>by cases h
 |_::_,[],_,_,h=>by cases h
 | d::D,y::X,0,h,h'=>by
  cases h;cases h';exact⟨[],remD D X,rfl,rfl,λa q=>by cases q⟩
 | d::D,y::X,k+1,h,h'=>by
  obtain ⟨A,B,e1,e2,e3⟩:=remD_split (D:=D) (X:=X) (k:=k) h h';have e4:∀a∈A,∃j,j<k+1/\(d::D)[j]? =some false/\(y::X)[j]? =some a:=λa q=>by
   obtain⟨j,h1,h2,h3⟩:=e3 a q;exact⟨j+1,oM,h2,h3⟩
  cases d
  ·refine⟨y::A,B,congrArg (y:: ·) e1,congrArg (y:: ·) e2,λa q=> ?_⟩;rcases Yl.1 q with rfl|q
   ·exact⟨0,oM,rfl,rfl⟩
   ·exact e4 a q
  ·exact⟨A,B,e1,e2,e4⟩
def ElP(L:List (Cmd α))(D:List Bool)(n:Nat)(E:List Nat):Prop:=
 (∀k∈E,k<n/\D[k]? =some false/\ ∀j,j<k->D[j]? =some false-> ∀a c,L[j]? =some a->L[k]? =some c->befC a c=false)/\
 ∀i,i<n->i∉E->D[i]? =some true∨ ∃j,j<i/\D[j]? =some false
theorem ElP.one{L:List (Cmd α)}{D:List Bool}{n:Nat}{E:List Nat}(h:ElP L D n E)(hd:∃j,j<n/\D[j]? =some false):E≠ []:=by
 rintro rfl;have key:∀i,i<n->D[i]? ≠some false:=λi=>by
  induction i using Nat.strongRecOn with
  | ind i ih=>
   intro hi e;rcases h.2 i hi (by simp)with q|⟨j,h1,h2⟩
   ·rw[q]at e;cases e
   ·exact ih j h1 oM h2
 obtain⟨j,h1,h2⟩:=hd;exact key j h1 h2
theorem ord_step{h g:GO α}{L:List (Cmd α)}{X:List (Cmd α × Rp α)}{D:List Bool}{n k:Nat}{E:List Nat}{c:Cmd α}{r:Rp α}(hE:ElP L D n E)(hk:k∈E)(hL:L=X.map (·.1))(hx:X[k]? =some (c,r))(q:Ran z h g (remD D X)):
  r=repV z g c/\Ran z h (actV z g c) (remD (D.set k true) X)/\(remD D X).length=(remD (D.set k true) X).length+1:=by
 obtain ⟨h1,h2,h3⟩:=hE.1 k hk;obtain⟨A,B,e1,e2,e3⟩:=remD_split h2 hx;rw[e1]at q ⊢;rw[e2];have hA:∀a∈A,befC a.1 c=false:=λa ha=>by
  obtain⟨j,j1,j2,j3⟩:=e3 a ha;exact h3 j j1 j2 a.1 c (by rw[hL,Yw,j3];rfl) (by rw[hL,Yw,hx];rfl)
 obtain⟨q1,q2⟩:=Ran.move hA q;exact⟨q1,q2,pO⟩
end
theorem rfence_is(c:Cmd Bk)(a:OA)(k:Nat)(w:Wd):
  ep 82 #[cmV c a k] w (RB w (.bool (fenceC c))):=by
 obtain⟨tg,kd,ao,af,vol,oth,p,n,dt⟩:=c;have hk:=(bQ w).aIw (.cells (bB ⟨tg,kd,ao,af,vol,oth,p,n,dt⟩ a k) 48);have HB:=hD hk;have hc:=CB.new w _ rfl ⟨tg,kd,ao,af,vol,oth,p,n,dt⟩ a k 48;have c1:=hc.c1;have c2:=hc.c2;simp only at c1 c2;clear hk hc;obtain⟨R,hR⟩:∃R,fenceC (⟨tg,kd,ao,af,vol,oth,p,n,dt⟩:Cmd Bk)=R:=⟨_,rfl⟩;rw[hR];unfold fenceC at hR;simp only at hR;unfold cmV;simp only;go_enter func82,ntmps82;go_upto_region 1 with fail;generalize w.alloc (cq #[tg,kd,ao,.bool af,nmV vol,nmV oth,p,n,.slice a dt k] 48)=W at *;by_cases h1:ao=1
 ·rw[Qo h1,Bool.true_or]at hR;subst h1 hR;go_wp2_with fail;go_ret;exact⟨rfl,HB.o⟩
 ·rw [Qp h1,Bool.false_or]at hR;have h3:(ao==1)=false:=by simpa using h1
  by_cases h2:kd=4
  ·rw[Qo h2]at hR;subst h2 hR;clear h1;go_wp2_with fail;go_ret;exact⟨rfl,HB.o⟩
  ·rw[Qp h2]at hR;subst hR;have h4:(kd==4)=false:=by simpa using h2
   clear h1 h2;go_wp2_with fail;go_ret;exact⟨rfl,HB.o⟩
theorem rnames40_is(c:Cmd Bk)(a:OA)(k:Nat)(nm:LU)(w:Wd):
  ep 125 #[cmV c a k,nmV nm] w (RB w (.bool (namesC c nm))):=by
 obtain⟨tg,kd,ao,af,vol,oth,p,n,dt⟩:=c;have hk:=(bQ w).aIw (.cells (bB ⟨tg,kd,ao,af,vol,oth,p,n,dt⟩ a k) 48);have HB:=hD hk;have hc:=CB.new w _ rfl ⟨tg,kd,ao,af,vol,oth,p,n,dt⟩ a k 48;have c4:=hc.c4;have c5:=hc.c5;simp only at c4 c5;clear hk hc;obtain⟨R,hR⟩:∃R,namesC (⟨tg,kd,ao,af,vol,oth,p,n,dt⟩:Cmd Bk) nm=R:=⟨_,rfl⟩;rw[hR];unfold namesC at hR;simp only at hR;obtain⟨u0,h0⟩:∃u,nm.isEmpty=u:=⟨_,rfl⟩;obtain⟨u1,h1⟩:∃u,(vol==nm)=u:=⟨_,rfl⟩;obtain⟨u2,h2⟩:∃u,(oth==nm)=u:=⟨_,rfl⟩;rw[h0,h1,h2]at hR;unfold cmV;simp only;go_enter func125,ntmps125;go_upto_region 1 with fail;generalize w.alloc (cq #[tg,kd,ao,.bool af,nmV vol,nmV oth,p,n,.slice a dt k] 48)=W at *;cases u0
 ·cases u1
  ·cases u2
   all_goals
    subst hR;go_wp2_with fail;go_ret;exact⟨rfl,HB.o⟩
  ·subst hR;go_wp2_with fail;go_ret;exact⟨rfl,HB.o⟩
 ·subst hR;go_wp2_with fail;go_ret;exact⟨rfl,HB.o⟩
theorem rrange40_is(c:Cmd Bk)(a:OA)(k:Nat)(w:Wd)(hf:tN c)(hv:c.valid=true):
    ep 124 #[cmV c a k] w (RB w (if 3<c.kd then .tuple #[.string ⟨#[]⟩,oo,oo,false]else .tuple #[nmV c.vol,c.p,c.n,true])):=by
  have hk:=(bQ w).aIw (.cells (bB c a k) 48);have HB:=hD hk;have hkk:=(tQ hv).1;have HV:=hD (λW=>Cw c a k W hf);rw[hv]at HV;obtain⟨tg,kd,ao,af,vol,oth,p,n,dt⟩:=c;have HC:=hD (CB.new w _ rfl ⟨tg,kd,ao,af,vol,oth,p,n,dt⟩ a k 48);clear hk hf hv;unfold cmV at HV;simp only at HV;unfold cmV;simp only;go_enter func124,ntmps124;go_upto_region 1 with fail;generalize w.alloc (cq #[tg,kd,ao,.bool af,nmV vol,nmV oth,p,n,.slice a dt k] 48)=W at *;obtain⟨c0,c1,c2,c3,c4,c5,c6,c7,c8⟩:=HC.o;simp only at c0 c1 c2 c3 c4 c5 c6 c7 c8;simp only at hkk;by_cases h3:3<kd
  · rw[Qf h3];have g1:(kd != 1)=true:=by simp;omega
    have g2:(kd != 2)=true:=by simp;omega
    have g3:(kd != 3)=true:=by simp;omega
    clear hkk;go_wp2_with fail;refine(HV.o _).m ?_;rintro e w1 ⟨rfl,hb⟩;have d1:=hb.keep c1;have HB1:=hD (HB.o.on hb);clear c0 c1 c2 c3 c4 c5 c6 c7 c8 hb;go_wp2_with fail;refine Yg (v:= .tuple #[.string ⟨#[]⟩,oo,oo,false]) kR rfl ?_;exact⟨rfl,HB1.o⟩
  · rw [Qe h3];have hcs:kd=1∨kd=2∨kd=3:=oM
    clear hkk h3;rcases hcs with rfl|rfl|rfl
    all_goals
     go_wp2_with fail;refine(HV.o _).m ?_;rintro e w1 ⟨rfl,hb⟩;have d1:=hb.keep c1;have d4:=hb.keep c4;have d6:=hb.keep c6;have d7:=hb.keep c7;have HB1:=hD (HB.o.on hb);clear c0 c1 c2 c3 c4 c5 c6 c7 c8 hb;go_upto_region 3 with fail;refine wpr ?_
     repeat(go_big_quiet_step ((fail)))
     refine wqn λnq=> ?_;go_wp2_with fail;refine Yg (v:= .tuple #[nmV vol,p,n,true]) kR rfl ?_;exact⟨rfl,HB1.o.on (World.aIy _ _)⟩
theorem valid_in{c:Cmd Bk}(h:c.valid=true)(k:c.kd<=3):0<=c.p/\1<=c.n/\c.p+c.n<=65536:=by
 have h1:=(tQ h).1;unfold Cmd.valid at h;simp only[Qd]at h;have hk:=h.2.2;unfold Cmd.aJj at hk;by_cases k1:c.kd=1
 ·rw[Qf k1]at hk;simp only[Qd,lK,Qc]at hk;omega
 ·rw[Qe k1]at hk;by_cases k2:c.kd=2
  ·rw[Qf k2]at hk;simp only[Qd,lK,Qc]at hk;omega
  ·rw[Qe k2,Qf (show c.kd=3 by omega)]at hk;simp only[Qd,lK,Qc]at hk;omega
structure C2(w W:Wd)(x y:Cmd Bk)(a b:OA)(k l:Nat):Prop where
 x:CB W w x a k
 y:CB W (cf w) y b l
 g:Below w w W
theorem C2.aIx{w W W':Wd}{x y:Cmd Bk}{a b:OA}{k l:Nat}(h:C2 w W x y a b k l)(hb:Below W W W'):C2 w W' x y a b k l:=⟨h.x.aIx hb,h.y.aIx hb,h.g.on hb⟩
theorem C2.new(w:Wd)(x y:Cmd Bk)(a b:OA)(k l:Nat):C2 w ((w.alloc (.cells (bB x a k) 48)).alloc (.cells (bB y b l) 48)) x y a b k l:=by
 have hk:=(bQ w).aIw (.cells (bB x a k) 48);have hl:=(Below.refl (w.alloc (.cells (bB x a k) 48)).heap.size (w.alloc (.cells (bB x a k) 48))).aIw (.cells (bB y b l) 48);exact⟨(CB.new w _ rfl x a k 48).aIx hl,CB.new _ (w.heap.size+1) sM y b l 48,hk.on hl⟩
theorem roverlap_is(x y:Cmd Bk)(a b:OA)(k l:Nat)(w:Wd)(hf:tN x)(hg:tN y):
  ep 83 #[cmV x a k,cmV y b l] w (RB w (.bool (overC x y))):=by
 have H0:=hD (C2.new w x y a b k l);have HV:=hD (λW=>Cw x a k W hf);have HW:=hD (λW=>Cw y b l W hg);obtain⟨R,hR⟩:∃R,overC x y=R:=⟨_,rfl⟩;rw[hR];have HR:=hD hR;have HS:=hD (λW=>rnames40_is x a k y.vol W);have HO:=hD (λW=>rnames40_is x a k y.oth W);have HK:=hD (λ(h:x.valid=true)=>tQ h);have HL:=hD (λ(h:y.valid=true)=>tQ h);have HM:=hD (λ(h:x.valid=true) k=>valid_in h k);have HN:=hD (λ(h:y.valid=true) k=>valid_in h k);have HA:=hD (λW (hv:x.valid=true)=>rrange40_is x a k W hf hv);have HB:=hD (λW (hv:y.valid=true)=>rrange40_is y b l W hg hv);clear hR hf hg;obtain⟨v1,hv1⟩:∃v,x.valid=v:=⟨_,rfl⟩;obtain⟨v2,hv2⟩:∃v,y.valid=v:=⟨_,rfl⟩;rw[hv1]at HV;rw[hv2]at HW;have HV1:=hD hv1;have HV2:=hD hv2;clear hv1 hv2;obtain⟨tg,kd,ao,af,vol,oth,p,n,dt⟩:=x;obtain⟨tg',kd',ao',af',vol',oth',p',n',dt'⟩:=y;unfold cmV at HV HW HS HO HA HB ⊢;simp only at HV HW HS HO HA HB HK HL HM HN ⊢;go_enter func83,ntmps83;go_upto_region 1 with fail;generalize (w.alloc (cq #[tg,kd,ao,.bool af,nmV vol,nmV oth,p,n,.slice a dt k] 48)).alloc (cq #[tg',kd',ao',.bool af',nmV vol',nmV oth',p',n',.slice b dt' l] 48)=W at *;obtain⟨c0,c1,c2,c3,c4,c5,c6,c7,c8⟩:=H0.o.x;obtain⟨d0,d1,d2,d3,d4,d5,d6,d7,d8⟩:=H0.o.y;simp only at c0 c1 c2 c3 c4 c5 c6 c7 c8 d0 d1 d2 d3 d4 d5 d6 d7 d8;cases v1
 ·obtain rfl:R=false:=by rw[<-HR.o];unfold overC;rw[HV1.o];rfl
  go_wp2_with fail;refine(HV.o _).m ?_;rintro e wq ⟨rfl,hb⟩;have H1:=hD (H0.o.aIx hb);clear c0 c1 c2 c3 c4 c5 c6 c7 c8 d0 d1 d2 d3 d4 d5 d6 d7 d8;clear hb;go_wp2_with fail;go_ret;exact⟨rfl,H1.o.g⟩
 go_wp2_with fail;refine(HV.o _).m ?_;rintro e wq ⟨rfl,hb⟩;have H1:=hD (H0.o.aIx hb);clear c0 c1 c2 c3 c4 c5 c6 c7 c8 d0 d1 d2 d3 d4 d5 d6 d7 d8;clear hb;clear HV;obtain⟨c0,c1,c2,c3,c4,c5,c6,c7,c8⟩:=H1.o.x;obtain⟨d0,d1,d2,d3,d4,d5,d6,d7,d8⟩:=H1.o.y;simp only at c0 c1 c2 c3 c4 c5 c6 c7 c8 d0 d1 d2 d3 d4 d5 d6 d7 d8;cases v2
 ·obtain rfl:R=false:=by rw[<-HR.o];unfold overC;rw[HV1.o,HV2.o];rfl
  go_wp2_with fail;refine(HW.o _).m ?_;rintro e wq ⟨rfl,hb⟩;have H2:=hD (H1.o.aIx hb);clear c0 c1 c2 c3 c4 c5 c6 c7 c8 d0 d1 d2 d3 d4 d5 d6 d7 d8;clear hb;go_wp2_with fail;go_ret;exact⟨rfl,H2.o.g⟩
 go_wp2_with fail;refine(HW.o _).m ?_;rintro e wq ⟨rfl,hb⟩;have H2:=hD (H1.o.aIx hb);clear c0 c1 c2 c3 c4 c5 c6 c7 c8 d0 d1 d2 d3 d4 d5 d6 d7 d8;clear hb;clear HW H0 H1;have k1:=(HK.o HV1.o).1;have k2:=(HL.o HV2.o).1;obtain⟨c0,c1,c2,c3,c4,c5,c6,c7,c8⟩:=H2.o.x;obtain⟨d0,d1,d2,d3,d4,d5,d6,d7,d8⟩:=H2.o.y;simp only at c0 c1 c2 c3 c4 c5 c6 c7 c8 d0 d1 d2 d3 d4 d5 d6 d7 d8;by_cases h33:kd<=3/\kd'<=3
 ·simp only[Qe (show ¬3<kd by omega)]at HA;simp only[Qe (show ¬3<kd' by omega)]at HB;obtain⟨m1,m2,m3⟩:=HM.o HV1.o oM;obtain⟨n1,n2,n3⟩:=HN.o HV2.o oM;have q1:IntKind.i64.wrap (p'+n')=p'+n':=IntWalk.i64_in _ oM;have q2:IntKind.i64.wrap (p+n)=p+n:=IntWalk.i64_in _ oM;clear m1 m2 m3 n1 n2 n3;obtain⟨u1,g1⟩:∃u,(vol==vol')=u:=⟨_,rfl⟩;obtain⟨u2,g2⟩:∃u,decide (p<p'+n')=u:=⟨_,rfl⟩;obtain⟨u3,g3⟩:∃u,decide (p'<p+n)=u:=⟨_,rfl⟩;obtain⟨u4,g4⟩:∃u,(kd != 1)=u:=⟨_,rfl⟩;obtain⟨u5,g5⟩:∃u,(kd' != 1)=u:=⟨_,rfl⟩;have hR2:(u1&&(u2&&(u3&&(u4||u5))))=R:=by
   rw[<-HR.o,<-g1,<-g2,<-g3,<-g4,<-g5];unfold overC rgkB;rw[HV1.o,HV2.o];simp only[Bool.and_self,Bool.true_eq_false,if_false,Bool.true_and];rw[Qf (by rw[Qd,Qc,Qc];omega)];simp[bne,Bool.beq_eq_decide_eq]
  have HR2:=hD hR2;have z1:¬ (5<=kd):=oM
  have z2:¬ (5<=kd'):=oM
  clear hR2 k1 k2 h33;go_wp2_with fail;refine(HA.o _ HV1.o).m ?_;rintro e wq ⟨rfl,hb⟩;have H3:=hD (H2.o.aIx hb);clear c0 c1 c2 c3 c4 c5 c6 c7 c8 d0 d1 d2 d3 d4 d5 d6 d7 d8;clear hb;obtain⟨c0,c1,c2,c3,c4,c5,c6,c7,c8⟩:=H3.o.x;obtain⟨d0,d1,d2,d3,d4,d5,d6,d7,d8⟩:=H3.o.y;simp only at c0 c1 c2 c3 c4 c5 c6 c7 c8 d0 d1 d2 d3 d4 d5 d6 d7 d8;go_wp2_with fail;refine(HB.o _ HV2.o).m ?_;rintro e wq ⟨rfl,hb⟩;have H4:=hD (H3.o.aIx hb);clear c0 c1 c2 c3 c4 c5 c6 c7 c8 d0 d1 d2 d3 d4 d5 d6 d7 d8;clear hb;obtain⟨c0,c1,c2,c3,c4,c5,c6,c7,c8⟩:=H4.o.x;obtain⟨d0,d1,d2,d3,d4,d5,d6,d7,d8⟩:=H4.o.y;simp only at c0 c1 c2 c3 c4 c5 c6 c7 c8 d0 d1 d2 d3 d4 d5 d6 d7 d8;cases u1
  ·exact sy2
  ·cases u2
   ·exact sy2
   ·cases u3
    ·exact sy2
    ·cases u4
     ·cases u5
      ·exact sy2
      ·exact sy2
     ·exact sy2
 ·have hR2:(if kd<5/\kd'<5 then false else (namesC (⟨tg,kd,ao,af,vol,oth,p,n,dt⟩:Cmd Bk) vol'||namesC (⟨tg,kd,ao,af,vol,oth,p,n,dt⟩:Cmd Bk) oth'))=R:=by
   rw[<-HR.o];unfold overC rgkB;rw[HV1.o,HV2.o];simp only[Bool.and_self,Bool.true_eq_false,if_false,Bool.true_and];rw[Qe (show ¬((decide (kd=1∨kd=2∨kd=3)&&decide (kd'=1∨kd'=2∨kd'=3))=true) by rw[Qd,Qc,Qc];omega)]
  obtain⟨u1,g1⟩:∃u,namesC (⟨tg,kd,ao,af,vol,oth,p,n,dt⟩:Cmd Bk) vol'=u:=⟨_,rfl⟩;obtain⟨u2,g2⟩:∃u,namesC (⟨tg,kd,ao,af,vol,oth,p,n,dt⟩:Cmd Bk) oth'=u:=⟨_,rfl⟩;rw[g1,g2]at hR2;rw[g1]at HS;rw[g2]at HO;clear g1 g2;by_cases h3:3<kd
  ·simp only[Qf h3]at HA;by_cases h3':3<kd'
   ·simp only[Qf h3']at HB;exact sy0
   ·simp only[Qe h3']at HB;exact sy0
  ·simp only[Qe h3]at HA;have h3':3<kd':=oM
   simp only[Qf h3']at HB;exact sy0
theorem rbefore_is(x y:Cmd Bk)(a b:OA)(k l:Nat)(w:Wd)(hf:tN x)(hg:tN y):
  ep 50 #[cmV x a k,cmV y b l] w (RB w (.bool (befC x y))):=by
 have H0:=hD (C2.new w x y a b k l);have HF:=hD (λW=>rfence_is x a k W);have HG:=hD (λW=>rfence_is y b l W);have HO:=hD (λW=>roverlap_is x y a b k l W hf hg);obtain⟨R,hR⟩:∃R,befC x y=R:=⟨_,rfl⟩;rw[hR];unfold befC at hR;obtain⟨u1,g1⟩:∃u,fenceC x=u:=⟨_,rfl⟩;obtain⟨u2,g2⟩:∃u,fenceC y=u:=⟨_,rfl⟩;obtain⟨u3,g3⟩:∃u,overC x y=u:=⟨_,rfl⟩;rw[g1,g2,g3]at hR;rw[g1]at HF;rw[g2]at HG;rw[g3]at HO;clear hf hg g1 g2 g3;obtain⟨tg,kd,ao,af,vol,oth,p,n,dt⟩:=x;obtain⟨tg',kd',ao',af',vol',oth',p',n',dt'⟩:=y;unfold cmV at HF HG HO ⊢;simp only at HF HG HO ⊢;go_enter func50,ntmps50;go_upto_region 1 with fail;generalize (w.alloc (cq #[tg,kd,ao,.bool af,nmV vol,nmV oth,p,n,.slice a dt k] 48)).alloc (cq #[tg',kd',ao',.bool af',nmV vol',nmV oth',p',n',.slice b dt' l] 48)=W at *;obtain⟨c0,c1,c2,c3,c4,c5,c6,c7,c8⟩:=H0.o.x;obtain⟨d0,d1,d2,d3,d4,d5,d6,d7,d8⟩:=H0.o.y;simp only at c0 c1 c2 c3 c4 c5 c6 c7 c8 d0 d1 d2 d3 d4 d5 d6 d7 d8;go_wp2_with fail;refine(HF.o _).m ?_;rintro e wq ⟨rfl,hb⟩;have H1:=hD (H0.o.aIx hb);clear c0 c1 c2 c3 c4 c5 c6 c7 c8 d0 d1 d2 d3 d4 d5 d6 d7 d8;clear hb;obtain⟨c0,c1,c2,c3,c4,c5,c6,c7,c8⟩:=H1.o.x;obtain⟨d0,d1,d2,d3,d4,d5,d6,d7,d8⟩:=H1.o.y;simp only at c0 c1 c2 c3 c4 c5 c6 c7 c8 d0 d1 d2 d3 d4 d5 d6 d7 d8;cases u1
 ·subst hR;go_wp2_with fail;refine(HG.o _).m ?_;rintro e wq ⟨rfl,hb⟩;have H2:=hD (H1.o.aIx hb);clear c0 c1 c2 c3 c4 c5 c6 c7 c8 d0 d1 d2 d3 d4 d5 d6 d7 d8;clear hb;obtain⟨c0,c1,c2,c3,c4,c5,c6,c7,c8⟩:=H2.o.x;obtain⟨d0,d1,d2,d3,d4,d5,d6,d7,d8⟩:=H2.o.y;simp only at c0 c1 c2 c3 c4 c5 c6 c7 c8 d0 d1 d2 d3 d4 d5 d6 d7 d8;cases u2
  ·go_wp2_with fail;refine(HO.o _).m ?_;rintro e wq ⟨rfl,hb⟩;have H3:=hD (H2.o.aIx hb);clear c0 c1 c2 c3 c4 c5 c6 c7 c8 d0 d1 d2 d3 d4 d5 d6 d7 d8;clear hb;go_wp2_with fail;go_ret;exact⟨sM,H3.o.g⟩
  ·go_wp2_with fail;go_ret;exact⟨sM,H2.o.g⟩
 ·subst hR;go_wp2_with fail;go_ret;exact⟨sM,H1.o.g⟩
def DnR(w:Wd)(g o:Nat)(D:List Bool):Prop:= ∀i b,D[i]? =some b->w (cw g (o+i))=some (.bool b)
theorem DnR.keep{w w':Wd}{g o:Nat}{D:List Bool}(h:DnR w g o D)(hb:Below w w w'):DnR w' g o D:=λi b e=>hb.keep (h i b e)
theorem rmark40_is(D:List Bool)(g o c i:Nat)(d:Bool)(w:Wd)(hr:DnR w g o D)(hd:D[i]? =some d):
  ep 49 #[.slice (cw g o) D c,i] w (RB w (.bool d)):=by
 have h0:=hr i d hd;have hk1:(i:Int)<D.length:=by have:=(Qx.1 hd).1;omega
 have hk0:(0:Int)<=i:=oM
 clear hr hd;go_enter func49,ntmps49;go_wp2_with fail;go_ret;exact⟨rfl,bR⟩
section
variable{α:Type}{L:List (Cmd α)}{D:List Bool}{i j n:Nat}{E:List Nat}
def ElO(L:List (Cmd α))(D:List Bool)(i j:Nat)(q:Bool):Prop:=
 if q=true then D[i]? =some false/\ ∀j',j'<j->D[j']? =some false-> ∀a c,L[j']? =some a->L[i]? =some c->befC a c=false
 else D[i]? =some true∨ ∃j',j'<j/\D[j']? =some false
theorem ElO.zero{d:Bool}(h:D[i]? =some d):ElO L D i 0 (!d):=by
 cases d
 ·exact⟨h,λj' q=>by omega⟩
 ·exact .inl h
theorem ElO.no(h:ElO L D i j false):ElO L D i (j+1) false:=by
 rcases h with h|⟨j',h1,h2⟩
 ·exact .inl h
 ·exact .inr ⟨j',oM,h2⟩
theorem ElO.yes(h:ElO L D i j true)(hj:D[j]? =some false-> ∀a c,L[j]? =some a->L[i]? =some c->befC a c=false):ElO L D i (j+1) true:=by
 refine⟨h.1,λj' q=> ?_⟩;by_cases e:j'=j
 ·subst e;exact hj
 ·exact h.2 j' oM
theorem ElP.zero:ElP L D 0 []:=⟨λk h=>(by cases h),λi h=>by omega⟩
theorem ElP.snoc{q:Bool}(h:ElP L D n E)(o:ElO L D n n q):ElP L D (n+1) (if q=true then E++[n]else E):=by
 obtain⟨h1,h2⟩:=h;have old:∀k∈E,k<n+1/\D[k]? =some false/\ ∀j,j<k->D[j]? =some false-> ∀a c,L[j]? =some a->L[k]? =some c->befC a c=false:=λk hk=>⟨by have:=(h1 k hk).1;omega,(h1 k hk).2⟩;cases q
 ·refine⟨old,λi hi hn=> ?_⟩;by_cases e:i=n
  ·subst e;exact o
  ·exact h2 i oM hn
 ·refine ⟨λk hk=> ?_,λi hi hn=> ?_⟩
  ·rcases Qn.1 hk with hk|hk
   ·exact old k hk
   ·obtain rfl:=List.mem_singleton.1 hk;exact⟨oM,o⟩
  ·exact h2 i (by have:i≠n:=λe=>hn (by simp[e]);omega) (λe=>hn (List.mem_append_left _ e))
end
theorem relig_is(L:List CV)(D:List Bool)(a:OA)(ca g o c:Nat)(w:Wd)(hr:FM w a L)(hd:DnR w g o D)(hl:D.length=L.length)(h40:L.length<=100):
  ep 28 #[.slice a L ca,.slice (cw g o) D c] w λe w'=>∃(E:List Nat) (v:Value),e= .returned v/\dG w' w v (E.map λi:Nat=>(i:Int))/\ElP (L.map (·.c)) D L.length E/\Below w w w':=by
 have HR:=hD hr;have HD:=hD hd;have HL:=hD hl;have H40:=hD h40;clear hr hd hl h40;obtain⟨i0,hi,hz0,hz1,hz2⟩:=info_parts RQ;go_enter func28,ntmps28;go_wp2_with fail;go_loopw [5,6] (λv i wr=>∃(k:Nat) (u:Value) (E:List Nat),k<=L.length/\i= .int .i64 k/\v=u/\Hid (dG wr w u (E.map λi:Nat=>(i:Int)))/\Hid (ElP (L.map (·.c)) D k E)/\Hid (E.length<=k)/\Hid (Below w w wr)) (λ_ i _=>L.length-(intOf i).toNat)
 case atStart=>exact⟨0,_,[],Yf _,rfl,rfl,hD (dG.nil _ _),hD ElP.zero,hD (Ye _),hD bR⟩
 case round=>
  obtain⟨k,u,E,hk,rfl,rfl,HO,HE,HEL,HBR⟩:=hrel;by_cases hlt:k<L.length
  ·as_aux_lemma=>
   have hk0:(0:Int)<=k:=oM
   have hk1:(k:Int)<L.length:=oM
   obtain⟨d,hdd⟩:∃d,D[k]? =some d:=⟨_,Qa (by have:=HL.o;omega)⟩;have HDD:=hD hdd;clear hdd;go_wp2_with fail;refine(rmark40_is D g o c k d _ (HD.o.keep HBR.o) HDD.o).m ?_;rintro e w1 ⟨rfl,hb⟩;have HB1:=hD (HBR.o.on hb);have HO1:=hD (HO.o.keep hb);clear hb HO HBR;go_wp2_with fail;go_loopw [7,8] (λu t wi=>∃(j:Nat) (q:Bool),j<=k/\t= .int .i64 j/\u= .bool q/\Hid (ElO (L.map (·.c)) D k j q)/\Hid (Below w1 w1 wi)) (λ_ t _=>k-(intOf t).toNat)
   case atStart=>exact⟨0,!d,Yf _,rfl,rfl,hD (ElO.zero HDD.o),hD bR⟩
   case round=>
    obtain⟨j,q,hj,rfl,rfl,HQ,HBi⟩:=hrel;by_cases hlj:j<k
    ·as_aux_lemma=>
     have hj0:(0:Int)<=j:=oM
     have hj1:(j:Int)<L.length:=oM
     go_upto_region 9 with fail;have HBn:=λn=>HBi.o.on (World.aIy wr n);cases q
     ·refine wpr ?_
      repeat(go_big_quiet_step ((fail)))
      refine wqn λnq=> ?_;replace HBn:=hD (HBn nq);generalize wr.next nq=Wn at HBn ⊢;have h40:=H40.o;go_wp2_with fail;go_roundw
      case rel=>exact⟨j+1,false,oM,by go_num,rfl,hD HQ.o.no,HBn⟩
      case measure=>simp[intOf];omega
     ·obtain ⟨d2,hd2⟩:∃d,D[j]? =some d:=⟨_,Qa (by have:=HL.o;omega)⟩;have HDW:=hD (HD.o.keep (HB1.o.on HBi.o));have HIS:=hD (λW h=>rmark40_is D g o c j d2 W h hd2);have HD2:=hD hd2;clear hd2;cases d2
      ·have HRW:=hD (HR.o.keep (HB1.o.on HBi.o));obtain⟨gb,go,rfl,hat⟩:=HRW.o.at oM;have hlj2:j<L.length:=oM
       have hx:=hat j _ (Qa hlj2);have hy:=hat k _ (Qa hlt);have fx:=(HRW.o.2.1 _ (Qm hlj2)).fit;have fy:=(HRW.o.2.1 _ (Qm hlt)).fit;have HX:Hid ((L.map (·.c))[j]? =some L[j].c):=hD (by rw[Yw,Qa hlj2];rfl);have HY:Hid ((L.map (·.c))[k]? =some L[k].c):=hD (by rw[Yw,Qa hlt];rfl);generalize L[j]=x at hx fx HX;generalize L[k]=y at hy fy HY;obtain⟨x,xa,xk⟩:=x;obtain⟨y,ya,yk⟩:=y;simp only at fx fy HX HY;have HBF:=hD (λW=>rbefore_is x y xa ya xk yk W fx fy);obtain⟨r,hr⟩:∃r,befC x y=r:=⟨_,rfl⟩;rw[hr]at HBF;have HRR:=hD hr;obtain⟨e0,e1,e2,e3,e4,e5,e6,e7,e8⟩:=hx;obtain⟨f0,f1,f2,f3,f4,f5,f6,f7,f8⟩:=hy;simp only at e0 e1 e2 e3 e4 e5 e6 e7 e8 f0 f1 f2 f3 f4 f5 f6 f7 f8;clear hat fx fy hr HRW;obtain⟨tg,kd,ao,af,vol,oth,p,n,dt⟩:=x;obtain⟨tg',kd',ao',af',vol',oth',p',n',dt'⟩:=y;unfold cmV at HBF;simp only at HBF e0 e1 e2 e3 e4 e5 e6 e7 e8 f0 f1 f2 f3 f4 f5 f6 f7 f8;refine wpr ?_
       repeat(go_big_quiet_step ((first|(go_at_call 49;exact Calls.aJb (HIS.o _ (HDW.o.keep (World.aIy _ _))))|(go_at_call 50;exact Calls.aJb (HBF.o _)))))
       refine wqn λnq=> ?_;replace HBn:=hD (HBn nq);clear e0 e1 e2 e3 e4 e5 e6 e7 e8 f0 f1 f2 f3 f4 f5 f6 f7 f8;cases r
       ·generalize wr.next nq=Wn at HBn ⊢;have h40:=H40.o;go_wp2_with fail;go_roundw
        case rel=>exact⟨j+1,true,oM,by go_num,rfl,hD (HQ.o.yes λ_ a c h1 h2=>by rw[HX.o]at h1;rw[HY.o]at h2;cases h1;cases h2;exact HRR.o),HBn⟩
        case measure=>simp[intOf];omega
       ·generalize wr.next nq=Wn at HBn ⊢;have h40:=H40.o;go_wp2_with fail;go_roundw
        case rel=>exact⟨j+1,false,oM,by go_num,rfl,hD (.inr ⟨j,oM,HD2.o⟩),HBn⟩
        case measure=>simp[intOf];omega
      ·refine wpr ?_
       repeat(go_big_quiet_step ((go_at_call 49;exact Calls.aJb (HIS.o _ (HDW.o.keep (World.aIy _ _))))))
       refine wqn λnq=> ?_;replace HBn:=hD (HBn nq);generalize wr.next nq=Wn at HBn ⊢;have h40:=H40.o;go_wp2_with fail;go_roundw
       case rel=>exact⟨j+1,true,oM,by go_num,rfl,hD (HQ.o.yes λe=>by rw[HD2.o]at e;cases e),HBn⟩
       case measure=>simp[intOf];omega
    ·as_aux_lemma=>
     obtain rfl:j=k:=oM
     have HOI:=hD (HO1.o.keep HBi.o);have HBE:=hD (HB1.o.on HBi.o);have HS:=hD (HE.o.snoc HQ.o);clear HO1 HB1 HQ HBi HE;have h40:=H40.o;cases q
     ·go_wp2_with fail;go_roundw
      case rel=>exact⟨j+1,_,E,oM,by go_num,rfl,HOI,HS,hD (by have:=HEL.o;omega),HBE⟩
      case measure=>simp[intOf];omega
     ·have hsz:=HBE.o.size
      go_wp2_with (at_builtin;refine aO _ rfl _ _ 66 rfl w.heap.size 3 i0 oo 1 8 underlying66 hi hz0 hz1 hz2 rfl dE _ _ _ rfl (Qu HOI.o _) (cw wr.heap.size 0) 1 1 [_] rfl rfl (newI _ _ rfl _ _) (by intro u hu;simp at hu;subst hu;rfl) (by have:=HEL.o;have:=H40.o;simp;omega) (by have:=HEL.o;have:=H40.o;simp[maxLen];omega) (by simp only[World.size_alloc];omega) ?_;intro v1 w2 hown1 hgrow1 hwhere1)
      have ho:=dG.append (D:=[(j:Int)]) hown1 rfl;have HO4:Hid (dG w2 w v1 ((E++[j]).map λi:Nat=>(i:Int))):=hD (by rw[Yz];exact ho);have HB4:=hD ((HBE.o.aIw (cq #[j] 3)).aJa hgrow1 λq hq=>(HOI.o.lt q hq).1);clear hown1 hgrow1 hwhere1 ho HOI HBE;go_wp2_with fail;go_roundw
      case rel=>exact⟨j+1,_,E++[j],oM,by go_num,rfl,HO4,HS,hD (by have:=HEL.o;simp;omega),HB4⟩
      case measure=>simp[intOf];omega
  ·obtain rfl:k=L.length:=oM
   go_wp2_with fail;go_ret;exact⟨E,_,rfl,HO.o,HE.o,HBR.o⟩
end Go.Proofs.YtphfgbbbejloaaaGreatDoor
