/- The law ModelOrders returns true for every input, and its arguments read as they read before: the lifted form. Conditions: as each theorem says. -/
import Derived.Test.YtphfgbbbejloaaaGreatDoorMhA
import Derived.LaidMore
import Derived.Lay
set_option linter.unusedSimpArgs false
set_option linter.unusedVariables false
set_option maxRecDepth 100000
set_option maxHeartbeats 16000000
namespace Go.Proofs.YtphfgbbbejloaaaGreatDoor.ModelOrders
open Go.RowKit
open Go.Proofs.Tryz
open Go.ChangeShapes Go.WideShapes Go.ChangeAt
theorem sy7 {P:Prop} (h:P:=by simpa [Value.cells]using hf):P:=h
theorem lifted (os:Os) (started:os.Started) (H:Type) (enc:TypeId × Value->H):
  ReturnsInHanded {} Tryz.checked os 9 .any (fun w args=>(Rows.modelOrdersSpec.pre enc prog Tryz.f9 Rows.modelOrdersRow.domain false w args/\laidMetH prog Rows.modelOrdersRow.laid w)/\sizedMet enc prog Tryz.f9 (OpenSpec.ofChange Rows.modelOrdersSpec) false w args)
   (Rows.modelOrdersSpec.post enc prog Tryz.f9 false true false false):=by
 refine returnsInHanded_of_change_and (C:=Tryz.checked) (X:=fun w _=>laidMetH prog Rows.modelOrdersRow.laid w) (fun _ _ _ hh h=>h.of_heap hh) own started kR func9
  (ChangeSpec.witness_shaped (enc:=enc) (C:=Tryz.checked) (os:=os) (X:=fun w _=>laidMetH prog Rows.modelOrdersRow.laid w) false (World.laidAll prog os Rows.modelOrdersRow.laid) #[.slice none 0 0,.slice none 0 0,.slice none 0 0] 8 (World.laidAll_os _ _ _)
   (World.shaped_of_ZipB kR kR) kR kR kR
   (by rw[MakeChecks.laidMetH_plain _ _ _ kR];exact laidMet_laidAll _ kR kR)) ?_
 intro W base args ds gs before hval0 hW hcnd _ hL _;have hval:∀ (j:Nat) t v,Tryz.f9.params[j]? =some t->args[j]? =some v->Value.okWide prog W .any base t v:=hval0;have hW':=hW;obtain⟨p,q,hA0,hV,rfl,hfz,hnd⟩:=hW;have hA:DataW.TrodAll enc prog W 0 (fun _=>true) true Tryz.f9.params.toList args.toList ds p:=hA0;rw[Tryz.params9]at hA hval;obtain⟨v0,vs0,d0,ds0,p0,q0,hargs,rfl,rfl,h0,r0⟩:=trodAll_cons hA;obtain⟨v1,vs1,d1,ds1,p1,q1,rfl,rfl,rfl,h1,r1⟩:=trodAll_cons r0;obtain⟨v2,vs2,d2,ds2,p2,q2,rfl,rfl,rfl,h2,r2⟩:=trodAll_cons r1;obtain⟨rfl,rfl,rfl⟩:=trodAll_nil r2;obtain rfl:args= #[v0,v1,v2]:=by cases args;simp_all
 obtain⟨rfl,rfl⟩:=trodVars_none hV;have k0:=h0;have lt0:∀ x∈p0,x.block<W.heap.size:=by obtain⟨m,hm⟩:=k0;exact DataW.trod_lt m _ _ _ hm
 have k1:=h1;have lt1:∀ x∈p1,x.block<W.heap.size:=by obtain⟨m,hm⟩:=k1;exact DataW.trod_lt m _ _ _ hm
 have k2:=h2;have lt2:∀ x∈p2,x.block<W.heap.size:=by obtain⟨m,hm⟩:=k2;exact DataW.trod_lt m _ _ _ hm
 obtain ⟨a0,len0,cap0,rfl⟩:=okWide_slice underlying22 (hval 0 22 v0 rfl rfl);obtain⟨l0,rfl,hl0,hr0⟩:∃ l:List CV,l.length=len0/\(len0<=9223372036854775807/\len0<=cap0/\cap0<=9223372036854775807)/\FM W a0 l:=by
  obtain⟨fuel,hf⟩:=h0;exact Ud sy7
 obtain ⟨a1,len1,cap1,rfl⟩:=okWide_slice underlying22 (hval 1 22 v1 rfl rfl);obtain⟨l1,rfl,hl1,hr1⟩:∃ l:List CV,l.length=len1/\(len1<=9223372036854775807/\len1<=cap1/\cap1<=9223372036854775807)/\FM W a1 l:=by
  obtain⟨fuel,hf⟩:=h1;exact Ud sy7
 obtain ⟨a2,len2,cap2,rfl⟩:=okWide_slice underlying72 (hval 2 72 v2 rfl rfl);obtain⟨l2,rfl,hl2,hr2⟩:∃ l:List Nat,l.length=len2/\(len2<=9223372036854775807/\len2<=cap2/\cap2<=9223372036854775807)/\RdSc W a2 l:=by
  obtain⟨fuel,hf⟩:=h2;exact open_u8s sy7
 clear hA0 hval0;refine(law_orders48 l0 a0 cap0 l1 a1 cap1 l2 a2 cap2 W hr0 hr1 hr2).mono fun e W' ⟨he,bel⟩=> ?_;subst he;exact⟨_,rfl,_,_,_,[],_,[],hW',trodAll_mk1 (shut_bool underlying4 _),(trodAll_cons_mk (Below.trod laidOut kR (Qt kR) k0 bel lt0) (trodAll_cons_mk (Below.trod laidOut kR (Qt kR) k1 bel lt1) (trodAll_cons_mk (Below.trod laidOut kR (Qt kR) k2 bel lt2) trodAll_mk0))),rfl,bel.frame _,fun h=>by cases h⟩
end Go.Proofs.YtphfgbbbejloaaaGreatDoor.ModelOrders
