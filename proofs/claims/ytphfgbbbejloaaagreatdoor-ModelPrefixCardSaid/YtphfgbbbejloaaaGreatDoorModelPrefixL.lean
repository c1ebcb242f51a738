/- The law ModelPrefix returns true for every input, and its arguments read as they read before: the lifted form. Conditions: as each theorem says. -/
import Derived.Test.YtphfgbbbejloaaaGreatDoorMiB
import Derived.LaidMore
import Derived.Lay
set_option linter.unusedSimpArgs false
set_option linter.unusedVariables false
set_option maxRecDepth 100000
set_option maxHeartbeats 16000000
namespace Go.Proofs.YtphfgbbbejloaaaGreatDoor.ModelPrefix
open Go.RowKit
open Go.Proofs.Tryz
open Go.ChangeShapes Go.WideShapes Go.ChangeAt
theorem lifted (os:Os) (started:os.Started) (H:Type) (enc:TypeId × Value->H):
  ReturnsInHanded {} Tryz.checked os 7 .any (fun w args=>(Rows.modelPrefixSpec.pre enc prog Tryz.f7 Rows.modelPrefixRow.domain false w args/\laidMetH prog Rows.modelPrefixRow.laid w)/\sizedMet enc prog Tryz.f7 (OpenSpec.ofChange Rows.modelPrefixSpec) false w args)
   (Rows.modelPrefixSpec.post enc prog Tryz.f7 false true false false):=by
 refine returnsInHanded_of_change_and (C:=Tryz.checked) (X:=fun w _=>laidMetH prog Rows.modelPrefixRow.laid w) (fun _ _ _ hh h=>h.of_heap hh) own started kR func7
  (ChangeSpec.witness_shaped (enc:=enc) (C:=Tryz.checked) (os:=os) (X:=fun w _=>laidMetH prog Rows.modelPrefixRow.laid w) false (World.laidAll prog os Rows.modelPrefixRow.laid) #[.int .u8 0,.slice none 0 0,.int .u8 0] 8 (World.laidAll_os _ _ _)
   (World.shaped_of_ZipB kR kR) kR kR kR
   (by rw[MakeChecks.laidMetH_plain _ _ _ kR];exact laidMet_laidAll _ kR kR)) ?_
 intro W base args ds gs before hval0 hW hcnd _ hL _;have hval:∀ (j:Nat) t v,Tryz.f7.params[j]? =some t->args[j]? =some v->Value.okWide prog W .any base t v:=hval0;have hW':=hW;obtain⟨p,q,hA0,hV,rfl,hfz,hnd⟩:=hW;have hA:DataW.TrodAll enc prog W 0 (fun _=>true) true Tryz.f7.params.toList args.toList ds p:=hA0;rw[Tryz.params7]at hA hval
 letI:Gst:=⟨none⟩
 obtain⟨v0,vs0,d0,ds0,p0,q0,hargs,rfl,rfl,h0,r0⟩:=trodAll_cons hA;obtain⟨v1,vs1,d1,ds1,p1,q1,rfl,rfl,rfl,h1,r1⟩:=trodAll_cons r0;obtain⟨v2,vs2,d2,ds2,p2,q2,rfl,rfl,rfl,h2,r2⟩:=trodAll_cons r1;obtain⟨rfl,rfl,rfl⟩:=trodAll_nil r2;obtain rfl:args= #[v0,v1,v2]:=by cases args;simp_all
 obtain⟨rfl,rfl⟩:=trodVars_none hV;have k0:=h0;have lt0:∀ x∈p0,x.block<W.heap.size:=by obtain⟨m,hm⟩:=k0;exact DataW.trod_lt m _ _ _ hm
 have k1:=h1;have lt1:∀ x∈p1,x.block<W.heap.size:=by obtain⟨m,hm⟩:=k1;exact DataW.trod_lt m _ _ _ hm
 have k2:=h2;have lt2:∀ x∈p2,x.block<W.heap.size:=by obtain⟨m,hm⟩:=k2;exact DataW.trod_lt m _ _ _ hm
 obtain ⟨i0,rfl,_,_,wi0⟩:=open_int underlying5 (hval 0 5 v0 rfl rfl) h0;have bi0:=bounds_u8 wi0;obtain⟨n0,rfl⟩:=Qr bi0.1;obtain⟨a1,len1,cap1,rfl⟩:=okWide_slice underlying22 (hval 1 22 v1 rfl rfl);obtain⟨l1,rfl,hl1,hr1⟩:∃ l:List CV,l.length=len1/\(len1<=9223372036854775807/\len1<=cap1/\cap1<=9223372036854775807)/\FM W a1 l:=by
  obtain⟨fuel,hf⟩:=h1;exact Ud (by simpa [Value.cells]using hf)
 obtain⟨i2,rfl,_,_,wi2⟩:=open_int underlying5 (hval 2 5 v2 rfl rfl) h2;have bi2:=bounds_u8 wi2;obtain⟨n2,rfl⟩:=Qr bi2.1;clear hA0 hval0;refine(law_prefix48 n0 l1 a1 cap1 n2 W (by have:=bi0.2;omega) hr1 (by have:=bi2.2;omega)).mono fun e W' ⟨he,bel⟩=> ?_;subst he;exact⟨_,rfl,_,_,_,[],_,[],hW',trodAll_mk1 (shut_bool underlying4 _),(trodAll_cons_mk (Below.trod laidOut kR (Qt kR) k0 bel lt0) (trodAll_cons_mk (Below.trod laidOut kR (Qt kR) k1 bel lt1) (trodAll_cons_mk (Below.trod laidOut kR (Qt kR) k2 bel lt2) trodAll_mk0))),rfl,bel.frame _,fun h=>by cases h⟩
end Go.Proofs.YtphfgbbbejloaaaGreatDoor.ModelPrefix
