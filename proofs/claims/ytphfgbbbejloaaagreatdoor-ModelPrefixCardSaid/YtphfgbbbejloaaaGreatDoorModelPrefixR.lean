/- The law ModelPrefix returns true for every input, and its arguments read as they read before: the row and.. Conditions: as each theorem says. -/
import Derived.Test.YtphfgbbbejloaaaGreatDoorModelPrefixQ
import Derived.Test.YtphfgbbbejloaaaGreatDoorTie
import Derived.Test.YtphfgbbbejloaaaGreatDoorCards
set_option linter.unusedVariables false
set_option maxRecDepth 100000
set_option maxHeartbeats 16000000
namespace Go.Proofs.YtphfgbbbejloaaaGreatDoor.ModelPrefix
open Go.RowKit
open Go.Proofs.Tryz
open Go.ChangeShapes Go.WideShapes Go.ChangeAt
theorem facts:joinedFacts Tryz.pinned.checked.prog 7 Tryz.f7 Rows.modelPrefixSpec Rows.modelPrefixRow=true:=by
 unfold joinedFacts;refine Bool.and_eq_true_iff.2 ⟨?_,c31⟩;refine Bool.and_eq_true_iff.2 ⟨?_,c30⟩;refine Bool.and_eq_true_iff.2 ⟨?_,c29⟩;refine Bool.and_eq_true_iff.2 ⟨?_,(by kernel_rfl)⟩;refine Bool.and_eq_true_iff.2 ⟨?_,c27⟩;refine Bool.and_eq_true_iff.2 ⟨?_,c26⟩;refine Bool.and_eq_true_iff.2 ⟨?_,c25⟩;refine Bool.and_eq_true_iff.2 ⟨?_,c24⟩;refine Bool.and_eq_true_iff.2 ⟨?_,c23⟩;refine Bool.and_eq_true_iff.2 ⟨?_,c22⟩;refine Bool.and_eq_true_iff.2 ⟨?_,c21⟩;refine Bool.and_eq_true_iff.2 ⟨?_,c20⟩;refine Bool.and_eq_true_iff.2 ⟨?_,c19⟩;refine Bool.and_eq_true_iff.2 ⟨?_,c18⟩;refine Bool.and_eq_true_iff.2 ⟨?_,c17⟩;refine Bool.and_eq_true_iff.2 ⟨?_,c16⟩;refine Bool.and_eq_true_iff.2 ⟨?_,c15⟩;refine Bool.and_eq_true_iff.2 ⟨?_,c14⟩;refine Bool.and_eq_true_iff.2 ⟨?_,c13⟩;refine Bool.and_eq_true_iff.2 ⟨?_,c12⟩;refine Bool.and_eq_true_iff.2 ⟨?_,c11⟩;refine Bool.and_eq_true_iff.2 ⟨?_,c10⟩;refine Bool.and_eq_true_iff.2 ⟨?_,c9⟩;refine Bool.and_eq_true_iff.2 ⟨?_,c8⟩;refine Bool.and_eq_true_iff.2 ⟨?_,c7⟩;refine Bool.and_eq_true_iff.2 ⟨?_,c6⟩;refine Bool.and_eq_true_iff.2 ⟨?_,c5⟩;refine Bool.and_eq_true_iff.2 ⟨?_,c4⟩;refine Bool.and_eq_true_iff.2 ⟨?_,c3⟩;refine Bool.and_eq_true_iff.2 ⟨?_,c2⟩;refine Bool.and_eq_true_iff.2 ⟨?_,c1⟩;exact c0
theorem holds:Rows.ModelPrefixSaid:=
 OpenClaim.holds_of_wide 7 Tryz.f7 rfl rfl rfl rfl rfl rfl rfl ⟨rfl,rfl,rfl,rfl,rfl⟩ rfl rfl rfl rfl rfl (by kernel_rfl) func7 facts
  (Qt (by kernel_rfl)) (by unfold Func.isWrapper;first|(rw[Qf (by decide+kernel)];kernel_rfl)|(rw[Qe (by decide+kernel)];exact⟨rfl,rfl⟩))
  (fun os started H enc _=>lifted os started H enc)
theorem k0:Rows.modelPrefixRow.wfByText (OpenSpec.ofChange Rows.modelPrefixSpec)=true:=(by kernel_rfl)
theorem k1 : Tryz.pinned.checked.prog.mainIs = some (true, "908d2931a08af0c9dbc1c8e01d463bbd5508a1c28e908d7c9c7a8e110297df83".toList) := by kernel_rfl
theorem k2:false=Rows.modelPrefixRow.goesBy Tryz.pinned.checked.prog:=(by kernel_rfl)
theorem k3 : Tryz.prog.funcNamed "tegula/tegulalaw48.ModelPrefix" = some 7 := by kernel_rfl
theorem card_holds:Rows.ModelPrefixCardSaid:=
  Claim7.holds_tied_plain_at .later [] [.data, .pinned] true (true, "908d2931a08af0c9dbc1c8e01d463bbd5508a1c28e908d7c9c7a8e110297df83") true holds (fun _ h => by cases h) k0 (fun _ h => by cases h) modelPrefix_row_tie rfl ⟨rfl, rfl⟩ k1 rfl
    (fun f fn hf hfn=>by
      obtain rfl:f=7:=Qv (k3.symm.trans hf) |>.symm;obtain rfl:fn=Tryz.f7:=(Qv (func7.symm.trans hfn)).symm;exact⟨(by kernel_rfl),fun j t ht=>by
        rw[Tryz.params7]at ht;have hm:t∈ [5,22,5]:=by simpa using Array.mem_of_getElem? ht
        have hall:([5,22,5].all fun u=> !prog.wantsStandIn u)=true:=(by kernel_rfl)
        exact(show prog.wantsStandIn t=false by simpa using List.all_eq_true.1 hall t hm)⟩)
    k2
end Go.Proofs.YtphfgbbbejloaaaGreatDoor.ModelPrefix
