/-
  DERIVED. GIVEN WITH THE SEED: THE CARDS: each row of YtphfgbbbejloaaaGreatDoorRows.lean that lists a variable, with what it lists TIED to the program's text (the seventh form; the later family's looks); each row that meets fmt, with fmt's text TOLD by the authors' own Lean function (tested against real Go, not proved from fmt's source: count such statements apart). THE CARD IS WHAT COUNTS. Prove the row's statement (the work); the ties are given (YtphfgbbbejloaaaGreatDoorTie.lean); close each card by the builder's one call (the guide's Derived/Test/ToyasCard.lean, 'card_holds'). Laid BY PROGRAM, IN A SANDBOX (cutbox-door.mjs). By AI agents, Wed Nov 11 2026. No macro, syntax, notation, axiom, sorry.
-/
import Derived.Test.YtphfgbbbejloaaaGreatDoorRows
import GoSem.ClaimSeven
namespace Go.Proofs.YtphfgbbbejloaaaGreatDoor
namespace Rows

/-- THE TIED CARD OF 'tegulalaw48.ModelScript'. -/
def modelScriptCard : Claim7 := { stood := { row := modelScriptRow, standIns := [], harness := (true, "908d2931a08af0c9dbc1c8e01d463bbd5508a1c28e908d7c9c7a8e110297df83"), looks := true }, kinds := [], alts := [], laidByText := true, laidKinds := [.data, .pinned], laidTests := true, laidLooks := .later }
def ModelScriptCardSaid : Prop := Claim7.holds Tryz.pinned (.plain (OpenSpec.ofChange modelScriptSpec)) modelScriptCard

/-- THE TIED CARD OF 'tegulalaw48.ModelCut'. -/
def modelCutCard : Claim7 := { stood := { row := modelCutRow, standIns := [], harness := (true, "908d2931a08af0c9dbc1c8e01d463bbd5508a1c28e908d7c9c7a8e110297df83"), looks := true }, kinds := [], alts := [], laidByText := true, laidKinds := [.data, .pinned], laidTests := true, laidLooks := .later }
def ModelCutCardSaid : Prop := Claim7.holds Tryz.pinned (.plain (OpenSpec.ofChange modelCutSpec)) modelCutCard

/-- THE TIED CARD OF 'tegulalaw48.ModelClones'. -/
def modelClonesCard : Claim7 := { stood := { row := modelClonesRow, standIns := [], harness := (true, "908d2931a08af0c9dbc1c8e01d463bbd5508a1c28e908d7c9c7a8e110297df83"), looks := true }, kinds := [], alts := [], laidByText := true, laidKinds := [.data, .pinned], laidTests := true, laidLooks := .later }
def ModelClonesCardSaid : Prop := Claim7.holds Tryz.pinned (.plain (OpenSpec.ofChange modelClonesSpec)) modelClonesCard

/-- THE TIED CARD OF 'tegulalaw48.ModelReserved'. -/
def modelReservedCard : Claim7 := { stood := { row := modelReservedRow, standIns := [], harness := (true, "908d2931a08af0c9dbc1c8e01d463bbd5508a1c28e908d7c9c7a8e110297df83"), looks := true }, kinds := [], alts := [], laidByText := true, laidKinds := [.data, .pinned], laidTests := true, laidLooks := .later }
def ModelReservedCardSaid : Prop := Claim7.holds Tryz.pinned (.plain (OpenSpec.ofChange modelReservedSpec)) modelReservedCard

/-- THE TIED CARD OF 'tegulalaw48.ModelPrefix'. -/
def modelPrefixCard : Claim7 := { stood := { row := modelPrefixRow, standIns := [], harness := (true, "908d2931a08af0c9dbc1c8e01d463bbd5508a1c28e908d7c9c7a8e110297df83"), looks := true }, kinds := [], alts := [], laidByText := true, laidKinds := [.data, .pinned], laidTests := true, laidLooks := .later }
def ModelPrefixCardSaid : Prop := Claim7.holds Tryz.pinned (.plain (OpenSpec.ofChange modelPrefixSpec)) modelPrefixCard

/-- THE TIED CARD OF 'tegulalaw48.ModelSame'. -/
def modelSameCard : Claim7 := { stood := { row := modelSameRow, standIns := [], harness := (true, "908d2931a08af0c9dbc1c8e01d463bbd5508a1c28e908d7c9c7a8e110297df83"), looks := true }, kinds := [], alts := [], laidByText := true, laidKinds := [.data, .pinned], laidTests := true, laidLooks := .later }
def ModelSameCardSaid : Prop := Claim7.holds Tryz.pinned (.plain (OpenSpec.ofChange modelSameSpec)) modelSameCard

/-- THE TIED CARD OF 'tegulalaw48.ModelOrders'. -/
def modelOrdersCard : Claim7 := { stood := { row := modelOrdersRow, standIns := [], harness := (true, "908d2931a08af0c9dbc1c8e01d463bbd5508a1c28e908d7c9c7a8e110297df83"), looks := true }, kinds := [], alts := [], laidByText := true, laidKinds := [.data, .pinned], laidTests := true, laidLooks := .later }
def ModelOrdersCardSaid : Prop := Claim7.holds Tryz.pinned (.plain (OpenSpec.ofChange modelOrdersSpec)) modelOrdersCard

/-- THE TIED CARD OF 'tegulalaw48.ModelCommutes'. -/
def modelCommutesCard : Claim7 := { stood := { row := modelCommutesRow, standIns := [], harness := (true, "908d2931a08af0c9dbc1c8e01d463bbd5508a1c28e908d7c9c7a8e110297df83"), looks := true }, kinds := [], alts := [], laidByText := true, laidKinds := [.data, .pinned], laidTests := true, laidLooks := .later }
def ModelCommutesCardSaid : Prop := Claim7.holds Tryz.pinned (.plain (OpenSpec.ofChange modelCommutesSpec)) modelCommutesCard

/-- THE SECOND FORM's CARD OF 'tegulalaw48.ModelScript'. -/
def modelScriptUptoCard : Claim7 := { stood := { row := modelScriptUptoRow, standIns := [], harness := (true, "908d2931a08af0c9dbc1c8e01d463bbd5508a1c28e908d7c9c7a8e110297df83"), looks := true }, kinds := [], alts := [], laidByText := true, laidKinds := [.data, .pinned], laidTests := true, laidLooks := .later }
def ModelScriptUptoCardSaid : Prop := Claim7.holds Tryz.pinned (.plain (OpenSpec.upto modelScriptSpec)) modelScriptUptoCard

/-- THE SECOND FORM's CARD OF 'tegulalaw48.ModelCut'. -/
def modelCutUptoCard : Claim7 := { stood := { row := modelCutUptoRow, standIns := [], harness := (true, "908d2931a08af0c9dbc1c8e01d463bbd5508a1c28e908d7c9c7a8e110297df83"), looks := true }, kinds := [], alts := [], laidByText := true, laidKinds := [.data, .pinned], laidTests := true, laidLooks := .later }
def ModelCutUptoCardSaid : Prop := Claim7.holds Tryz.pinned (.plain (OpenSpec.upto modelCutSpec)) modelCutUptoCard

/-- THE SECOND FORM's CARD OF 'tegulalaw48.ModelClones'. -/
def modelClonesUptoCard : Claim7 := { stood := { row := modelClonesUptoRow, standIns := [], harness := (true, "908d2931a08af0c9dbc1c8e01d463bbd5508a1c28e908d7c9c7a8e110297df83"), looks := true }, kinds := [], alts := [], laidByText := true, laidKinds := [.data, .pinned], laidTests := true, laidLooks := .later }
def ModelClonesUptoCardSaid : Prop := Claim7.holds Tryz.pinned (.plain (OpenSpec.upto modelClonesSpec)) modelClonesUptoCard

/-- THE SECOND FORM's CARD OF 'tegulalaw48.ModelReserved'. -/
def modelReservedUptoCard : Claim7 := { stood := { row := modelReservedUptoRow, standIns := [], harness := (true, "908d2931a08af0c9dbc1c8e01d463bbd5508a1c28e908d7c9c7a8e110297df83"), looks := true }, kinds := [], alts := [], laidByText := true, laidKinds := [.data, .pinned], laidTests := true, laidLooks := .later }
def ModelReservedUptoCardSaid : Prop := Claim7.holds Tryz.pinned (.plain (OpenSpec.upto modelReservedSpec)) modelReservedUptoCard

/-- THE SECOND FORM's CARD OF 'tegulalaw48.ModelPrefix'. -/
def modelPrefixUptoCard : Claim7 := { stood := { row := modelPrefixUptoRow, standIns := [], harness := (true, "908d2931a08af0c9dbc1c8e01d463bbd5508a1c28e908d7c9c7a8e110297df83"), looks := true }, kinds := [], alts := [], laidByText := true, laidKinds := [.data, .pinned], laidTests := true, laidLooks := .later }
def ModelPrefixUptoCardSaid : Prop := Claim7.holds Tryz.pinned (.plain (OpenSpec.upto modelPrefixSpec)) modelPrefixUptoCard

/-- THE SECOND FORM's CARD OF 'tegulalaw48.ModelSame'. -/
def modelSameUptoCard : Claim7 := { stood := { row := modelSameUptoRow, standIns := [], harness := (true, "908d2931a08af0c9dbc1c8e01d463bbd5508a1c28e908d7c9c7a8e110297df83"), looks := true }, kinds := [], alts := [], laidByText := true, laidKinds := [.data, .pinned], laidTests := true, laidLooks := .later }
def ModelSameUptoCardSaid : Prop := Claim7.holds Tryz.pinned (.plain (OpenSpec.upto modelSameSpec)) modelSameUptoCard

/-- THE SECOND FORM's CARD OF 'tegulalaw48.ModelOrders'. -/
def modelOrdersUptoCard : Claim7 := { stood := { row := modelOrdersUptoRow, standIns := [], harness := (true, "908d2931a08af0c9dbc1c8e01d463bbd5508a1c28e908d7c9c7a8e110297df83"), looks := true }, kinds := [], alts := [], laidByText := true, laidKinds := [.data, .pinned], laidTests := true, laidLooks := .later }
def ModelOrdersUptoCardSaid : Prop := Claim7.holds Tryz.pinned (.plain (OpenSpec.upto modelOrdersSpec)) modelOrdersUptoCard

/-- THE SECOND FORM's CARD OF 'tegulalaw48.ModelCommutes'. -/
def modelCommutesUptoCard : Claim7 := { stood := { row := modelCommutesUptoRow, standIns := [], harness := (true, "908d2931a08af0c9dbc1c8e01d463bbd5508a1c28e908d7c9c7a8e110297df83"), looks := true }, kinds := [], alts := [], laidByText := true, laidKinds := [.data, .pinned], laidTests := true, laidLooks := .later }
def ModelCommutesUptoCardSaid : Prop := Claim7.holds Tryz.pinned (.plain (OpenSpec.upto modelCommutesSpec)) modelCommutesUptoCard
end Rows
end Go.Proofs.YtphfgbbbejloaaaGreatDoor
