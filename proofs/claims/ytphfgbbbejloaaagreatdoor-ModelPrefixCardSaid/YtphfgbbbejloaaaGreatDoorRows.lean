/-
  NARROWER THAN 'FOR EVERY INPUT', by the rows' own cells (each row's printed sentence says how): ModelScript: laid · ModelCut: laid · ModelClones: laid · ModelReserved: laid · ModelPrefix: laid · ModelSame: laid · ModelOrders: laid · ModelCommutes: laid.
  DERIVED. THE GIVEN ROWS OF THIS SEAT. 8 by the template 'for every input the law returns true; each argument reads behind the call as it read before'; 0 by the template 'total and deterministic' (their statements: YtphfgbbbejloaaaGreatDoorTotals.lean).
  GIVEN WITH THE SEED: the statements are not yours to turn. If you find one false, say at which input.
  Laid BY PROGRAM, IN A SANDBOX (cutbox-rows.mjs): the forced cells as the released guide's own fill.sh prints them over the translation f811672bd91fb139… (all of the seat's roots in one cut). By AI agents, Wed Nov 11 2026. No macro, syntax, notation, axiom, sorry.
-/
import Derived.Test.YtphfgbbbejloaaaGreatDoorChecked
import GoSem.PinnedTables
import GoSem.Claim
import GoSem.ClaimJoined
import GoSem.ClaimMapViews
import Derived.JoinedTies
import Derived.KernelRfl
namespace Go.Proofs.YtphfgbbbejloaaaGreatDoor
/- THE CELL 'sum', in the pinned program and in every row, IS THE sha256 OF THE DUMP (.gsa) THAT YtphfgbbbejloaaaGreatDoorProg.lean LOADS. Nothing in Lean hashes anything: it is a label: what it is worth is what the hold of that sum in a sandbox is worth. -/
noncomputable def Tryz.pinned : Pinned := { name := "ytphfgbbbejloaaagreatdoor", sum := "f811672bd91fb13991bf709fb54d4be4d2ec025623ed1c3f12f7543821c43e29", checked := Tryz.checked }
namespace Rows
def none {H : Type} : Left H := { results := [], args := [] }

/- WHAT THE LISTED PACKAGE-LEVEL VARIABLES READ AS WHEN THE CALL BEGINS. Each datum BY PROGRAM (the guide's laid-datum.mjs) off the statement by which the dump's own 'gosem.cut.vars' lays the variable. In a bare row this is a premise. The card (YtphfgbbbejloaaaGreatDoorCards.lean) ties it to the program's text. -/
def laid_unicode_utf8_acceptRanges {H : Type} : DataW H := .agg [.agg [.lit (.int .u8 128), .lit (.int .u8 191)], .agg [.lit (.int .u8 160), .lit (.int .u8 191)], .agg [.lit (.int .u8 128), .lit (.int .u8 159)], .agg [.lit (.int .u8 144), .lit (.int .u8 191)], .agg [.lit (.int .u8 128), .lit (.int .u8 143)], .agg [.lit (.int .u8 0), .lit (.int .u8 0)], .agg [.lit (.int .u8 0), .lit (.int .u8 0)], .agg [.lit (.int .u8 0), .lit (.int .u8 0)], .agg [.lit (.int .u8 0), .lit (.int .u8 0)], .agg [.lit (.int .u8 0), .lit (.int .u8 0)], .agg [.lit (.int .u8 0), .lit (.int .u8 0)], .agg [.lit (.int .u8 0), .lit (.int .u8 0)], .agg [.lit (.int .u8 0), .lit (.int .u8 0)], .agg [.lit (.int .u8 0), .lit (.int .u8 0)], .agg [.lit (.int .u8 0), .lit (.int .u8 0)], .agg [.lit (.int .u8 0), .lit (.int .u8 0)]]
/-- One of Go's own tables, pinned by name: the form's constant. -/
def laid_unicode_utf8_first : DataW Unit := Go.Pinned.utf8First

/-- 'tegulalaw48.ModelScript': WHATEVER THE INPUT: true; the input reads as it did. -/
def modelScriptSpec : ChangeSpec := { name := "modelScript", fn := fun _ => fun
  | [d1, d2] => { results := [.lit (.bool true)], args := [d1, d2] }
  | _ => none }
def modelScriptRow : OpenClaim := { program := "ytphfgbbbejloaaagreatdoor", sum := "f811672bd91fb13991bf709fb54d4be4d2ec025623ed1c3f12f7543821c43e29", func := "tegula/tegulalaw48.ModelScript", spec := "modelScript", inPlace := ["internal/bytealg.IndexByteString", "internal/bytealg.IndexString", "maps.clone"], unfollowed := true, recurses := true, named := ["unicode/utf8.first", "unicode/utf8.acceptRanges", "internal/bytealg.MaxLen"], apart := false, laid := [("unicode/utf8.acceptRanges", laid_unicode_utf8_acceptRanges), ("unicode/utf8.first", laid_unicode_utf8_first)] }
def ModelScriptSaid : Prop := modelScriptRow.holds Tryz.pinned (OpenSpec.ofChange modelScriptSpec)

/-- ITS FALSE NEIGHBOUR: 'it returns false'. Refute it at one input. -/
def modelScriptWrong : ChangeSpec := { name := "modelScript", fn := fun _ => fun
  | [d1, d2] => { results := [.lit (.bool false)], args := [d1, d2] }
  | _ => none }
def ModelScriptWrongFalsely : Prop := modelScriptRow.holds Tryz.pinned (OpenSpec.ofChange modelScriptWrong)

/-- 'tegulalaw48.ModelCut': WHATEVER THE INPUT: true; the input reads as it did. -/
def modelCutSpec : ChangeSpec := { name := "modelCut", fn := fun _ => fun
  | [d1, d2, d3] => { results := [.lit (.bool true)], args := [d1, d2, d3] }
  | _ => none }
def modelCutRow : OpenClaim := { program := "ytphfgbbbejloaaagreatdoor", sum := "f811672bd91fb13991bf709fb54d4be4d2ec025623ed1c3f12f7543821c43e29", func := "tegula/tegulalaw48.ModelCut", spec := "modelCut", inPlace := ["internal/bytealg.IndexByteString", "internal/bytealg.IndexString", "maps.clone"], unfollowed := true, recurses := true, named := ["unicode/utf8.first", "unicode/utf8.acceptRanges", "internal/bytealg.MaxLen"], apart := false, laid := [("unicode/utf8.acceptRanges", laid_unicode_utf8_acceptRanges), ("unicode/utf8.first", laid_unicode_utf8_first)] }
def ModelCutSaid : Prop := modelCutRow.holds Tryz.pinned (OpenSpec.ofChange modelCutSpec)

/-- ITS FALSE NEIGHBOUR: 'it returns false'. Refute it at one input. -/
def modelCutWrong : ChangeSpec := { name := "modelCut", fn := fun _ => fun
  | [d1, d2, d3] => { results := [.lit (.bool false)], args := [d1, d2, d3] }
  | _ => none }
def ModelCutWrongFalsely : Prop := modelCutRow.holds Tryz.pinned (OpenSpec.ofChange modelCutWrong)

/-- 'tegulalaw48.ModelClones': WHATEVER THE INPUT: true; the input reads as it did. -/
def modelClonesSpec : ChangeSpec := { name := "modelClones", fn := fun _ => fun
  | [d1, d2, d3] => { results := [.lit (.bool true)], args := [d1, d2, d3] }
  | _ => none }
def modelClonesRow : OpenClaim := { program := "ytphfgbbbejloaaagreatdoor", sum := "f811672bd91fb13991bf709fb54d4be4d2ec025623ed1c3f12f7543821c43e29", func := "tegula/tegulalaw48.ModelClones", spec := "modelClones", inPlace := ["internal/bytealg.IndexByteString", "internal/bytealg.IndexString", "maps.clone"], unfollowed := true, recurses := true, named := ["unicode/utf8.first", "unicode/utf8.acceptRanges", "internal/bytealg.MaxLen"], apart := false, laid := [("unicode/utf8.acceptRanges", laid_unicode_utf8_acceptRanges), ("unicode/utf8.first", laid_unicode_utf8_first)] }
def ModelClonesSaid : Prop := modelClonesRow.holds Tryz.pinned (OpenSpec.ofChange modelClonesSpec)

/-- ITS FALSE NEIGHBOUR: 'it returns false'. Refute it at one input. -/
def modelClonesWrong : ChangeSpec := { name := "modelClones", fn := fun _ => fun
  | [d1, d2, d3] => { results := [.lit (.bool false)], args := [d1, d2, d3] }
  | _ => none }
def ModelClonesWrongFalsely : Prop := modelClonesRow.holds Tryz.pinned (OpenSpec.ofChange modelClonesWrong)

/-- 'tegulalaw48.ModelReserved': WHATEVER THE INPUT: true; the input reads as it did. -/
def modelReservedSpec : ChangeSpec := { name := "modelReserved", fn := fun _ => fun
  | [d1, d2, d3] => { results := [.lit (.bool true)], args := [d1, d2, d3] }
  | _ => none }
def modelReservedRow : OpenClaim := { program := "ytphfgbbbejloaaagreatdoor", sum := "f811672bd91fb13991bf709fb54d4be4d2ec025623ed1c3f12f7543821c43e29", func := "tegula/tegulalaw48.ModelReserved", spec := "modelReserved", inPlace := ["internal/bytealg.IndexByteString", "internal/bytealg.IndexString", "maps.clone"], unfollowed := true, recurses := true, named := ["unicode/utf8.first", "unicode/utf8.acceptRanges", "internal/bytealg.MaxLen"], apart := false, laid := [("unicode/utf8.acceptRanges", laid_unicode_utf8_acceptRanges), ("unicode/utf8.first", laid_unicode_utf8_first)] }
def ModelReservedSaid : Prop := modelReservedRow.holds Tryz.pinned (OpenSpec.ofChange modelReservedSpec)

/-- ITS FALSE NEIGHBOUR: 'it returns false'. Refute it at one input. -/
def modelReservedWrong : ChangeSpec := { name := "modelReserved", fn := fun _ => fun
  | [d1, d2, d3] => { results := [.lit (.bool false)], args := [d1, d2, d3] }
  | _ => none }
def ModelReservedWrongFalsely : Prop := modelReservedRow.holds Tryz.pinned (OpenSpec.ofChange modelReservedWrong)

/-- 'tegulalaw48.ModelPrefix': WHATEVER THE INPUT: true; the input reads as it did. -/
def modelPrefixSpec : ChangeSpec := { name := "modelPrefix", fn := fun _ => fun
  | [d1, d2, d3] => { results := [.lit (.bool true)], args := [d1, d2, d3] }
  | _ => none }
def modelPrefixRow : OpenClaim := { program := "ytphfgbbbejloaaagreatdoor", sum := "f811672bd91fb13991bf709fb54d4be4d2ec025623ed1c3f12f7543821c43e29", func := "tegula/tegulalaw48.ModelPrefix", spec := "modelPrefix", inPlace := ["internal/bytealg.IndexByteString", "internal/bytealg.IndexString", "maps.clone"], unfollowed := true, recurses := true, named := ["unicode/utf8.first", "unicode/utf8.acceptRanges", "internal/bytealg.MaxLen"], apart := false, laid := [("unicode/utf8.acceptRanges", laid_unicode_utf8_acceptRanges), ("unicode/utf8.first", laid_unicode_utf8_first)] }
def ModelPrefixSaid : Prop := modelPrefixRow.holds Tryz.pinned (OpenSpec.ofChange modelPrefixSpec)

/-- ITS FALSE NEIGHBOUR: 'it returns false'. Refute it at one input. -/
def modelPrefixWrong : ChangeSpec := { name := "modelPrefix", fn := fun _ => fun
  | [d1, d2, d3] => { results := [.lit (.bool false)], args := [d1, d2, d3] }
  | _ => none }
def ModelPrefixWrongFalsely : Prop := modelPrefixRow.holds Tryz.pinned (OpenSpec.ofChange modelPrefixWrong)

/-- 'tegulalaw48.ModelSame': WHATEVER THE INPUT: true; the input reads as it did. -/
def modelSameSpec : ChangeSpec := { name := "modelSame", fn := fun _ => fun
  | [d1, d2, d3] => { results := [.lit (.bool true)], args := [d1, d2, d3] }
  | _ => none }
def modelSameRow : OpenClaim := { program := "ytphfgbbbejloaaagreatdoor", sum := "f811672bd91fb13991bf709fb54d4be4d2ec025623ed1c3f12f7543821c43e29", func := "tegula/tegulalaw48.ModelSame", spec := "modelSame", inPlace := ["internal/bytealg.IndexByteString", "internal/bytealg.IndexString", "maps.clone"], unfollowed := true, recurses := true, named := ["unicode/utf8.first", "unicode/utf8.acceptRanges", "internal/bytealg.MaxLen"], apart := false, laid := [("unicode/utf8.acceptRanges", laid_unicode_utf8_acceptRanges), ("unicode/utf8.first", laid_unicode_utf8_first)] }
def ModelSameSaid : Prop := modelSameRow.holds Tryz.pinned (OpenSpec.ofChange modelSameSpec)

/-- ITS FALSE NEIGHBOUR: 'it returns false'. Refute it at one input. -/
def modelSameWrong : ChangeSpec := { name := "modelSame", fn := fun _ => fun
  | [d1, d2, d3] => { results := [.lit (.bool false)], args := [d1, d2, d3] }
  | _ => none }
def ModelSameWrongFalsely : Prop := modelSameRow.holds Tryz.pinned (OpenSpec.ofChange modelSameWrong)

/-- 'tegulalaw48.ModelOrders': WHATEVER THE INPUT: true; the input reads as it did. -/
def modelOrdersSpec : ChangeSpec := { name := "modelOrders", fn := fun _ => fun
  | [d1, d2, d3] => { results := [.lit (.bool true)], args := [d1, d2, d3] }
  | _ => none }
def modelOrdersRow : OpenClaim := { program := "ytphfgbbbejloaaagreatdoor", sum := "f811672bd91fb13991bf709fb54d4be4d2ec025623ed1c3f12f7543821c43e29", func := "tegula/tegulalaw48.ModelOrders", spec := "modelOrders", inPlace := ["internal/bytealg.IndexByteString", "internal/bytealg.IndexString", "maps.clone"], unfollowed := true, recurses := true, named := ["unicode/utf8.first", "unicode/utf8.acceptRanges", "internal/bytealg.MaxLen"], apart := false, laid := [("unicode/utf8.acceptRanges", laid_unicode_utf8_acceptRanges), ("unicode/utf8.first", laid_unicode_utf8_first)] }
def ModelOrdersSaid : Prop := modelOrdersRow.holds Tryz.pinned (OpenSpec.ofChange modelOrdersSpec)

/-- ITS FALSE NEIGHBOUR: 'it returns false'. Refute it at one input. -/
def modelOrdersWrong : ChangeSpec := { name := "modelOrders", fn := fun _ => fun
  | [d1, d2, d3] => { results := [.lit (.bool false)], args := [d1, d2, d3] }
  | _ => none }
def ModelOrdersWrongFalsely : Prop := modelOrdersRow.holds Tryz.pinned (OpenSpec.ofChange modelOrdersWrong)

/-- 'tegulalaw48.ModelCommutes': WHATEVER THE INPUT: true; the input reads as it did. -/
def modelCommutesSpec : ChangeSpec := { name := "modelCommutes", fn := fun _ => fun
  | [d1, d2, d3] => { results := [.lit (.bool true)], args := [d1, d2, d3] }
  | _ => none }
def modelCommutesRow : OpenClaim := { program := "ytphfgbbbejloaaagreatdoor", sum := "f811672bd91fb13991bf709fb54d4be4d2ec025623ed1c3f12f7543821c43e29", func := "tegula/tegulalaw48.ModelCommutes", spec := "modelCommutes", inPlace := ["internal/bytealg.IndexByteString", "internal/bytealg.IndexString", "maps.clone"], unfollowed := true, recurses := true, named := ["unicode/utf8.first", "unicode/utf8.acceptRanges", "internal/bytealg.MaxLen"], apart := false, laid := [("unicode/utf8.acceptRanges", laid_unicode_utf8_acceptRanges), ("unicode/utf8.first", laid_unicode_utf8_first)] }
def ModelCommutesSaid : Prop := modelCommutesRow.holds Tryz.pinned (OpenSpec.ofChange modelCommutesSpec)

/-- ITS FALSE NEIGHBOUR: 'it returns false'. Refute it at one input. -/
def modelCommutesWrong : ChangeSpec := { name := "modelCommutes", fn := fun _ => fun
  | [d1, d2, d3] => { results := [.lit (.bool false)], args := [d1, d2, d3] }
  | _ => none }
def ModelCommutesWrongFalsely : Prop := modelCommutesRow.holds Tryz.pinned (OpenSpec.ofChange modelCommutesWrong)

/- THE SECOND FORM. 'bulk': how many values and letters a reading holds, each counted each time it is reached (what is shared counts as often as it is met; a slice's spare places count too). A statement '..UptoSaid' is the law's where the arguments, and the package variables that the reading takes, are together of bulk at most 1048576: NARROWER than '..Said'. Prove '..Said' where nothing that the law and all that it calls make is longer than what came in: it says more and counts as full. Else prove '..UptoSaid'. A law counts once. -/
mutual
def uptoBulk {H : Type} : DataW H → Nat
  | .lit (.string bytes) => bytes.length + 1
  | .lit _ => 1
  | .nil => 1
  | .ptr d => uptoBulk d + 1
  | .slice elems spare => uptoBulkAll elems + uptoBulkAll spare + 1
  | .agg parts => uptoBulkAll parts + 1
  | .iface _ d => uptoBulk d + 1
  | .map entries => uptoBulkEntries entries + 1
  | .held _ => 1
def uptoBulkAll {H : Type} : List (DataW H) → Nat
  | [] => 0
  | d :: r => uptoBulk d + uptoBulkAll r
def uptoBulkEntries {H : Type} : List (Lit × DataW H) → Nat
  | [] => 0
  | x :: r => uptoBulkEntry x + uptoBulkEntries r
def uptoBulkEntry {H : Type} : Lit × DataW H → Nat
  | (.string bytes, d) => bytes.length + uptoBulk d + 1
  | (_, d) => uptoBulk d + 1
 end
def uptoSmall : (H : Type) → List (DataW H) → Bool := fun _ ds => decide (uptoBulkAll ds ≤ 1048576)
def OpenSpec.upto (s : _root_.Go.ChangeSpec) : _root_.Go.OpenSpec := { _root_.Go.OpenSpec.ofChange s with cond := some uptoSmall }

/-- 'tegulalaw48.ModelScript', WHERE WHAT IT READS IS OF BULK AT MOST 1048576: true; the input reads as it did. -/
def modelScriptUptoRow : OpenClaim := { program := "ytphfgbbbejloaaagreatdoor", sum := "f811672bd91fb13991bf709fb54d4be4d2ec025623ed1c3f12f7543821c43e29", func := "tegula/tegulalaw48.ModelScript", spec := "modelScript", inPlace := ["internal/bytealg.IndexByteString", "internal/bytealg.IndexString", "maps.clone"], unfollowed := true, recurses := true, named := ["unicode/utf8.first", "unicode/utf8.acceptRanges", "internal/bytealg.MaxLen"], apart := false, laid := [("unicode/utf8.acceptRanges", laid_unicode_utf8_acceptRanges), ("unicode/utf8.first", laid_unicode_utf8_first)], narrowed := true }
def ModelScriptUptoSaid : Prop := modelScriptUptoRow.holds Tryz.pinned (OpenSpec.upto modelScriptSpec)

/-- 'tegulalaw48.ModelCut', WHERE WHAT IT READS IS OF BULK AT MOST 1048576: true; the input reads as it did. -/
def modelCutUptoRow : OpenClaim := { program := "ytphfgbbbejloaaagreatdoor", sum := "f811672bd91fb13991bf709fb54d4be4d2ec025623ed1c3f12f7543821c43e29", func := "tegula/tegulalaw48.ModelCut", spec := "modelCut", inPlace := ["internal/bytealg.IndexByteString", "internal/bytealg.IndexString", "maps.clone"], unfollowed := true, recurses := true, named := ["unicode/utf8.first", "unicode/utf8.acceptRanges", "internal/bytealg.MaxLen"], apart := false, laid := [("unicode/utf8.acceptRanges", laid_unicode_utf8_acceptRanges), ("unicode/utf8.first", laid_unicode_utf8_first)], narrowed := true }
def ModelCutUptoSaid : Prop := modelCutUptoRow.holds Tryz.pinned (OpenSpec.upto modelCutSpec)

/-- 'tegulalaw48.ModelClones', WHERE WHAT IT READS IS OF BULK AT MOST 1048576: true; the input reads as it did. -/
def modelClonesUptoRow : OpenClaim := { program := "ytphfgbbbejloaaagreatdoor", sum := "f811672bd91fb13991bf709fb54d4be4d2ec025623ed1c3f12f7543821c43e29", func := "tegula/tegulalaw48.ModelClones", spec := "modelClones", inPlace := ["internal/bytealg.IndexByteString", "internal/bytealg.IndexString", "maps.clone"], unfollowed := true, recurses := true, named := ["unicode/utf8.first", "unicode/utf8.acceptRanges", "internal/bytealg.MaxLen"], apart := false, laid := [("unicode/utf8.acceptRanges", laid_unicode_utf8_acceptRanges), ("unicode/utf8.first", laid_unicode_utf8_first)], narrowed := true }
def ModelClonesUptoSaid : Prop := modelClonesUptoRow.holds Tryz.pinned (OpenSpec.upto modelClonesSpec)

/-- 'tegulalaw48.ModelReserved', WHERE WHAT IT READS IS OF BULK AT MOST 1048576: true; the input reads as it did. -/
def modelReservedUptoRow : OpenClaim := { program := "ytphfgbbbejloaaagreatdoor", sum := "f811672bd91fb13991bf709fb54d4be4d2ec025623ed1c3f12f7543821c43e29", func := "tegula/tegulalaw48.ModelReserved", spec := "modelReserved", inPlace := ["internal/bytealg.IndexByteString", "internal/bytealg.IndexString", "maps.clone"], unfollowed := true, recurses := true, named := ["unicode/utf8.first", "unicode/utf8.acceptRanges", "internal/bytealg.MaxLen"], apart := false, laid := [("unicode/utf8.acceptRanges", laid_unicode_utf8_acceptRanges), ("unicode/utf8.first", laid_unicode_utf8_first)], narrowed := true }
def ModelReservedUptoSaid : Prop := modelReservedUptoRow.holds Tryz.pinned (OpenSpec.upto modelReservedSpec)

/-- 'tegulalaw48.ModelPrefix', WHERE WHAT IT READS IS OF BULK AT MOST 1048576: true; the input reads as it did. -/
def modelPrefixUptoRow : OpenClaim := { program := "ytphfgbbbejloaaagreatdoor", sum := "f811672bd91fb13991bf709fb54d4be4d2ec025623ed1c3f12f7543821c43e29", func := "tegula/tegulalaw48.ModelPrefix", spec := "modelPrefix", inPlace := ["internal/bytealg.IndexByteString", "internal/bytealg.IndexString", "maps.clone"], unfollowed := true, recurses := true, named := ["unicode/utf8.first", "unicode/utf8.acceptRanges", "internal/bytealg.MaxLen"], apart := false, laid := [("unicode/utf8.acceptRanges", laid_unicode_utf8_acceptRanges), ("unicode/utf8.first", laid_unicode_utf8_first)], narrowed := true }
def ModelPrefixUptoSaid : Prop := modelPrefixUptoRow.holds Tryz.pinned (OpenSpec.upto modelPrefixSpec)

/-- 'tegulalaw48.ModelSame', WHERE WHAT IT READS IS OF BULK AT MOST 1048576: true; the input reads as it did. -/
def modelSameUptoRow : OpenClaim := { program := "ytphfgbbbejloaaagreatdoor", sum := "f811672bd91fb13991bf709fb54d4be4d2ec025623ed1c3f12f7543821c43e29", func := "tegula/tegulalaw48.ModelSame", spec := "modelSame", inPlace := ["internal/bytealg.IndexByteString", "internal/bytealg.IndexString", "maps.clone"], unfollowed := true, recurses := true, named := ["unicode/utf8.first", "unicode/utf8.acceptRanges", "internal/bytealg.MaxLen"], apart := false, laid := [("unicode/utf8.acceptRanges", laid_unicode_utf8_acceptRanges), ("unicode/utf8.first", laid_unicode_utf8_first)], narrowed := true }
def ModelSameUptoSaid : Prop := modelSameUptoRow.holds Tryz.pinned (OpenSpec.upto modelSameSpec)

/-- 'tegulalaw48.ModelOrders', WHERE WHAT IT READS IS OF BULK AT MOST 1048576: true; the input reads as it did. -/
def modelOrdersUptoRow : OpenClaim := { program := "ytphfgbbbejloaaagreatdoor", sum := "f811672bd91fb13991bf709fb54d4be4d2ec025623ed1c3f12f7543821c43e29", func := "tegula/tegulalaw48.ModelOrders", spec := "modelOrders", inPlace := ["internal/bytealg.IndexByteString", "internal/bytealg.IndexString", "maps.clone"], unfollowed := true, recurses := true, named := ["unicode/utf8.first", "unicode/utf8.acceptRanges", "internal/bytealg.MaxLen"], apart := false, laid := [("unicode/utf8.acceptRanges", laid_unicode_utf8_acceptRanges), ("unicode/utf8.first", laid_unicode_utf8_first)], narrowed := true }
def ModelOrdersUptoSaid : Prop := modelOrdersUptoRow.holds Tryz.pinned (OpenSpec.upto modelOrdersSpec)

/-- 'tegulalaw48.ModelCommutes', WHERE WHAT IT READS IS OF BULK AT MOST 1048576: true; the input reads as it did. -/
def modelCommutesUptoRow : OpenClaim := { program := "ytphfgbbbejloaaagreatdoor", sum := "f811672bd91fb13991bf709fb54d4be4d2ec025623ed1c3f12f7543821c43e29", func := "tegula/tegulalaw48.ModelCommutes", spec := "modelCommutes", inPlace := ["internal/bytealg.IndexByteString", "internal/bytealg.IndexString", "maps.clone"], unfollowed := true, recurses := true, named := ["unicode/utf8.first", "unicode/utf8.acceptRanges", "internal/bytealg.MaxLen"], apart := false, laid := [("unicode/utf8.acceptRanges", laid_unicode_utf8_acceptRanges), ("unicode/utf8.first", laid_unicode_utf8_first)], narrowed := true }
def ModelCommutesUptoSaid : Prop := modelCommutesUptoRow.holds Tryz.pinned (OpenSpec.upto modelCommutesSpec)

end Rows
end Go.Proofs.YtphfgbbbejloaaaGreatDoor
