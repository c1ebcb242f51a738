/- ModelScript: the row's closed facts. Conditions: as each theorem says. -/
import Derived.Test.YtphfgbbbejloaaaGreatDoorModelScriptL
set_option linter.unusedSimpArgs false
set_option linter.unusedVariables false
set_option maxRecDepth 100000
set_option maxHeartbeats 16000000
namespace Go.Proofs.YtphfgbbbejloaaaGreatDoor.ModelScript
open Go.RowKit
open Go.ChangeShapes Go.WideShapes Go.ChangeAt
theorem c0:Rows.modelScriptRow.wf (OpenSpec.ofChange Rows.modelScriptSpec)=true:=kR
theorem c1:laidOutB Tryz.pinned.checked.prog=true:=kR
theorem c2:mapsRowed Tryz.pinned.checked.prog=true:=kR
theorem c3:Tryz.f3.params.all (Tryz.pinned.checked.prog.readableRec ·)=true:=kR
theorem c4:namedTie Tryz.pinned.checked.prog Rows.modelScriptRow.named Rows.modelScriptSpec.vars=true:=kR
theorem c5:(Rows.modelScriptRow.stops== [])=true:=kR
theorem c6:(Tryz.pinned.checked.prog.stops== [])=true:=kR
theorem c7:(Rows.modelScriptRow.knobs== [])=true:=kR
theorem c8:(Tryz.pinned.checked.prog.stopKnobs== [])=true:=kR
theorem c9:(Rows.modelScriptRow.inPlace==Tryz.pinned.checked.prog.inPlace 3)=true:=kR
theorem c10:(Rows.modelScriptRow.unfollowed==Tryz.pinned.checked.prog.unfollowed 3)=true:=kR
theorem c11:(Rows.modelScriptRow.recurses==Tryz.pinned.checked.prog.recurses 3)=true:=kR
theorem c12:(Rows.modelScriptRow.named==Tryz.pinned.checked.prog.varsNamed 3)=true:=kR
theorem c13:(Rows.modelScriptRow.maps==(Tryz.f3.params.toList++Rows.modelScriptSpec.plain.varTypes Tryz.pinned.checked.prog).any (Tryz.pinned.checked.prog.mapsRec ·))=true:=kR
theorem c14:(Rows.modelScriptRow.ifaces==(Tryz.f3.params.toList++Rows.modelScriptSpec.plain.varTypes Tryz.pinned.checked.prog).any (Tryz.pinned.checked.prog.ifacesRec ·))=true:=kR
theorem c15:(Rows.modelScriptRow.mapsOut==Tryz.pinned.checked.prog.mapsAmong Tryz.f3.resultTypes.toList)=true:=kR
theorem c16:(Rows.modelScriptRow.loops==(Tryz.f3.params.toList++Rows.modelScriptSpec.plain.varTypes Tryz.pinned.checked.prog).any (Tryz.pinned.checked.prog.loopsFrom ·))=true:=kR
theorem c17:(Rows.modelScriptRow.wideKeys==(Tryz.f3.params.toList++Rows.modelScriptSpec.plain.varTypes Tryz.pinned.checked.prog++Tryz.f3.resultTypes.toList).any (Tryz.pinned.checked.prog.wideKeysFrom ·))=true:=kR
theorem c18:Rows.modelScriptSpec.vars.all (Tryz.pinned.checked.prog.varReadable ·)=true:=kR
theorem c19:Tryz.f3.resultTypes.all (fun t=>Tryz.pinned.checked.prog.readableRec t&&decide (t<Tryz.pinned.checked.prog.types.size))=true:=kR
theorem c20:(Rows.modelScriptRow.ifacesOut==Tryz.f3.resultTypes.toList.any (Tryz.pinned.checked.prog.ifacesRec ·))=true:=kR
theorem c21:(Rows.modelScriptRow.loopsOut==Tryz.f3.resultTypes.toList.any (Tryz.pinned.checked.prog.loopsFrom ·))=true:=kR
theorem c22:(Rows.modelScriptRow.plainKeys==Tryz.pinned.checked.prog.plainKeys)=true:=kR
theorem c23:Rows.modelScriptRow.shortTexts.isNone=true:=kR
theorem c24:Tryz.pinned.checked.prog.stopsHeard=true:=kR
theorem c25:Tryz.pinned.checked.prog.mayEnter=true:=kR
theorem c26:(Rows.modelScriptRow.lifted==Tryz.pinned.checked.prog.liftsFinal)=true:=kR
theorem c27:(Tryz.pinned.checked.prog.make==some Rows.modelScriptRow.make)=true:=kR
theorem c28:(Rows.modelScriptRow.kinds==(if Rows.modelScriptRow.domain.isEmpty then []else Tryz.f3.params.toList.map fun t=>match Tryz.pinned.checked.prog.underlying t with|some (.int k)=>some k|_=>none))=true:=kR
theorem c29:(Rows.modelScriptRow.pinned==Rows.modelScriptRow.pinnedBy)=true:=kR
theorem c30:(Rows.modelScriptRow.veiled==(Tryz.f3.params.toList++Rows.modelScriptSpec.plain.varTypes Tryz.pinned.checked.prog++Tryz.f3.resultTypes.toList).any (Tryz.pinned.checked.prog.veiledRec ·))=true:=kR
theorem c31:Rows.modelScriptRow.veiledFits Tryz.pinned.checked.prog Tryz.f3.params.toList (Tryz.f3.params.toList++Rows.modelScriptSpec.plain.varTypes Tryz.pinned.checked.prog++Tryz.f3.resultTypes.toList)=true:=kR
end Go.Proofs.YtphfgbbbejloaaaGreatDoor.ModelScript
