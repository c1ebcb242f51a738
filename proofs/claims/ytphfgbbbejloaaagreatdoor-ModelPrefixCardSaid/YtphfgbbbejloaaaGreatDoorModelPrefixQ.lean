/- ModelPrefix: the row's closed facts. Conditions: as each theorem says. -/
import Derived.Test.YtphfgbbbejloaaaGreatDoorModelPrefixL
set_option maxRecDepth 100000
set_option maxHeartbeats 16000000
namespace Go.Proofs.YtphfgbbbejloaaaGreatDoor.ModelPrefix
open Go.RowKit
open Go.ChangeShapes Go.WideShapes Go.ChangeAt
abbrev rr:=Rows.modelPrefixRow
abbrev ss:=Rows.modelPrefixSpec
theorem c0:rr.wf (OpenSpec.ofChange ss)=true:=kR
theorem c1:laidOutB Tryz.pinned.checked.prog=true:=kR
theorem c2:mapsRowed Tryz.pinned.checked.prog=true:=kR
theorem c3:Tryz.f7.params.all (Tryz.pinned.checked.prog.readableRec ·)=true:=kR
theorem c4:namedTie Tryz.pinned.checked.prog rr.named ss.vars=true:=kR
theorem c5:(rr.stops== [])=true:=kR
theorem c6:(Tryz.pinned.checked.prog.stops== [])=true:=kR
theorem c7:(rr.knobs== [])=true:=kR
theorem c8:(Tryz.pinned.checked.prog.stopKnobs== [])=true:=kR
theorem c9:(rr.inPlace==Tryz.pinned.checked.prog.inPlace 7)=true:=kR
theorem c10:(rr.unfollowed==Tryz.pinned.checked.prog.unfollowed 7)=true:=kR
theorem c11:(rr.recurses==Tryz.pinned.checked.prog.recurses 7)=true:=kR
theorem c12:(rr.named==Tryz.pinned.checked.prog.varsNamed 7)=true:=kR
theorem c13:(rr.maps==(Tryz.f7.params.toList++ss.plain.varTypes Tryz.pinned.checked.prog).any (Tryz.pinned.checked.prog.mapsRec ·))=true:=kR
theorem c14:(rr.ifaces==(Tryz.f7.params.toList++ss.plain.varTypes Tryz.pinned.checked.prog).any (Tryz.pinned.checked.prog.ifacesRec ·))=true:=kR
theorem c15:(rr.mapsOut==Tryz.pinned.checked.prog.mapsAmong Tryz.f7.resultTypes.toList)=true:=kR
theorem c16:(rr.loops==(Tryz.f7.params.toList++ss.plain.varTypes Tryz.pinned.checked.prog).any (Tryz.pinned.checked.prog.loopsFrom ·))=true:=kR
theorem c17:(rr.wideKeys==(Tryz.f7.params.toList++ss.plain.varTypes Tryz.pinned.checked.prog++Tryz.f7.resultTypes.toList).any (Tryz.pinned.checked.prog.wideKeysFrom ·))=true:=kR
theorem c18:ss.vars.all (Tryz.pinned.checked.prog.varReadable ·)=true:=kR
theorem c19:Tryz.f7.resultTypes.all (fun t=>Tryz.pinned.checked.prog.readableRec t&&decide (t<Tryz.pinned.checked.prog.types.size))=true:=kR
theorem c20:(rr.ifacesOut==Tryz.f7.resultTypes.toList.any (Tryz.pinned.checked.prog.ifacesRec ·))=true:=kR
theorem c21:(rr.loopsOut==Tryz.f7.resultTypes.toList.any (Tryz.pinned.checked.prog.loopsFrom ·))=true:=kR
theorem c22:(rr.plainKeys==Tryz.pinned.checked.prog.plainKeys)=true:=kR
theorem c23:rr.shortTexts.isNone=true:=kR
theorem c24:Tryz.pinned.checked.prog.stopsHeard=true:=kR
theorem c25:Tryz.pinned.checked.prog.mayEnter=true:=kR
theorem c26:(rr.lifted==Tryz.pinned.checked.prog.liftsFinal)=true:=kR
theorem c27:(Tryz.pinned.checked.prog.make==some rr.make)=true:=kR
theorem c28:(rr.kinds==(if rr.domain.isEmpty then []else Tryz.f7.params.toList.map fun t=>match Tryz.pinned.checked.prog.underlying t with|some (.int k)=>some k|_=>none))=true:=kR
theorem c29:(rr.pinned==rr.pinnedBy)=true:=kR
theorem c30:(rr.veiled==(Tryz.f7.params.toList++ss.plain.varTypes Tryz.pinned.checked.prog++Tryz.f7.resultTypes.toList).any (Tryz.pinned.checked.prog.veiledRec ·))=true:=kR
theorem c31:rr.veiledFits Tryz.pinned.checked.prog Tryz.f7.params.toList (Tryz.f7.params.toList++ss.plain.varTypes Tryz.pinned.checked.prog++Tryz.f7.resultTypes.toList)=true:=kR
end Go.Proofs.YtphfgbbbejloaaaGreatDoor.ModelPrefix
