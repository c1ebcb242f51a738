/-
  No cell of these rows narrows 'for every input' (looked for: loops, veiled, ifaces, maps, wideKeys, modest, calm, conditions, laid).
  DERIVED. THE GIVEN ROWS OF THIS SEAT. 4 by the template 'for every input the law returns true; each argument reads behind the call as it read before'; 0 by the template 'total and deterministic' (their statements: YtbiecglooagmmaaTotals.lean).
  GIVEN WITH THE SEED: the statements are not yours to turn. If you find one false, say at which input.
  Laid BY PROGRAM, IN A SANDBOX (cutbox-rows.mjs): the forced cells as the released guide's own fill.sh prints them over the translation 34c464057bf521b7… (all of the seat's roots in one cut). By AI agents, Wed Nov 11 2026. No macro, syntax, notation, axiom, sorry.
-/
import Derived.Test.YtbiecglooagmmaaChecked
import GoSem.Claim
import GoSem.ClaimJoined
import GoSem.ClaimMapViews
import Derived.JoinedTies
import Derived.KernelRfl
namespace Go.Proofs.Ytbiecglooagmmaa
/- THE CELL 'sum', in the pinned program and in every row, IS THE sha256 OF THE DUMP (.gsa) THAT YtbiecglooagmmaaProg.lean LOADS. Nothing in Lean hashes anything: it is a label: what it is worth is what the hold of that sum in a sandbox is worth. -/
noncomputable def Try.pinned : Pinned := { name := "ytbiecglooagmmaa", sum := "34c464057bf521b76eca1dcd27daab41ad21d528dbbdd4ea89e0ed7a4dbc4f8e", checked := Try.checked }
namespace Rows
def none {H : Type} : Left H := { results := [], args := [] }

/-- 'tegulalaw17.ScanFinds': WHATEVER THE INPUT: true; the input reads as it did. -/
def scanFindsSpec : ChangeSpec := { name := "scanFinds", fn := fun _ => fun
  | [d1, d2, d3] => { results := [.lit (.bool true)], args := [d1, d2, d3] }
  | _ => none }
def scanFindsRow : OpenClaim := { program := "ytbiecglooagmmaa", sum := "34c464057bf521b76eca1dcd27daab41ad21d528dbbdd4ea89e0ed7a4dbc4f8e", func := "tegula/tegulalaw17.ScanFinds", spec := "scanFinds", unfollowed := true, recurses := true, apart := false }
def ScanFindsSaid : Prop := scanFindsRow.holds Try.pinned (OpenSpec.ofChange scanFindsSpec)

/-- ITS FALSE NEIGHBOUR: 'it returns false'. Refute it at one input. -/
def scanFindsWrong : ChangeSpec := { name := "scanFinds", fn := fun _ => fun
  | [d1, d2, d3] => { results := [.lit (.bool false)], args := [d1, d2, d3] }
  | _ => none }
def ScanFindsWrongFalsely : Prop := scanFindsRow.holds Try.pinned (OpenSpec.ofChange scanFindsWrong)

/-- 'tegulalaw17.ScanOlder': WHATEVER THE INPUT: true; the input reads as it did. -/
def scanOlderSpec : ChangeSpec := { name := "scanOlder", fn := fun _ => fun
  | [d1, d2, d3] => { results := [.lit (.bool true)], args := [d1, d2, d3] }
  | _ => none }
def scanOlderRow : OpenClaim := { program := "ytbiecglooagmmaa", sum := "34c464057bf521b76eca1dcd27daab41ad21d528dbbdd4ea89e0ed7a4dbc4f8e", func := "tegula/tegulalaw17.ScanOlder", spec := "scanOlder", unfollowed := true, recurses := true, apart := false }
def ScanOlderSaid : Prop := scanOlderRow.holds Try.pinned (OpenSpec.ofChange scanOlderSpec)

/-- ITS FALSE NEIGHBOUR: 'it returns false'. Refute it at one input. -/
def scanOlderWrong : ChangeSpec := { name := "scanOlder", fn := fun _ => fun
  | [d1, d2, d3] => { results := [.lit (.bool false)], args := [d1, d2, d3] }
  | _ => none }
def ScanOlderWrongFalsely : Prop := scanOlderRow.holds Try.pinned (OpenSpec.ofChange scanOlderWrong)

/-- 'tegulalaw17.ScanSums': WHATEVER THE INPUT: true; the input reads as it did. -/
def scanSumsSpec : ChangeSpec := { name := "scanSums", fn := fun _ => fun
  | [d1, d2, d3] => { results := [.lit (.bool true)], args := [d1, d2, d3] }
  | _ => none }
def scanSumsRow : OpenClaim := { program := "ytbiecglooagmmaa", sum := "34c464057bf521b76eca1dcd27daab41ad21d528dbbdd4ea89e0ed7a4dbc4f8e", func := "tegula/tegulalaw17.ScanSums", spec := "scanSums", unfollowed := true, recurses := true, apart := false }
def ScanSumsSaid : Prop := scanSumsRow.holds Try.pinned (OpenSpec.ofChange scanSumsSpec)

/-- ITS FALSE NEIGHBOUR: 'it returns false'. Refute it at one input. -/
def scanSumsWrong : ChangeSpec := { name := "scanSums", fn := fun _ => fun
  | [d1, d2, d3] => { results := [.lit (.bool false)], args := [d1, d2, d3] }
  | _ => none }
def ScanSumsWrongFalsely : Prop := scanSumsRow.holds Try.pinned (OpenSpec.ofChange scanSumsWrong)

/-- 'tegulalaw17.ScanWins': WHATEVER THE INPUT: true; the input reads as it did. -/
def scanWinsSpec : ChangeSpec := { name := "scanWins", fn := fun _ => fun
  | [d1, d2, d3] => { results := [.lit (.bool true)], args := [d1, d2, d3] }
  | _ => none }
def scanWinsRow : OpenClaim := { program := "ytbiecglooagmmaa", sum := "34c464057bf521b76eca1dcd27daab41ad21d528dbbdd4ea89e0ed7a4dbc4f8e", func := "tegula/tegulalaw17.ScanWins", spec := "scanWins", unfollowed := true, recurses := true, apart := false }
def ScanWinsSaid : Prop := scanWinsRow.holds Try.pinned (OpenSpec.ofChange scanWinsSpec)

/-- ITS FALSE NEIGHBOUR: 'it returns false'. Refute it at one input. -/
def scanWinsWrong : ChangeSpec := { name := "scanWins", fn := fun _ => fun
  | [d1, d2, d3] => { results := [.lit (.bool false)], args := [d1, d2, d3] }
  | _ => none }
def ScanWinsWrongFalsely : Prop := scanWinsRow.holds Try.pinned (OpenSpec.ofChange scanWinsWrong)

/- THE SECOND FORM. 'bulk': how many values and letters a reading holds, each counted each time it is reached (what is shared counts as often as it is met; a slice's spare places count too). A statement '..UptoSaid' is the law's where the arguments, and the package variables that the reading takes, are together of bulk at most 1048576: NARROWER than '..Said'. Prove '..Said' where nothing that the law and all that it calls make is longer than what came in: it says more and counts as full. Else prove '..UptoSaid'. A law counts once. -/
mutual
def uptoBulk {H : Type} : DataW H → Nat
  | .lit (.string bytes) => bytes.length + 1
  | .lit _ => 1
  | .nil => 1
  | .ptr d => uptoBulk d + 1
  | .slice elems spare => uptoBulkAll elems + uptoBulkAll spare + 1
  | .agg parts => uptoBulkAll parts + 1
  | .iface _ d => uptoBulk d + 1
  | .map entries => uptoBulkEntries entries + 1
  | .held _ => 1
def uptoBulkAll {H : Type} : List (DataW H) → Nat
  | [] => 0
  | d :: r => uptoBulk d + uptoBulkAll r
def uptoBulkEntries {H : Type} : List (Lit × DataW H) → Nat
  | [] => 0
  | x :: r => uptoBulkEntry x + uptoBulkEntries r
def uptoBulkEntry {H : Type} : Lit × DataW H → Nat
  | (.string bytes, d) => bytes.length + uptoBulk d + 1
  | (_, d) => uptoBulk d + 1
 end
def uptoSmall : (H : Type) → List (DataW H) → Bool := fun _ ds => decide (uptoBulkAll ds ≤ 1048576)
def OpenSpec.upto (s : _root_.Go.ChangeSpec) : _root_.Go.OpenSpec := { _root_.Go.OpenSpec.ofChange s with cond := some uptoSmall }

/-- 'tegulalaw17.ScanFinds', WHERE WHAT IT READS IS OF BULK AT MOST 1048576: true; the input reads as it did. -/
def scanFindsUptoRow : OpenClaim := { program := "ytbiecglooagmmaa", sum := "34c464057bf521b76eca1dcd27daab41ad21d528dbbdd4ea89e0ed7a4dbc4f8e", func := "tegula/tegulalaw17.ScanFinds", spec := "scanFinds", unfollowed := true, recurses := true, apart := false, narrowed := true }
def ScanFindsUptoSaid : Prop := scanFindsUptoRow.holds Try.pinned (OpenSpec.upto scanFindsSpec)

/-- 'tegulalaw17.ScanOlder', WHERE WHAT IT READS IS OF BULK AT MOST 1048576: true; the input reads as it did. -/
def scanOlderUptoRow : OpenClaim := { program := "ytbiecglooagmmaa", sum := "34c464057bf521b76eca1dcd27daab41ad21d528dbbdd4ea89e0ed7a4dbc4f8e", func := "tegula/tegulalaw17.ScanOlder", spec := "scanOlder", unfollowed := true, recurses := true, apart := false, narrowed := true }
def ScanOlderUptoSaid : Prop := scanOlderUptoRow.holds Try.pinned (OpenSpec.upto scanOlderSpec)

/-- 'tegulalaw17.ScanSums', WHERE WHAT IT READS IS OF BULK AT MOST 1048576: true; the input reads as it did. -/
def scanSumsUptoRow : OpenClaim := { program := "ytbiecglooagmmaa", sum := "34c464057bf521b76eca1dcd27daab41ad21d528dbbdd4ea89e0ed7a4dbc4f8e", func := "tegula/tegulalaw17.ScanSums", spec := "scanSums", unfollowed := true, recurses := true, apart := false, narrowed := true }
def ScanSumsUptoSaid : Prop := scanSumsUptoRow.holds Try.pinned (OpenSpec.upto scanSumsSpec)

/-- 'tegulalaw17.ScanWins', WHERE WHAT IT READS IS OF BULK AT MOST 1048576: true; the input reads as it did. -/
def scanWinsUptoRow : OpenClaim := { program := "ytbiecglooagmmaa", sum := "34c464057bf521b76eca1dcd27daab41ad21d528dbbdd4ea89e0ed7a4dbc4f8e", func := "tegula/tegulalaw17.ScanWins", spec := "scanWins", unfollowed := true, recurses := true, apart := false, narrowed := true }
def ScanWinsUptoSaid : Prop := scanWinsUptoRow.holds Try.pinned (OpenSpec.upto scanWinsSpec)

end Rows
end Go.Proofs.Ytbiecglooagmmaa
