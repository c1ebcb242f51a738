/-
  No cell of these rows narrows 'for every input' (looked for: loops, veiled, ifaces, maps, wideKeys, modest, calm, conditions, laid).
  DERIVED. THE GIVEN ROWS OF THIS SEAT. 13 by the template 'for every input the law returns true; each argument reads behind the call as it read before'; 0 by the template 'total and deterministic' (their statements: YtolhajkbamhdgaaTotals.lean).
  GIVEN WITH THE SEED: the statements are not yours to turn. If you find one false, say at which input.
  Laid BY PROGRAM, IN A SANDBOX (cutbox-rows.mjs): the forced cells as the released guide's own fill.sh prints them over the translation e14a5ea877dd9965… (all of the seat's roots in one cut). By AI agents, Wed Nov 11 2026. No macro, syntax, notation, axiom, sorry.
-/
import Derived.Test.YtolhajkbamhdgaaChecked
import GoSem.Claim
import GoSem.ClaimJoined
import GoSem.ClaimMapViews
import Derived.JoinedTies
import Derived.KernelRfl
namespace Go.Proofs.Ytolhajkbamhdgaa
/- THE CELL 'sum', in the pinned program and in every row, IS THE sha256 OF THE DUMP (.gsa) THAT YtolhajkbamhdgaaProg.lean LOADS. Nothing in Lean hashes anything: it is a label: what it is worth is what the hold of that sum in a sandbox is worth. -/
noncomputable def Try.pinned : Pinned := { name := "ytolhajkbamhdgaa", sum := "e14a5ea877dd996538d01917f366670838eb7271fcb200405ad4e57ddc9dcc88", checked := Try.checked }
namespace Rows
def none {H : Type} : Left H := { results := [], args := [] }

/-- 'tegulalaw34.RefcountScript': WHATEVER THE INPUT: true; the input reads as it did. -/
def refcountScriptSpec : ChangeSpec := { name := "refcountScript", fn := fun _ => fun
  | [d1, d2] => { results := [.lit (.bool true)], args := [d1, d2] }
  | _ => none }
def refcountScriptRow : OpenClaim := { program := "ytolhajkbamhdgaa", sum := "e14a5ea877dd996538d01917f366670838eb7271fcb200405ad4e57ddc9dcc88", func := "tegula/tegulalaw34.RefcountScript", spec := "refcountScript", unfollowed := true, recurses := true, apart := false }
def RefcountScriptSaid : Prop := refcountScriptRow.holds Try.pinned (OpenSpec.ofChange refcountScriptSpec)

/-- ITS FALSE NEIGHBOUR: 'it returns false'. Refute it at one input. -/
def refcountScriptWrong : ChangeSpec := { name := "refcountScript", fn := fun _ => fun
  | [d1, d2] => { results := [.lit (.bool false)], args := [d1, d2] }
  | _ => none }
def RefcountScriptWrongFalsely : Prop := refcountScriptRow.holds Try.pinned (OpenSpec.ofChange refcountScriptWrong)

/-- 'tegulalaw34.RefcountInverse': WHATEVER THE INPUT: true; the input reads as it did. -/
def refcountInverseSpec : ChangeSpec := { name := "refcountInverse", fn := fun _ => fun
  | [d1, d2, d3] => { results := [.lit (.bool true)], args := [d1, d2, d3] }
  | _ => none }
def refcountInverseRow : OpenClaim := { program := "ytolhajkbamhdgaa", sum := "e14a5ea877dd996538d01917f366670838eb7271fcb200405ad4e57ddc9dcc88", func := "tegula/tegulalaw34.RefcountInverse", spec := "refcountInverse", unfollowed := true, recurses := true, apart := false }
def RefcountInverseSaid : Prop := refcountInverseRow.holds Try.pinned (OpenSpec.ofChange refcountInverseSpec)

/-- ITS FALSE NEIGHBOUR: 'it returns false'. Refute it at one input. -/
def refcountInverseWrong : ChangeSpec := { name := "refcountInverse", fn := fun _ => fun
  | [d1, d2, d3] => { results := [.lit (.bool false)], args := [d1, d2, d3] }
  | _ => none }
def RefcountInverseWrongFalsely : Prop := refcountInverseRow.holds Try.pinned (OpenSpec.ofChange refcountInverseWrong)

/-- 'tegulalaw34.RefcountSums': WHATEVER THE INPUT: true; the input reads as it did. -/
def refcountSumsSpec : ChangeSpec := { name := "refcountSums", fn := fun _ => fun
  | [d1, d2, d3] => { results := [.lit (.bool true)], args := [d1, d2, d3] }
  | _ => none }
def refcountSumsRow : OpenClaim := { program := "ytolhajkbamhdgaa", sum := "e14a5ea877dd996538d01917f366670838eb7271fcb200405ad4e57ddc9dcc88", func := "tegula/tegulalaw34.RefcountSums", spec := "refcountSums", unfollowed := true, recurses := true, apart := false }
def RefcountSumsSaid : Prop := refcountSumsRow.holds Try.pinned (OpenSpec.ofChange refcountSumsSpec)

/-- ITS FALSE NEIGHBOUR: 'it returns false'. Refute it at one input. -/
def refcountSumsWrong : ChangeSpec := { name := "refcountSums", fn := fun _ => fun
  | [d1, d2, d3] => { results := [.lit (.bool false)], args := [d1, d2, d3] }
  | _ => none }
def RefcountSumsWrongFalsely : Prop := refcountSumsRow.holds Try.pinned (OpenSpec.ofChange refcountSumsWrong)

/-- 'tegulalaw34.RefcountValues': WHATEVER THE INPUT: true; the input reads as it did. -/
def refcountValuesSpec : ChangeSpec := { name := "refcountValues", fn := fun _ => fun
  | [d1, d2, d3] => { results := [.lit (.bool true)], args := [d1, d2, d3] }
  | _ => none }
def refcountValuesRow : OpenClaim := { program := "ytolhajkbamhdgaa", sum := "e14a5ea877dd996538d01917f366670838eb7271fcb200405ad4e57ddc9dcc88", func := "tegula/tegulalaw34.RefcountValues", spec := "refcountValues", unfollowed := true, recurses := true, apart := false }
def RefcountValuesSaid : Prop := refcountValuesRow.holds Try.pinned (OpenSpec.ofChange refcountValuesSpec)

/-- ITS FALSE NEIGHBOUR: 'it returns false'. Refute it at one input. -/
def refcountValuesWrong : ChangeSpec := { name := "refcountValues", fn := fun _ => fun
  | [d1, d2, d3] => { results := [.lit (.bool false)], args := [d1, d2, d3] }
  | _ => none }
def RefcountValuesWrongFalsely : Prop := refcountValuesRow.holds Try.pinned (OpenSpec.ofChange refcountValuesWrong)

/-- 'tegulalaw34.RefcountNew': WHATEVER THE INPUT: true; the input reads as it did. -/
def refcountNewSpec : ChangeSpec := { name := "refcountNew", fn := fun _ => fun
  | [d] => { results := [.lit (.bool true)], args := [d] }
  | _ => none }
def refcountNewRow : OpenClaim := { program := "ytolhajkbamhdgaa", sum := "e14a5ea877dd996538d01917f366670838eb7271fcb200405ad4e57ddc9dcc88", func := "tegula/tegulalaw34.RefcountNew", spec := "refcountNew", unfollowed := true, recurses := true, apart := false }
def RefcountNewSaid : Prop := refcountNewRow.holds Try.pinned (OpenSpec.ofChange refcountNewSpec)

/-- ITS FALSE NEIGHBOUR: 'it returns false'. Refute it at one input. -/
def refcountNewWrong : ChangeSpec := { name := "refcountNew", fn := fun _ => fun
  | [d] => { results := [.lit (.bool false)], args := [d] }
  | _ => none }
def RefcountNewWrongFalsely : Prop := refcountNewRow.holds Try.pinned (OpenSpec.ofChange refcountNewWrong)

/-- 'tegulalaw34.RefcountLarge': WHATEVER THE INPUT: true; the input reads as it did. -/
def refcountLargeSpec : ChangeSpec := { name := "refcountLarge", fn := fun _ => fun
  | [d1, d2] => { results := [.lit (.bool true)], args := [d1, d2] }
  | _ => none }
def refcountLargeRow : OpenClaim := { program := "ytolhajkbamhdgaa", sum := "e14a5ea877dd996538d01917f366670838eb7271fcb200405ad4e57ddc9dcc88", func := "tegula/tegulalaw34.RefcountLarge", spec := "refcountLarge", unfollowed := true, recurses := true, apart := false }
def RefcountLargeSaid : Prop := refcountLargeRow.holds Try.pinned (OpenSpec.ofChange refcountLargeSpec)

/-- ITS FALSE NEIGHBOUR: 'it returns false'. Refute it at one input. -/
def refcountLargeWrong : ChangeSpec := { name := "refcountLarge", fn := fun _ => fun
  | [d1, d2] => { results := [.lit (.bool false)], args := [d1, d2] }
  | _ => none }
def RefcountLargeWrongFalsely : Prop := refcountLargeRow.holds Try.pinned (OpenSpec.ofChange refcountLargeWrong)

/-- 'tegulalaw35.AllocLarge': WHATEVER THE INPUT: true; the input reads as it did. -/
def allocLargeSpec : ChangeSpec := { name := "allocLarge", fn := fun _ => fun
  | [d] => { results := [.lit (.bool true)], args := [d] }
  | _ => none }
def allocLargeRow : OpenClaim := { program := "ytolhajkbamhdgaa", sum := "e14a5ea877dd996538d01917f366670838eb7271fcb200405ad4e57ddc9dcc88", func := "tegula/tegulalaw35.AllocLarge", spec := "allocLarge", unfollowed := true, recurses := true, apart := false }
def AllocLargeSaid : Prop := allocLargeRow.holds Try.pinned (OpenSpec.ofChange allocLargeSpec)

/-- ITS FALSE NEIGHBOUR: 'it returns false'. Refute it at one input. -/
def allocLargeWrong : ChangeSpec := { name := "allocLarge", fn := fun _ => fun
  | [d] => { results := [.lit (.bool false)], args := [d] }
  | _ => none }
def AllocLargeWrongFalsely : Prop := allocLargeRow.holds Try.pinned (OpenSpec.ofChange allocLargeWrong)

/-- 'tegulalaw35.AllocNew': WHATEVER THE INPUT: true; the input reads as it did. -/
def allocNewSpec : ChangeSpec := { name := "allocNew", fn := fun _ => fun
  | [d] => { results := [.lit (.bool true)], args := [d] }
  | _ => none }
def allocNewRow : OpenClaim := { program := "ytolhajkbamhdgaa", sum := "e14a5ea877dd996538d01917f366670838eb7271fcb200405ad4e57ddc9dcc88", func := "tegula/tegulalaw35.AllocNew", spec := "allocNew", unfollowed := true, recurses := true, apart := false }
def AllocNewSaid : Prop := allocNewRow.holds Try.pinned (OpenSpec.ofChange allocNewSpec)

/-- ITS FALSE NEIGHBOUR: 'it returns false'. Refute it at one input. -/
def allocNewWrong : ChangeSpec := { name := "allocNew", fn := fun _ => fun
  | [d] => { results := [.lit (.bool false)], args := [d] }
  | _ => none }
def AllocNewWrongFalsely : Prop := allocNewRow.holds Try.pinned (OpenSpec.ofChange allocNewWrong)

/-- 'tegulalaw35.AllocScript': WHATEVER THE INPUT: true; the input reads as it did. -/
def allocScriptSpec : ChangeSpec := { name := "allocScript", fn := fun _ => fun
  | [d1, d2] => { results := [.lit (.bool true)], args := [d1, d2] }
  | _ => none }
def allocScriptRow : OpenClaim := { program := "ytolhajkbamhdgaa", sum := "e14a5ea877dd996538d01917f366670838eb7271fcb200405ad4e57ddc9dcc88", func := "tegula/tegulalaw35.AllocScript", spec := "allocScript", unfollowed := true, recurses := true, apart := false }
def AllocScriptSaid : Prop := allocScriptRow.holds Try.pinned (OpenSpec.ofChange allocScriptSpec)

/-- ITS FALSE NEIGHBOUR: 'it returns false'. Refute it at one input. -/
def allocScriptWrong : ChangeSpec := { name := "allocScript", fn := fun _ => fun
  | [d1, d2] => { results := [.lit (.bool false)], args := [d1, d2] }
  | _ => none }
def AllocScriptWrongFalsely : Prop := allocScriptRow.holds Try.pinned (OpenSpec.ofChange allocScriptWrong)

/-- 'tegulalaw35.AllocTake': WHATEVER THE INPUT: true; the input reads as it did. -/
def allocTakeSpec : ChangeSpec := { name := "allocTake", fn := fun _ => fun
  | [d1, d2, d3] => { results := [.lit (.bool true)], args := [d1, d2, d3] }
  | _ => none }
def allocTakeRow : OpenClaim := { program := "ytolhajkbamhdgaa", sum := "e14a5ea877dd996538d01917f366670838eb7271fcb200405ad4e57ddc9dcc88", func := "tegula/tegulalaw35.AllocTake", spec := "allocTake", unfollowed := true, recurses := true, apart := false }
def AllocTakeSaid : Prop := allocTakeRow.holds Try.pinned (OpenSpec.ofChange allocTakeSpec)

/-- ITS FALSE NEIGHBOUR: 'it returns false'. Refute it at one input. -/
def allocTakeWrong : ChangeSpec := { name := "allocTake", fn := fun _ => fun
  | [d1, d2, d3] => { results := [.lit (.bool false)], args := [d1, d2, d3] }
  | _ => none }
def AllocTakeWrongFalsely : Prop := allocTakeRow.holds Try.pinned (OpenSpec.ofChange allocTakeWrong)

/-- 'tegulalaw35.AllocRestores': WHATEVER THE INPUT: true; the input reads as it did. -/
def allocRestoresSpec : ChangeSpec := { name := "allocRestores", fn := fun _ => fun
  | [d1, d2, d3] => { results := [.lit (.bool true)], args := [d1, d2, d3] }
  | _ => none }
def allocRestoresRow : OpenClaim := { program := "ytolhajkbamhdgaa", sum := "e14a5ea877dd996538d01917f366670838eb7271fcb200405ad4e57ddc9dcc88", func := "tegula/tegulalaw35.AllocRestores", spec := "allocRestores", unfollowed := true, recurses := true, apart := false }
def AllocRestoresSaid : Prop := allocRestoresRow.holds Try.pinned (OpenSpec.ofChange allocRestoresSpec)

/-- ITS FALSE NEIGHBOUR: 'it returns false'. Refute it at one input. -/
def allocRestoresWrong : ChangeSpec := { name := "allocRestores", fn := fun _ => fun
  | [d1, d2, d3] => { results := [.lit (.bool false)], args := [d1, d2, d3] }
  | _ => none }
def AllocRestoresWrongFalsely : Prop := allocRestoresRow.holds Try.pinned (OpenSpec.ofChange allocRestoresWrong)

/-- 'tegulalaw35.AllocValues': WHATEVER THE INPUT: true; the input reads as it did. -/
def allocValuesSpec : ChangeSpec := { name := "allocValues", fn := fun _ => fun
  | [d1, d2, d3] => { results := [.lit (.bool true)], args := [d1, d2, d3] }
  | _ => none }
def allocValuesRow : OpenClaim := { program := "ytolhajkbamhdgaa", sum := "e14a5ea877dd996538d01917f366670838eb7271fcb200405ad4e57ddc9dcc88", func := "tegula/tegulalaw35.AllocValues", spec := "allocValues", unfollowed := true, recurses := true, apart := false }
def AllocValuesSaid : Prop := allocValuesRow.holds Try.pinned (OpenSpec.ofChange allocValuesSpec)

/-- ITS FALSE NEIGHBOUR: 'it returns false'. Refute it at one input. -/
def allocValuesWrong : ChangeSpec := { name := "allocValues", fn := fun _ => fun
  | [d1, d2, d3] => { results := [.lit (.bool false)], args := [d1, d2, d3] }
  | _ => none }
def AllocValuesWrongFalsely : Prop := allocValuesRow.holds Try.pinned (OpenSpec.ofChange allocValuesWrong)

/-- 'tegulalaw35.AllocFill': WHATEVER THE INPUT: true; the input reads as it did. -/
def allocFillSpec : ChangeSpec := { name := "allocFill", fn := fun _ => fun
  | [d1, d2, d3] => { results := [.lit (.bool true)], args := [d1, d2, d3] }
  | _ => none }
def allocFillRow : OpenClaim := { program := "ytolhajkbamhdgaa", sum := "e14a5ea877dd996538d01917f366670838eb7271fcb200405ad4e57ddc9dcc88", func := "tegula/tegulalaw35.AllocFill", spec := "allocFill", unfollowed := true, recurses := true, apart := false }
def AllocFillSaid : Prop := allocFillRow.holds Try.pinned (OpenSpec.ofChange allocFillSpec)

/-- ITS FALSE NEIGHBOUR: 'it returns false'. Refute it at one input. -/
def allocFillWrong : ChangeSpec := { name := "allocFill", fn := fun _ => fun
  | [d1, d2, d3] => { results := [.lit (.bool false)], args := [d1, d2, d3] }
  | _ => none }
def AllocFillWrongFalsely : Prop := allocFillRow.holds Try.pinned (OpenSpec.ofChange allocFillWrong)

/- THE SECOND FORM. 'bulk': how many values and letters a reading holds, each counted each time it is reached (what is shared counts as often as it is met; a slice's spare places count too). A statement '..UptoSaid' is the law's where the arguments, and the package variables that the reading takes, are together of bulk at most 1048576: NARROWER than '..Said'. Prove '..Said' where nothing that the law and all that it calls make is longer than what came in: it says more and counts as full. Else prove '..UptoSaid'. A law counts once. -/
mutual
def uptoBulk {H : Type} : DataW H → Nat
  | .lit (.string bytes) => bytes.length + 1
  | .lit _ => 1
  | .nil => 1
  | .ptr d => uptoBulk d + 1
  | .slice elems spare => uptoBulkAll elems + uptoBulkAll spare + 1
  | .agg parts => uptoBulkAll parts + 1
  | .iface _ d => uptoBulk d + 1
  | .map entries => uptoBulkEntries entries + 1
  | .held _ => 1
def uptoBulkAll {H : Type} : List (DataW H) → Nat
  | [] => 0
  | d :: r => uptoBulk d + uptoBulkAll r
def uptoBulkEntries {H : Type} : List (Lit × DataW H) → Nat
  | [] => 0
  | x :: r => uptoBulkEntry x + uptoBulkEntries r
def uptoBulkEntry {H : Type} : Lit × DataW H → Nat
  | (.string bytes, d) => bytes.length + uptoBulk d + 1
  | (_, d) => uptoBulk d + 1
 end
def uptoSmall : (H : Type) → List (DataW H) → Bool := fun _ ds => decide (uptoBulkAll ds ≤ 1048576)
def OpenSpec.upto (s : _root_.Go.ChangeSpec) : _root_.Go.OpenSpec := { _root_.Go.OpenSpec.ofChange s with cond := some uptoSmall }

/-- 'tegulalaw34.RefcountScript', WHERE WHAT IT READS IS OF BULK AT MOST 1048576: true; the input reads as it did. -/
def refcountScriptUptoRow : OpenClaim := { program := "ytolhajkbamhdgaa", sum := "e14a5ea877dd996538d01917f366670838eb7271fcb200405ad4e57ddc9dcc88", func := "tegula/tegulalaw34.RefcountScript", spec := "refcountScript", unfollowed := true, recurses := true, apart := false, narrowed := true }
def RefcountScriptUptoSaid : Prop := refcountScriptUptoRow.holds Try.pinned (OpenSpec.upto refcountScriptSpec)

/-- 'tegulalaw34.RefcountInverse', WHERE WHAT IT READS IS OF BULK AT MOST 1048576: true; the input reads as it did. -/
def refcountInverseUptoRow : OpenClaim := { program := "ytolhajkbamhdgaa", sum := "e14a5ea877dd996538d01917f366670838eb7271fcb200405ad4e57ddc9dcc88", func := "tegula/tegulalaw34.RefcountInverse", spec := "refcountInverse", unfollowed := true, recurses := true, apart := false, narrowed := true }
def RefcountInverseUptoSaid : Prop := refcountInverseUptoRow.holds Try.pinned (OpenSpec.upto refcountInverseSpec)

/-- 'tegulalaw34.RefcountSums', WHERE WHAT IT READS IS OF BULK AT MOST 1048576: true; the input reads as it did. -/
def refcountSumsUptoRow : OpenClaim := { program := "ytolhajkbamhdgaa", sum := "e14a5ea877dd996538d01917f366670838eb7271fcb200405ad4e57ddc9dcc88", func := "tegula/tegulalaw34.RefcountSums", spec := "refcountSums", unfollowed := true, recurses := true, apart := false, narrowed := true }
def RefcountSumsUptoSaid : Prop := refcountSumsUptoRow.holds Try.pinned (OpenSpec.upto refcountSumsSpec)

/-- 'tegulalaw34.RefcountValues', WHERE WHAT IT READS IS OF BULK AT MOST 1048576: true; the input reads as it did. -/
def refcountValuesUptoRow : OpenClaim := { program := "ytolhajkbamhdgaa", sum := "e14a5ea877dd996538d01917f366670838eb7271fcb200405ad4e57ddc9dcc88", func := "tegula/tegulalaw34.RefcountValues", spec := "refcountValues", unfollowed := true, recurses := true, apart := false, narrowed := true }
def RefcountValuesUptoSaid : Prop := refcountValuesUptoRow.holds Try.pinned (OpenSpec.upto refcountValuesSpec)

/-- 'tegulalaw34.RefcountNew', WHERE WHAT IT READS IS OF BULK AT MOST 1048576: true; the input reads as it did. -/
def refcountNewUptoRow : OpenClaim := { program := "ytolhajkbamhdgaa", sum := "e14a5ea877dd996538d01917f366670838eb7271fcb200405ad4e57ddc9dcc88", func := "tegula/tegulalaw34.RefcountNew", spec := "refcountNew", unfollowed := true, recurses := true, apart := false, narrowed := true }
def RefcountNewUptoSaid : Prop := refcountNewUptoRow.holds Try.pinned (OpenSpec.upto refcountNewSpec)

/-- 'tegulalaw34.RefcountLarge', WHERE WHAT IT READS IS OF BULK AT MOST 1048576: true; the input reads as it did. -/
def refcountLargeUptoRow : OpenClaim := { program := "ytolhajkbamhdgaa", sum := "e14a5ea877dd996538d01917f366670838eb7271fcb200405ad4e57ddc9dcc88", func := "tegula/tegulalaw34.RefcountLarge", spec := "refcountLarge", unfollowed := true, recurses := true, apart := false, narrowed := true }
def RefcountLargeUptoSaid : Prop := refcountLargeUptoRow.holds Try.pinned (OpenSpec.upto refcountLargeSpec)

/-- 'tegulalaw35.AllocLarge', WHERE WHAT IT READS IS OF BULK AT MOST 1048576: true; the input reads as it did. -/
def allocLargeUptoRow : OpenClaim := { program := "ytolhajkbamhdgaa", sum := "e14a5ea877dd996538d01917f366670838eb7271fcb200405ad4e57ddc9dcc88", func := "tegula/tegulalaw35.AllocLarge", spec := "allocLarge", unfollowed := true, recurses := true, apart := false, narrowed := true }
def AllocLargeUptoSaid : Prop := allocLargeUptoRow.holds Try.pinned (OpenSpec.upto allocLargeSpec)

/-- 'tegulalaw35.AllocNew', WHERE WHAT IT READS IS OF BULK AT MOST 1048576: true; the input reads as it did. -/
def allocNewUptoRow : OpenClaim := { program := "ytolhajkbamhdgaa", sum := "e14a5ea877dd996538d01917f366670838eb7271fcb200405ad4e57ddc9dcc88", func := "tegula/tegulalaw35.AllocNew", spec := "allocNew", unfollowed := true, recurses := true, apart := false, narrowed := true }
def AllocNewUptoSaid : Prop := allocNewUptoRow.holds Try.pinned (OpenSpec.upto allocNewSpec)

/-- 'tegulalaw35.AllocScript', WHERE WHAT IT READS IS OF BULK AT MOST 1048576: true; the input reads as it did. -/
def allocScriptUptoRow : OpenClaim := { program := "ytolhajkbamhdgaa", sum := "e14a5ea877dd996538d01917f366670838eb7271fcb200405ad4e57ddc9dcc88", func := "tegula/tegulalaw35.AllocScript", spec := "allocScript", unfollowed := true, recurses := true, apart := false, narrowed := true }
def AllocScriptUptoSaid : Prop := allocScriptUptoRow.holds Try.pinned (OpenSpec.upto allocScriptSpec)

/-- 'tegulalaw35.AllocTake', WHERE WHAT IT READS IS OF BULK AT MOST 1048576: true; the input reads as it did. -/
def allocTakeUptoRow : OpenClaim := { program := "ytolhajkbamhdgaa", sum := "e14a5ea877dd996538d01917f366670838eb7271fcb200405ad4e57ddc9dcc88", func := "tegula/tegulalaw35.AllocTake", spec := "allocTake", unfollowed := true, recurses := true, apart := false, narrowed := true }
def AllocTakeUptoSaid : Prop := allocTakeUptoRow.holds Try.pinned (OpenSpec.upto allocTakeSpec)

/-- 'tegulalaw35.AllocRestores', WHERE WHAT IT READS IS OF BULK AT MOST 1048576: true; the input reads as it did. -/
def allocRestoresUptoRow : OpenClaim := { program := "ytolhajkbamhdgaa", sum := "e14a5ea877dd996538d01917f366670838eb7271fcb200405ad4e57ddc9dcc88", func := "tegula/tegulalaw35.AllocRestores", spec := "allocRestores", unfollowed := true, recurses := true, apart := false, narrowed := true }
def AllocRestoresUptoSaid : Prop := allocRestoresUptoRow.holds Try.pinned (OpenSpec.upto allocRestoresSpec)

/-- 'tegulalaw35.AllocValues', WHERE WHAT IT READS IS OF BULK AT MOST 1048576: true; the input reads as it did. -/
def allocValuesUptoRow : OpenClaim := { program := "ytolhajkbamhdgaa", sum := "e14a5ea877dd996538d01917f366670838eb7271fcb200405ad4e57ddc9dcc88", func := "tegula/tegulalaw35.AllocValues", spec := "allocValues", unfollowed := true, recurses := true, apart := false, narrowed := true }
def AllocValuesUptoSaid : Prop := allocValuesUptoRow.holds Try.pinned (OpenSpec.upto allocValuesSpec)

/-- 'tegulalaw35.AllocFill', WHERE WHAT IT READS IS OF BULK AT MOST 1048576: true; the input reads as it did. -/
def allocFillUptoRow : OpenClaim := { program := "ytolhajkbamhdgaa", sum := "e14a5ea877dd996538d01917f366670838eb7271fcb200405ad4e57ddc9dcc88", func := "tegula/tegulalaw35.AllocFill", spec := "allocFill", unfollowed := true, recurses := true, apart := false, narrowed := true }
def AllocFillUptoSaid : Prop := allocFillUptoRow.holds Try.pinned (OpenSpec.upto allocFillSpec)

end Rows
end Go.Proofs.Ytolhajkbamhdgaa
