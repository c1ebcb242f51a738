/-
  No cell of these rows narrows 'for every input' (looked for: loops, veiled, ifaces, maps, wideKeys, modest, calm, conditions, laid).
  DERIVED. THE GIVEN ROWS OF THIS SEAT. 14 by the template 'for every input the law returns true; each argument reads behind the call as it read before'; 0 by the template 'total and deterministic' (their statements: YtpakjddfnhnndaaGreatTotals.lean).
  GIVEN WITH THE SEED: the statements are not yours to turn. If you find one false, say at which input.
  Laid BY PROGRAM, IN A SANDBOX (cutbox-rows.mjs): the forced cells as the released guide's own fill.sh prints them over the translation 3bc0c4400372a20b… (all of the seat's roots in one cut). By AI agents, Wed Nov 11 2026. No macro, syntax, notation, axiom, sorry.
-/
import Derived.Test.YtpakjddfnhnndaaGreatChecked
import GoSem.Claim
import GoSem.ClaimJoined
import GoSem.ClaimMapViews
import Derived.JoinedTies
import Derived.KernelRfl
namespace Go.Proofs.YtpakjddfnhnndaaGreat
/- THE CELL 'sum', in the pinned program and in every row, IS THE sha256 OF THE DUMP (.gsa) THAT YtpakjddfnhnndaaGreatProg.lean LOADS. Nothing in Lean hashes anything: it is a label: what it is worth is what the hold of that sum in a sandbox is worth. -/
noncomputable def Tryz.pinned : Pinned := { name := "ytpakjddfnhnndaagreat", sum := "3bc0c4400372a20b117e4696b03f7f73a846fc9074f67a3c00e5911af07e9824", checked := Tryz.checked }
namespace Rows
def none {H : Type} : Left H := { results := [], args := [] }

/-- 'tegulalaw36.FamilyLimits': WHATEVER THE INPUT: true; the input reads as it did. -/
def familyLimitsSpec : ChangeSpec := { name := "familyLimits", fn := fun _ => fun
  | [d1, d2, d3] => { results := [.lit (.bool true)], args := [d1, d2, d3] }
  | _ => none }
def familyLimitsRow : OpenClaim := { program := "ytpakjddfnhnndaagreat", sum := "3bc0c4400372a20b117e4696b03f7f73a846fc9074f67a3c00e5911af07e9824", func := "tegula/tegulalaw36.FamilyLimits", spec := "familyLimits", inPlace := ["maps.clone"], unfollowed := true, recurses := true, apart := false }
def FamilyLimitsSaid : Prop := familyLimitsRow.holds Tryz.pinned (OpenSpec.ofChange familyLimitsSpec)

/-- ITS FALSE NEIGHBOUR: 'it returns false'. Refute it at one input. -/
def familyLimitsWrong : ChangeSpec := { name := "familyLimits", fn := fun _ => fun
  | [d1, d2, d3] => { results := [.lit (.bool false)], args := [d1, d2, d3] }
  | _ => none }
def FamilyLimitsWrongFalsely : Prop := familyLimitsRow.holds Tryz.pinned (OpenSpec.ofChange familyLimitsWrong)

/-- 'tegulalaw36.FamilyScript': WHATEVER THE INPUT: true; the input reads as it did. -/
def familyScriptSpec : ChangeSpec := { name := "familyScript", fn := fun _ => fun
  | [d1, d2] => { results := [.lit (.bool true)], args := [d1, d2] }
  | _ => none }
def familyScriptRow : OpenClaim := { program := "ytpakjddfnhnndaagreat", sum := "3bc0c4400372a20b117e4696b03f7f73a846fc9074f67a3c00e5911af07e9824", func := "tegula/tegulalaw36.FamilyScript", spec := "familyScript", inPlace := ["maps.clone"], unfollowed := true, recurses := true, apart := false }
def FamilyScriptSaid : Prop := familyScriptRow.holds Tryz.pinned (OpenSpec.ofChange familyScriptSpec)

/-- ITS FALSE NEIGHBOUR: 'it returns false'. Refute it at one input. -/
def familyScriptWrong : ChangeSpec := { name := "familyScript", fn := fun _ => fun
  | [d1, d2] => { results := [.lit (.bool false)], args := [d1, d2] }
  | _ => none }
def FamilyScriptWrongFalsely : Prop := familyScriptRow.holds Tryz.pinned (OpenSpec.ofChange familyScriptWrong)

/-- 'tegulalaw36.FamilyIndependent': WHATEVER THE INPUT: true; the input reads as it did. -/
def familyIndependentSpec : ChangeSpec := { name := "familyIndependent", fn := fun _ => fun
  | [d1, d2, d3] => { results := [.lit (.bool true)], args := [d1, d2, d3] }
  | _ => none }
def familyIndependentRow : OpenClaim := { program := "ytpakjddfnhnndaagreat", sum := "3bc0c4400372a20b117e4696b03f7f73a846fc9074f67a3c00e5911af07e9824", func := "tegula/tegulalaw36.FamilyIndependent", spec := "familyIndependent", inPlace := ["maps.clone"], unfollowed := true, recurses := true, apart := false }
def FamilyIndependentSaid : Prop := familyIndependentRow.holds Tryz.pinned (OpenSpec.ofChange familyIndependentSpec)

/-- ITS FALSE NEIGHBOUR: 'it returns false'. Refute it at one input. -/
def familyIndependentWrong : ChangeSpec := { name := "familyIndependent", fn := fun _ => fun
  | [d1, d2, d3] => { results := [.lit (.bool false)], args := [d1, d2, d3] }
  | _ => none }
def FamilyIndependentWrongFalsely : Prop := familyIndependentRow.holds Tryz.pinned (OpenSpec.ofChange familyIndependentWrong)

/-- 'tegulalaw36.FamilyAccounts': WHATEVER THE INPUT: true; the input reads as it did. -/
def familyAccountsSpec : ChangeSpec := { name := "familyAccounts", fn := fun _ => fun
  | [d1, d2] => { results := [.lit (.bool true)], args := [d1, d2] }
  | _ => none }
def familyAccountsRow : OpenClaim := { program := "ytpakjddfnhnndaagreat", sum := "3bc0c4400372a20b117e4696b03f7f73a846fc9074f67a3c00e5911af07e9824", func := "tegula/tegulalaw36.FamilyAccounts", spec := "familyAccounts", inPlace := ["maps.clone"], unfollowed := true, recurses := true, apart := false }
def FamilyAccountsSaid : Prop := familyAccountsRow.holds Tryz.pinned (OpenSpec.ofChange familyAccountsSpec)

/-- ITS FALSE NEIGHBOUR: 'it returns false'. Refute it at one input. -/
def familyAccountsWrong : ChangeSpec := { name := "familyAccounts", fn := fun _ => fun
  | [d1, d2] => { results := [.lit (.bool false)], args := [d1, d2] }
  | _ => none }
def FamilyAccountsWrongFalsely : Prop := familyAccountsRow.holds Tryz.pinned (OpenSpec.ofChange familyAccountsWrong)

/-- 'tegulalaw36.FamilyClones': WHATEVER THE INPUT: true; the input reads as it did. -/
def familyClonesSpec : ChangeSpec := { name := "familyClones", fn := fun _ => fun
  | [d1, d2, d3] => { results := [.lit (.bool true)], args := [d1, d2, d3] }
  | _ => none }
def familyClonesRow : OpenClaim := { program := "ytpakjddfnhnndaagreat", sum := "3bc0c4400372a20b117e4696b03f7f73a846fc9074f67a3c00e5911af07e9824", func := "tegula/tegulalaw36.FamilyClones", spec := "familyClones", inPlace := ["maps.clone"], unfollowed := true, recurses := true, apart := false }
def FamilyClonesSaid : Prop := familyClonesRow.holds Tryz.pinned (OpenSpec.ofChange familyClonesSpec)

/-- ITS FALSE NEIGHBOUR: 'it returns false'. Refute it at one input. -/
def familyClonesWrong : ChangeSpec := { name := "familyClones", fn := fun _ => fun
  | [d1, d2, d3] => { results := [.lit (.bool false)], args := [d1, d2, d3] }
  | _ => none }
def FamilyClonesWrongFalsely : Prop := familyClonesRow.holds Tryz.pinned (OpenSpec.ofChange familyClonesWrong)

/-- 'tegulalaw36.FamilyValues': WHATEVER THE INPUT: true; the input reads as it did. -/
def familyValuesSpec : ChangeSpec := { name := "familyValues", fn := fun _ => fun
  | [d1, d2, d3] => { results := [.lit (.bool true)], args := [d1, d2, d3] }
  | _ => none }
def familyValuesRow : OpenClaim := { program := "ytpakjddfnhnndaagreat", sum := "3bc0c4400372a20b117e4696b03f7f73a846fc9074f67a3c00e5911af07e9824", func := "tegula/tegulalaw36.FamilyValues", spec := "familyValues", inPlace := ["maps.clone"], unfollowed := true, recurses := true, apart := false }
def FamilyValuesSaid : Prop := familyValuesRow.holds Tryz.pinned (OpenSpec.ofChange familyValuesSpec)

/-- ITS FALSE NEIGHBOUR: 'it returns false'. Refute it at one input. -/
def familyValuesWrong : ChangeSpec := { name := "familyValues", fn := fun _ => fun
  | [d1, d2, d3] => { results := [.lit (.bool false)], args := [d1, d2, d3] }
  | _ => none }
def FamilyValuesWrongFalsely : Prop := familyValuesRow.holds Tryz.pinned (OpenSpec.ofChange familyValuesWrong)

/-- 'tegulalaw36.FamilyLookup': WHATEVER THE INPUT: true; the input reads as it did. -/
def familyLookupSpec : ChangeSpec := { name := "familyLookup", fn := fun _ => fun
  | [d1, d2, d3] => { results := [.lit (.bool true)], args := [d1, d2, d3] }
  | _ => none }
def familyLookupRow : OpenClaim := { program := "ytpakjddfnhnndaagreat", sum := "3bc0c4400372a20b117e4696b03f7f73a846fc9074f67a3c00e5911af07e9824", func := "tegula/tegulalaw36.FamilyLookup", spec := "familyLookup", inPlace := ["maps.clone"], unfollowed := true, recurses := true, apart := false }
def FamilyLookupSaid : Prop := familyLookupRow.holds Tryz.pinned (OpenSpec.ofChange familyLookupSpec)

/-- ITS FALSE NEIGHBOUR: 'it returns false'. Refute it at one input. -/
def familyLookupWrong : ChangeSpec := { name := "familyLookup", fn := fun _ => fun
  | [d1, d2, d3] => { results := [.lit (.bool false)], args := [d1, d2, d3] }
  | _ => none }
def FamilyLookupWrongFalsely : Prop := familyLookupRow.holds Tryz.pinned (OpenSpec.ofChange familyLookupWrong)

/-- 'tegulalaw37.ThinNumbers': WHATEVER THE INPUT: true; the input reads as it did. -/
def thinNumbersSpec : ChangeSpec := { name := "thinNumbers", fn := fun _ => fun
  | [d1, d2] => { results := [.lit (.bool true)], args := [d1, d2] }
  | _ => none }
def thinNumbersRow : OpenClaim := { program := "ytpakjddfnhnndaagreat", sum := "3bc0c4400372a20b117e4696b03f7f73a846fc9074f67a3c00e5911af07e9824", func := "tegula/tegulalaw37.ThinNumbers", spec := "thinNumbers", inPlace := ["maps.clone"], unfollowed := true, recurses := true, apart := false }
def ThinNumbersSaid : Prop := thinNumbersRow.holds Tryz.pinned (OpenSpec.ofChange thinNumbersSpec)

/-- ITS FALSE NEIGHBOUR: 'it returns false'. Refute it at one input. -/
def thinNumbersWrong : ChangeSpec := { name := "thinNumbers", fn := fun _ => fun
  | [d1, d2] => { results := [.lit (.bool false)], args := [d1, d2] }
  | _ => none }
def ThinNumbersWrongFalsely : Prop := thinNumbersRow.holds Tryz.pinned (OpenSpec.ofChange thinNumbersWrong)

/-- 'tegulalaw37.ThinNeed': WHATEVER THE INPUT: true; the input reads as it did. -/
def thinNeedSpec : ChangeSpec := { name := "thinNeed", fn := fun _ => fun
  | [d1, d2, d3] => { results := [.lit (.bool true)], args := [d1, d2, d3] }
  | _ => none }
def thinNeedRow : OpenClaim := { program := "ytpakjddfnhnndaagreat", sum := "3bc0c4400372a20b117e4696b03f7f73a846fc9074f67a3c00e5911af07e9824", func := "tegula/tegulalaw37.ThinNeed", spec := "thinNeed", inPlace := ["maps.clone"], unfollowed := true, recurses := true, apart := false }
def ThinNeedSaid : Prop := thinNeedRow.holds Tryz.pinned (OpenSpec.ofChange thinNeedSpec)

/-- ITS FALSE NEIGHBOUR: 'it returns false'. Refute it at one input. -/
def thinNeedWrong : ChangeSpec := { name := "thinNeed", fn := fun _ => fun
  | [d1, d2, d3] => { results := [.lit (.bool false)], args := [d1, d2, d3] }
  | _ => none }
def ThinNeedWrongFalsely : Prop := thinNeedRow.holds Tryz.pinned (OpenSpec.ofChange thinNeedWrong)

/-- 'tegulalaw37.ThinPermits': WHATEVER THE INPUT: true; the input reads as it did. -/
def thinPermitsSpec : ChangeSpec := { name := "thinPermits", fn := fun _ => fun
  | [d1, d2, d3] => { results := [.lit (.bool true)], args := [d1, d2, d3] }
  | _ => none }
def thinPermitsRow : OpenClaim := { program := "ytpakjddfnhnndaagreat", sum := "3bc0c4400372a20b117e4696b03f7f73a846fc9074f67a3c00e5911af07e9824", func := "tegula/tegulalaw37.ThinPermits", spec := "thinPermits", inPlace := ["maps.clone"], unfollowed := true, recurses := true, apart := false }
def ThinPermitsSaid : Prop := thinPermitsRow.holds Tryz.pinned (OpenSpec.ofChange thinPermitsSpec)

/-- ITS FALSE NEIGHBOUR: 'it returns false'. Refute it at one input. -/
def thinPermitsWrong : ChangeSpec := { name := "thinPermits", fn := fun _ => fun
  | [d1, d2, d3] => { results := [.lit (.bool false)], args := [d1, d2, d3] }
  | _ => none }
def ThinPermitsWrongFalsely : Prop := thinPermitsRow.holds Tryz.pinned (OpenSpec.ofChange thinPermitsWrong)

/-- 'tegulalaw37.ThinReserved': WHATEVER THE INPUT: true; the input reads as it did. -/
def thinReservedSpec : ChangeSpec := { name := "thinReserved", fn := fun _ => fun
  | [d1, d2, d3] => { results := [.lit (.bool true)], args := [d1, d2, d3] }
  | _ => none }
def thinReservedRow : OpenClaim := { program := "ytpakjddfnhnndaagreat", sum := "3bc0c4400372a20b117e4696b03f7f73a846fc9074f67a3c00e5911af07e9824", func := "tegula/tegulalaw37.ThinReserved", spec := "thinReserved", inPlace := ["maps.clone"], unfollowed := true, recurses := true, apart := false }
def ThinReservedSaid : Prop := thinReservedRow.holds Tryz.pinned (OpenSpec.ofChange thinReservedSpec)

/-- ITS FALSE NEIGHBOUR: 'it returns false'. Refute it at one input. -/
def thinReservedWrong : ChangeSpec := { name := "thinReserved", fn := fun _ => fun
  | [d1, d2, d3] => { results := [.lit (.bool false)], args := [d1, d2, d3] }
  | _ => none }
def ThinReservedWrongFalsely : Prop := thinReservedRow.holds Tryz.pinned (OpenSpec.ofChange thinReservedWrong)

/-- 'tegulalaw37.ThinSound': WHATEVER THE INPUT: true; the input reads as it did. -/
def thinSoundSpec : ChangeSpec := { name := "thinSound", fn := fun _ => fun
  | [d1, d2] => { results := [.lit (.bool true)], args := [d1, d2] }
  | _ => none }
def thinSoundRow : OpenClaim := { program := "ytpakjddfnhnndaagreat", sum := "3bc0c4400372a20b117e4696b03f7f73a846fc9074f67a3c00e5911af07e9824", func := "tegula/tegulalaw37.ThinSound", spec := "thinSound", inPlace := ["maps.clone"], unfollowed := true, recurses := true, apart := false }
def ThinSoundSaid : Prop := thinSoundRow.holds Tryz.pinned (OpenSpec.ofChange thinSoundSpec)

/-- ITS FALSE NEIGHBOUR: 'it returns false'. Refute it at one input. -/
def thinSoundWrong : ChangeSpec := { name := "thinSound", fn := fun _ => fun
  | [d1, d2] => { results := [.lit (.bool false)], args := [d1, d2] }
  | _ => none }
def ThinSoundWrongFalsely : Prop := thinSoundRow.holds Tryz.pinned (OpenSpec.ofChange thinSoundWrong)

/-- 'tegulalaw37.ThinExact': WHATEVER THE INPUT: true; the input reads as it did. -/
def thinExactSpec : ChangeSpec := { name := "thinExact", fn := fun _ => fun
  | [d1, d2, d3] => { results := [.lit (.bool true)], args := [d1, d2, d3] }
  | _ => none }
def thinExactRow : OpenClaim := { program := "ytpakjddfnhnndaagreat", sum := "3bc0c4400372a20b117e4696b03f7f73a846fc9074f67a3c00e5911af07e9824", func := "tegula/tegulalaw37.ThinExact", spec := "thinExact", inPlace := ["maps.clone"], unfollowed := true, recurses := true, apart := false }
def ThinExactSaid : Prop := thinExactRow.holds Tryz.pinned (OpenSpec.ofChange thinExactSpec)

/-- ITS FALSE NEIGHBOUR: 'it returns false'. Refute it at one input. -/
def thinExactWrong : ChangeSpec := { name := "thinExact", fn := fun _ => fun
  | [d1, d2, d3] => { results := [.lit (.bool false)], args := [d1, d2, d3] }
  | _ => none }
def ThinExactWrongFalsely : Prop := thinExactRow.holds Tryz.pinned (OpenSpec.ofChange thinExactWrong)

/-- 'tegulalaw37.ThinFull': WHATEVER THE INPUT: true; the input reads as it did. -/
def thinFullSpec : ChangeSpec := { name := "thinFull", fn := fun _ => fun
  | [d1, d2, d3] => { results := [.lit (.bool true)], args := [d1, d2, d3] }
  | _ => none }
def thinFullRow : OpenClaim := { program := "ytpakjddfnhnndaagreat", sum := "3bc0c4400372a20b117e4696b03f7f73a846fc9074f67a3c00e5911af07e9824", func := "tegula/tegulalaw37.ThinFull", spec := "thinFull", inPlace := ["maps.clone"], unfollowed := true, recurses := true, apart := false }
def ThinFullSaid : Prop := thinFullRow.holds Tryz.pinned (OpenSpec.ofChange thinFullSpec)

/-- ITS FALSE NEIGHBOUR: 'it returns false'. Refute it at one input. -/
def thinFullWrong : ChangeSpec := { name := "thinFull", fn := fun _ => fun
  | [d1, d2, d3] => { results := [.lit (.bool false)], args := [d1, d2, d3] }
  | _ => none }
def ThinFullWrongFalsely : Prop := thinFullRow.holds Tryz.pinned (OpenSpec.ofChange thinFullWrong)

/- THE SECOND FORM. 'bulk': how many values and letters a reading holds, each counted each time it is reached (what is shared counts as often as it is met; a slice's spare places count too). A statement '..UptoSaid' is the law's where the arguments, and the package variables that the reading takes, are together of bulk at most 1048576: NARROWER than '..Said'. Prove '..Said' where nothing that the law and all that it calls make is longer than what came in: it says more and counts as full. Else prove '..UptoSaid'. A law counts once. -/
mutual
def uptoBulk {H : Type} : DataW H → Nat
  | .lit (.string bytes) => bytes.length + 1
  | .lit _ => 1
  | .nil => 1
  | .ptr d => uptoBulk d + 1
  | .slice elems spare => uptoBulkAll elems + uptoBulkAll spare + 1
  | .agg parts => uptoBulkAll parts + 1
  | .iface _ d => uptoBulk d + 1
  | .map entries => uptoBulkEntries entries + 1
  | .held _ => 1
def uptoBulkAll {H : Type} : List (DataW H) → Nat
  | [] => 0
  | d :: r => uptoBulk d + uptoBulkAll r
def uptoBulkEntries {H : Type} : List (Lit × DataW H) → Nat
  | [] => 0
  | x :: r => uptoBulkEntry x + uptoBulkEntries r
def uptoBulkEntry {H : Type} : Lit × DataW H → Nat
  | (.string bytes, d) => bytes.length + uptoBulk d + 1
  | (_, d) => uptoBulk d + 1
 end
def uptoSmall : (H : Type) → List (DataW H) → Bool := fun _ ds => decide (uptoBulkAll ds ≤ 1048576)
def OpenSpec.upto (s : _root_.Go.ChangeSpec) : _root_.Go.OpenSpec := { _root_.Go.OpenSpec.ofChange s with cond := some uptoSmall }

/-- 'tegulalaw36.FamilyLimits', WHERE WHAT IT READS IS OF BULK AT MOST 1048576: true; the input reads as it did. -/
def familyLimitsUptoRow : OpenClaim := { program := "ytpakjddfnhnndaagreat", sum := "3bc0c4400372a20b117e4696b03f7f73a846fc9074f67a3c00e5911af07e9824", func := "tegula/tegulalaw36.FamilyLimits", spec := "familyLimits", inPlace := ["maps.clone"], unfollowed := true, recurses := true, apart := false, narrowed := true }
def FamilyLimitsUptoSaid : Prop := familyLimitsUptoRow.holds Tryz.pinned (OpenSpec.upto familyLimitsSpec)

/-- 'tegulalaw36.FamilyScript', WHERE WHAT IT READS IS OF BULK AT MOST 1048576: true; the input reads as it did. -/
def familyScriptUptoRow : OpenClaim := { program := "ytpakjddfnhnndaagreat", sum := "3bc0c4400372a20b117e4696b03f7f73a846fc9074f67a3c00e5911af07e9824", func := "tegula/tegulalaw36.FamilyScript", spec := "familyScript", inPlace := ["maps.clone"], unfollowed := true, recurses := true, apart := false, narrowed := true }
def FamilyScriptUptoSaid : Prop := familyScriptUptoRow.holds Tryz.pinned (OpenSpec.upto familyScriptSpec)

/-- 'tegulalaw36.FamilyIndependent', WHERE WHAT IT READS IS OF BULK AT MOST 1048576: true; the input reads as it did. -/
def familyIndependentUptoRow : OpenClaim := { program := "ytpakjddfnhnndaagreat", sum := "3bc0c4400372a20b117e4696b03f7f73a846fc9074f67a3c00e5911af07e9824", func := "tegula/tegulalaw36.FamilyIndependent", spec := "familyIndependent", inPlace := ["maps.clone"], unfollowed := true, recurses := true, apart := false, narrowed := true }
def FamilyIndependentUptoSaid : Prop := familyIndependentUptoRow.holds Tryz.pinned (OpenSpec.upto familyIndependentSpec)

/-- 'tegulalaw36.FamilyAccounts', WHERE WHAT IT READS IS OF BULK AT MOST 1048576: true; the input reads as it did. -/
def familyAccountsUptoRow : OpenClaim := { program := "ytpakjddfnhnndaagreat", sum := "3bc0c4400372a20b117e4696b03f7f73a846fc9074f67a3c00e5911af07e9824", func := "tegula/tegulalaw36.FamilyAccounts", spec := "familyAccounts", inPlace := ["maps.clone"], unfollowed := true, recurses := true, apart := false, narrowed := true }
def FamilyAccountsUptoSaid : Prop := familyAccountsUptoRow.holds Tryz.pinned (OpenSpec.upto familyAccountsSpec)

/-- 'tegulalaw36.FamilyClones', WHERE WHAT IT READS IS OF BULK AT MOST 1048576: true; the input reads as it did. -/
def familyClonesUptoRow : OpenClaim := { program := "ytpakjddfnhnndaagreat", sum := "3bc0c4400372a20b117e4696b03f7f73a846fc9074f67a3c00e5911af07e9824", func := "tegula/tegulalaw36.FamilyClones", spec := "familyClones", inPlace := ["maps.clone"], unfollowed := true, recurses := true, apart := false, narrowed := true }
def FamilyClonesUptoSaid : Prop := familyClonesUptoRow.holds Tryz.pinned (OpenSpec.upto familyClonesSpec)

/-- 'tegulalaw36.FamilyValues', WHERE WHAT IT READS IS OF BULK AT MOST 1048576: true; the input reads as it did. -/
def familyValuesUptoRow : OpenClaim := { program := "ytpakjddfnhnndaagreat", sum := "3bc0c4400372a20b117e4696b03f7f73a846fc9074f67a3c00e5911af07e9824", func := "tegula/tegulalaw36.FamilyValues", spec := "familyValues", inPlace := ["maps.clone"], unfollowed := true, recurses := true, apart := false, narrowed := true }
def FamilyValuesUptoSaid : Prop := familyValuesUptoRow.holds Tryz.pinned (OpenSpec.upto familyValuesSpec)

/-- 'tegulalaw36.FamilyLookup', WHERE WHAT IT READS IS OF BULK AT MOST 1048576: true; the input reads as it did. -/
def familyLookupUptoRow : OpenClaim := { program := "ytpakjddfnhnndaagreat", sum := "3bc0c4400372a20b117e4696b03f7f73a846fc9074f67a3c00e5911af07e9824", func := "tegula/tegulalaw36.FamilyLookup", spec := "familyLookup", inPlace := ["maps.clone"], unfollowed := true, recurses := true, apart := false, narrowed := true }
def FamilyLookupUptoSaid : Prop := familyLookupUptoRow.holds Tryz.pinned (OpenSpec.upto familyLookupSpec)

/-- 'tegulalaw37.ThinNumbers', WHERE WHAT IT READS IS OF BULK AT MOST 1048576: true; the input reads as it did. -/
def thinNumbersUptoRow : OpenClaim := { program := "ytpakjddfnhnndaagreat", sum := "3bc0c4400372a20b117e4696b03f7f73a846fc9074f67a3c00e5911af07e9824", func := "tegula/tegulalaw37.ThinNumbers", spec := "thinNumbers", inPlace := ["maps.clone"], unfollowed := true, recurses := true, apart := false, narrowed := true }
def ThinNumbersUptoSaid : Prop := thinNumbersUptoRow.holds Tryz.pinned (OpenSpec.upto thinNumbersSpec)

/-- 'tegulalaw37.ThinNeed', WHERE WHAT IT READS IS OF BULK AT MOST 1048576: true; the input reads as it did. -/
def thinNeedUptoRow : OpenClaim := { program := "ytpakjddfnhnndaagreat", sum := "3bc0c4400372a20b117e4696b03f7f73a846fc9074f67a3c00e5911af07e9824", func := "tegula/tegulalaw37.ThinNeed", spec := "thinNeed", inPlace := ["maps.clone"], unfollowed := true, recurses := true, apart := false, narrowed := true }
def ThinNeedUptoSaid : Prop := thinNeedUptoRow.holds Tryz.pinned (OpenSpec.upto thinNeedSpec)

/-- 'tegulalaw37.ThinPermits', WHERE WHAT IT READS IS OF BULK AT MOST 1048576: true; the input reads as it did. -/
def thinPermitsUptoRow : OpenClaim := { program := "ytpakjddfnhnndaagreat", sum := "3bc0c4400372a20b117e4696b03f7f73a846fc9074f67a3c00e5911af07e9824", func := "tegula/tegulalaw37.ThinPermits", spec := "thinPermits", inPlace := ["maps.clone"], unfollowed := true, recurses := true, apart := false, narrowed := true }
def ThinPermitsUptoSaid : Prop := thinPermitsUptoRow.holds Tryz.pinned (OpenSpec.upto thinPermitsSpec)

/-- 'tegulalaw37.ThinReserved', WHERE WHAT IT READS IS OF BULK AT MOST 1048576: true; the input reads as it did. -/
def thinReservedUptoRow : OpenClaim := { program := "ytpakjddfnhnndaagreat", sum := "3bc0c4400372a20b117e4696b03f7f73a846fc9074f67a3c00e5911af07e9824", func := "tegula/tegulalaw37.ThinReserved", spec := "thinReserved", inPlace := ["maps.clone"], unfollowed := true, recurses := true, apart := false, narrowed := true }
def ThinReservedUptoSaid : Prop := thinReservedUptoRow.holds Tryz.pinned (OpenSpec.upto thinReservedSpec)

/-- 'tegulalaw37.ThinSound', WHERE WHAT IT READS IS OF BULK AT MOST 1048576: true; the input reads as it did. -/
def thinSoundUptoRow : OpenClaim := { program := "ytpakjddfnhnndaagreat", sum := "3bc0c4400372a20b117e4696b03f7f73a846fc9074f67a3c00e5911af07e9824", func := "tegula/tegulalaw37.ThinSound", spec := "thinSound", inPlace := ["maps.clone"], unfollowed := true, recurses := true, apart := false, narrowed := true }
def ThinSoundUptoSaid : Prop := thinSoundUptoRow.holds Tryz.pinned (OpenSpec.upto thinSoundSpec)

/-- 'tegulalaw37.ThinExact', WHERE WHAT IT READS IS OF BULK AT MOST 1048576: true; the input reads as it did. -/
def thinExactUptoRow : OpenClaim := { program := "ytpakjddfnhnndaagreat", sum := "3bc0c4400372a20b117e4696b03f7f73a846fc9074f67a3c00e5911af07e9824", func := "tegula/tegulalaw37.ThinExact", spec := "thinExact", inPlace := ["maps.clone"], unfollowed := true, recurses := true, apart := false, narrowed := true }
def ThinExactUptoSaid : Prop := thinExactUptoRow.holds Tryz.pinned (OpenSpec.upto thinExactSpec)

/-- 'tegulalaw37.ThinFull', WHERE WHAT IT READS IS OF BULK AT MOST 1048576: true; the input reads as it did. -/
def thinFullUptoRow : OpenClaim := { program := "ytpakjddfnhnndaagreat", sum := "3bc0c4400372a20b117e4696b03f7f73a846fc9074f67a3c00e5911af07e9824", func := "tegula/tegulalaw37.ThinFull", spec := "thinFull", inPlace := ["maps.clone"], unfollowed := true, recurses := true, apart := false, narrowed := true }
def ThinFullUptoSaid : Prop := thinFullUptoRow.holds Tryz.pinned (OpenSpec.upto thinFullSpec)

end Rows
end Go.Proofs.YtpakjddfnhnndaaGreat
