/-
  No cell of these rows narrows 'for every input' (looked for: loops, veiled, ifaces, maps, wideKeys, modest, calm, conditions, laid).
  DERIVED. THE GIVEN ROWS OF THIS SEAT. 9 by the template 'for every input the law returns true; each argument reads behind the call as it read before'; 0 by the template 'total and deterministic' (their statements: YtpjlignclchgiaaGreatTotals.lean).
  GIVEN WITH THE SEED: the statements are not yours to turn. If you find one false, say at which input.
  Laid BY PROGRAM, IN A SANDBOX (cutbox-rows.mjs): the forced cells as the released guide's own fill.sh prints them over the translation 017721913cd13f88… (all of the seat's roots in one cut). By AI agents, Wed Nov 11 2026. No macro, syntax, notation, axiom, sorry.
-/
import Derived.Test.YtpjlignclchgiaaGreatChecked
import GoSem.Claim
import GoSem.ClaimJoined
import GoSem.ClaimMapViews
import Derived.JoinedTies
import Derived.KernelRfl
namespace Go.Proofs.YtpjlignclchgiaaGreat
/- THE CELL 'sum', in the pinned program and in every row, IS THE sha256 OF THE DUMP (.gsa) THAT YtpjlignclchgiaaGreatProg.lean LOADS. Nothing in Lean hashes anything: it is a label: what it is worth is what the hold of that sum in a sandbox is worth. -/
noncomputable def Tryz.pinned : Pinned := { name := "ytpjlignclchgiaagreat", sum := "017721913cd13f88761dea667edd8f6f9e94412f1e21e3022205be48e3e8aee2", checked := Tryz.checked }
namespace Rows
def none {H : Type} : Left H := { results := [], args := [] }

/-- 'tegulalaw38.MapperSizes': WHATEVER THE INPUT: true; the input reads as it did. -/
def mapperSizesSpec : ChangeSpec := { name := "mapperSizes", fn := fun _ => fun
  | [d1, d2] => { results := [.lit (.bool true)], args := [d1, d2] }
  | _ => none }
def mapperSizesRow : OpenClaim := { program := "ytpjlignclchgiaagreat", sum := "017721913cd13f88761dea667edd8f6f9e94412f1e21e3022205be48e3e8aee2", func := "tegula/tegulalaw38.MapperSizes", spec := "mapperSizes", inPlace := ["maps.clone"], unfollowed := true, recurses := true, apart := false }
def MapperSizesSaid : Prop := mapperSizesRow.holds Tryz.pinned (OpenSpec.ofChange mapperSizesSpec)

/-- ITS FALSE NEIGHBOUR: 'it returns false'. Refute it at one input. -/
def mapperSizesWrong : ChangeSpec := { name := "mapperSizes", fn := fun _ => fun
  | [d1, d2] => { results := [.lit (.bool false)], args := [d1, d2] }
  | _ => none }
def MapperSizesWrongFalsely : Prop := mapperSizesRow.holds Tryz.pinned (OpenSpec.ofChange mapperSizesWrong)

/-- 'tegulalaw38.MapperScript': WHATEVER THE INPUT: true; the input reads as it did. -/
def mapperScriptSpec : ChangeSpec := { name := "mapperScript", fn := fun _ => fun
  | [d1, d2] => { results := [.lit (.bool true)], args := [d1, d2] }
  | _ => none }
def mapperScriptRow : OpenClaim := { program := "ytpjlignclchgiaagreat", sum := "017721913cd13f88761dea667edd8f6f9e94412f1e21e3022205be48e3e8aee2", func := "tegula/tegulalaw38.MapperScript", spec := "mapperScript", inPlace := ["maps.clone"], unfollowed := true, recurses := true, apart := false }
def MapperScriptSaid : Prop := mapperScriptRow.holds Tryz.pinned (OpenSpec.ofChange mapperScriptSpec)

/-- ITS FALSE NEIGHBOUR: 'it returns false'. Refute it at one input. -/
def mapperScriptWrong : ChangeSpec := { name := "mapperScript", fn := fun _ => fun
  | [d1, d2] => { results := [.lit (.bool false)], args := [d1, d2] }
  | _ => none }
def MapperScriptWrongFalsely : Prop := mapperScriptRow.holds Tryz.pinned (OpenSpec.ofChange mapperScriptWrong)

/-- 'tegulalaw38.MapperEqual': WHATEVER THE INPUT: true; the input reads as it did. -/
def mapperEqualSpec : ChangeSpec := { name := "mapperEqual", fn := fun _ => fun
  | [d1, d2, d3] => { results := [.lit (.bool true)], args := [d1, d2, d3] }
  | _ => none }
def mapperEqualRow : OpenClaim := { program := "ytpjlignclchgiaagreat", sum := "017721913cd13f88761dea667edd8f6f9e94412f1e21e3022205be48e3e8aee2", func := "tegula/tegulalaw38.MapperEqual", spec := "mapperEqual", inPlace := ["maps.clone"], unfollowed := true, recurses := true, apart := false }
def MapperEqualSaid : Prop := mapperEqualRow.holds Tryz.pinned (OpenSpec.ofChange mapperEqualSpec)

/-- ITS FALSE NEIGHBOUR: 'it returns false'. Refute it at one input. -/
def mapperEqualWrong : ChangeSpec := { name := "mapperEqual", fn := fun _ => fun
  | [d1, d2, d3] => { results := [.lit (.bool false)], args := [d1, d2, d3] }
  | _ => none }
def MapperEqualWrongFalsely : Prop := mapperEqualRow.holds Tryz.pinned (OpenSpec.ofChange mapperEqualWrong)

/-- 'tegulalaw38.MapperExclusive': WHATEVER THE INPUT: true; the input reads as it did. -/
def mapperExclusiveSpec : ChangeSpec := { name := "mapperExclusive", fn := fun _ => fun
  | [d1, d2, d3] => { results := [.lit (.bool true)], args := [d1, d2, d3] }
  | _ => none }
def mapperExclusiveRow : OpenClaim := { program := "ytpjlignclchgiaagreat", sum := "017721913cd13f88761dea667edd8f6f9e94412f1e21e3022205be48e3e8aee2", func := "tegula/tegulalaw38.MapperExclusive", spec := "mapperExclusive", inPlace := ["maps.clone"], unfollowed := true, recurses := true, apart := false }
def MapperExclusiveSaid : Prop := mapperExclusiveRow.holds Tryz.pinned (OpenSpec.ofChange mapperExclusiveSpec)

/-- ITS FALSE NEIGHBOUR: 'it returns false'. Refute it at one input. -/
def mapperExclusiveWrong : ChangeSpec := { name := "mapperExclusive", fn := fun _ => fun
  | [d1, d2, d3] => { results := [.lit (.bool false)], args := [d1, d2, d3] }
  | _ => none }
def MapperExclusiveWrongFalsely : Prop := mapperExclusiveRow.holds Tryz.pinned (OpenSpec.ofChange mapperExclusiveWrong)

/-- 'tegulalaw38.MapperPlans': WHATEVER THE INPUT: true; the input reads as it did. -/
def mapperPlansSpec : ChangeSpec := { name := "mapperPlans", fn := fun _ => fun
  | [d1, d2, d3] => { results := [.lit (.bool true)], args := [d1, d2, d3] }
  | _ => none }
def mapperPlansRow : OpenClaim := { program := "ytpjlignclchgiaagreat", sum := "017721913cd13f88761dea667edd8f6f9e94412f1e21e3022205be48e3e8aee2", func := "tegula/tegulalaw38.MapperPlans", spec := "mapperPlans", inPlace := ["maps.clone"], unfollowed := true, recurses := true, apart := false }
def MapperPlansSaid : Prop := mapperPlansRow.holds Tryz.pinned (OpenSpec.ofChange mapperPlansSpec)

/-- ITS FALSE NEIGHBOUR: 'it returns false'. Refute it at one input. -/
def mapperPlansWrong : ChangeSpec := { name := "mapperPlans", fn := fun _ => fun
  | [d1, d2, d3] => { results := [.lit (.bool false)], args := [d1, d2, d3] }
  | _ => none }
def MapperPlansWrongFalsely : Prop := mapperPlansRow.holds Tryz.pinned (OpenSpec.ofChange mapperPlansWrong)

/-- 'tegulalaw38.MapperForged': WHATEVER THE INPUT: true; the input reads as it did. -/
def mapperForgedSpec : ChangeSpec := { name := "mapperForged", fn := fun _ => fun
  | [d1, d2, d3] => { results := [.lit (.bool true)], args := [d1, d2, d3] }
  | _ => none }
def mapperForgedRow : OpenClaim := { program := "ytpjlignclchgiaagreat", sum := "017721913cd13f88761dea667edd8f6f9e94412f1e21e3022205be48e3e8aee2", func := "tegula/tegulalaw38.MapperForged", spec := "mapperForged", inPlace := ["maps.clone"], unfollowed := true, recurses := true, apart := false }
def MapperForgedSaid : Prop := mapperForgedRow.holds Tryz.pinned (OpenSpec.ofChange mapperForgedSpec)

/-- ITS FALSE NEIGHBOUR: 'it returns false'. Refute it at one input. -/
def mapperForgedWrong : ChangeSpec := { name := "mapperForged", fn := fun _ => fun
  | [d1, d2, d3] => { results := [.lit (.bool false)], args := [d1, d2, d3] }
  | _ => none }
def MapperForgedWrongFalsely : Prop := mapperForgedRow.holds Tryz.pinned (OpenSpec.ofChange mapperForgedWrong)

/-- 'tegulalaw38.MapperReplays': WHATEVER THE INPUT: true; the input reads as it did. -/
def mapperReplaysSpec : ChangeSpec := { name := "mapperReplays", fn := fun _ => fun
  | [d1, d2, d3] => { results := [.lit (.bool true)], args := [d1, d2, d3] }
  | _ => none }
def mapperReplaysRow : OpenClaim := { program := "ytpjlignclchgiaagreat", sum := "017721913cd13f88761dea667edd8f6f9e94412f1e21e3022205be48e3e8aee2", func := "tegula/tegulalaw38.MapperReplays", spec := "mapperReplays", inPlace := ["maps.clone"], unfollowed := true, recurses := true, apart := false }
def MapperReplaysSaid : Prop := mapperReplaysRow.holds Tryz.pinned (OpenSpec.ofChange mapperReplaysSpec)

/-- ITS FALSE NEIGHBOUR: 'it returns false'. Refute it at one input. -/
def mapperReplaysWrong : ChangeSpec := { name := "mapperReplays", fn := fun _ => fun
  | [d1, d2, d3] => { results := [.lit (.bool false)], args := [d1, d2, d3] }
  | _ => none }
def MapperReplaysWrongFalsely : Prop := mapperReplaysRow.holds Tryz.pinned (OpenSpec.ofChange mapperReplaysWrong)

/-- 'tegulalaw38.MapperLoads': WHATEVER THE INPUT: true; the input reads as it did. -/
def mapperLoadsSpec : ChangeSpec := { name := "mapperLoads", fn := fun _ => fun
  | [d1, d2, d3] => { results := [.lit (.bool true)], args := [d1, d2, d3] }
  | _ => none }
def mapperLoadsRow : OpenClaim := { program := "ytpjlignclchgiaagreat", sum := "017721913cd13f88761dea667edd8f6f9e94412f1e21e3022205be48e3e8aee2", func := "tegula/tegulalaw38.MapperLoads", spec := "mapperLoads", inPlace := ["maps.clone"], unfollowed := true, recurses := true, apart := false }
def MapperLoadsSaid : Prop := mapperLoadsRow.holds Tryz.pinned (OpenSpec.ofChange mapperLoadsSpec)

/-- ITS FALSE NEIGHBOUR: 'it returns false'. Refute it at one input. -/
def mapperLoadsWrong : ChangeSpec := { name := "mapperLoads", fn := fun _ => fun
  | [d1, d2, d3] => { results := [.lit (.bool false)], args := [d1, d2, d3] }
  | _ => none }
def MapperLoadsWrongFalsely : Prop := mapperLoadsRow.holds Tryz.pinned (OpenSpec.ofChange mapperLoadsWrong)

/-- 'tegulalaw38.MapperNew': WHATEVER THE INPUT: true; the input reads as it did. -/
def mapperNewSpec : ChangeSpec := { name := "mapperNew", fn := fun _ => fun
  | [d] => { results := [.lit (.bool true)], args := [d] }
  | _ => none }
def mapperNewRow : OpenClaim := { program := "ytpjlignclchgiaagreat", sum := "017721913cd13f88761dea667edd8f6f9e94412f1e21e3022205be48e3e8aee2", func := "tegula/tegulalaw38.MapperNew", spec := "mapperNew", inPlace := ["maps.clone"], unfollowed := true, recurses := true, apart := false }
def MapperNewSaid : Prop := mapperNewRow.holds Tryz.pinned (OpenSpec.ofChange mapperNewSpec)

/-- ITS FALSE NEIGHBOUR: 'it returns false'. Refute it at one input. -/
def mapperNewWrong : ChangeSpec := { name := "mapperNew", fn := fun _ => fun
  | [d] => { results := [.lit (.bool false)], args := [d] }
  | _ => none }
def MapperNewWrongFalsely : Prop := mapperNewRow.holds Tryz.pinned (OpenSpec.ofChange mapperNewWrong)

/- THE SECOND FORM. 'bulk': how many values and letters a reading holds, each counted each time it is reached (what is shared counts as often as it is met; a slice's spare places count too). A statement '..UptoSaid' is the law's where the arguments, and the package variables that the reading takes, are together of bulk at most 1048576: NARROWER than '..Said'. Prove '..Said' where nothing that the law and all that it calls make is longer than what came in: it says more and counts as full. Else prove '..UptoSaid'. A law counts once. -/
mutual
def uptoBulk {H : Type} : DataW H → Nat
  | .lit (.string bytes) => bytes.length + 1
  | .lit _ => 1
  | .nil => 1
  | .ptr d => uptoBulk d + 1
  | .slice elems spare => uptoBulkAll elems + uptoBulkAll spare + 1
  | .agg parts => uptoBulkAll parts + 1
  | .iface _ d => uptoBulk d + 1
  | .map entries => uptoBulkEntries entries + 1
  | .held _ => 1
def uptoBulkAll {H : Type} : List (DataW H) → Nat
  | [] => 0
  | d :: r => uptoBulk d + uptoBulkAll r
def uptoBulkEntries {H : Type} : List (Lit × DataW H) → Nat
  | [] => 0
  | x :: r => uptoBulkEntry x + uptoBulkEntries r
def uptoBulkEntry {H : Type} : Lit × DataW H → Nat
  | (.string bytes, d) => bytes.length + uptoBulk d + 1
  | (_, d) => uptoBulk d + 1
 end
def uptoSmall : (H : Type) → List (DataW H) → Bool := fun _ ds => decide (uptoBulkAll ds ≤ 1048576)
def OpenSpec.upto (s : _root_.Go.ChangeSpec) : _root_.Go.OpenSpec := { _root_.Go.OpenSpec.ofChange s with cond := some uptoSmall }

/-- 'tegulalaw38.MapperSizes', WHERE WHAT IT READS IS OF BULK AT MOST 1048576: true; the input reads as it did. -/
def mapperSizesUptoRow : OpenClaim := { program := "ytpjlignclchgiaagreat", sum := "017721913cd13f88761dea667edd8f6f9e94412f1e21e3022205be48e3e8aee2", func := "tegula/tegulalaw38.MapperSizes", spec := "mapperSizes", inPlace := ["maps.clone"], unfollowed := true, recurses := true, apart := false, narrowed := true }
def MapperSizesUptoSaid : Prop := mapperSizesUptoRow.holds Tryz.pinned (OpenSpec.upto mapperSizesSpec)

/-- 'tegulalaw38.MapperScript', WHERE WHAT IT READS IS OF BULK AT MOST 1048576: true; the input reads as it did. -/
def mapperScriptUptoRow : OpenClaim := { program := "ytpjlignclchgiaagreat", sum := "017721913cd13f88761dea667edd8f6f9e94412f1e21e3022205be48e3e8aee2", func := "tegula/tegulalaw38.MapperScript", spec := "mapperScript", inPlace := ["maps.clone"], unfollowed := true, recurses := true, apart := false, narrowed := true }
def MapperScriptUptoSaid : Prop := mapperScriptUptoRow.holds Tryz.pinned (OpenSpec.upto mapperScriptSpec)

/-- 'tegulalaw38.MapperEqual', WHERE WHAT IT READS IS OF BULK AT MOST 1048576: true; the input reads as it did. -/
def mapperEqualUptoRow : OpenClaim := { program := "ytpjlignclchgiaagreat", sum := "017721913cd13f88761dea667edd8f6f9e94412f1e21e3022205be48e3e8aee2", func := "tegula/tegulalaw38.MapperEqual", spec := "mapperEqual", inPlace := ["maps.clone"], unfollowed := true, recurses := true, apart := false, narrowed := true }
def MapperEqualUptoSaid : Prop := mapperEqualUptoRow.holds Tryz.pinned (OpenSpec.upto mapperEqualSpec)

/-- 'tegulalaw38.MapperExclusive', WHERE WHAT IT READS IS OF BULK AT MOST 1048576: true; the input reads as it did. -/
def mapperExclusiveUptoRow : OpenClaim := { program := "ytpjlignclchgiaagreat", sum := "017721913cd13f88761dea667edd8f6f9e94412f1e21e3022205be48e3e8aee2", func := "tegula/tegulalaw38.MapperExclusive", spec := "mapperExclusive", inPlace := ["maps.clone"], unfollowed := true, recurses := true, apart := false, narrowed := true }
def MapperExclusiveUptoSaid : Prop := mapperExclusiveUptoRow.holds Tryz.pinned (OpenSpec.upto mapperExclusiveSpec)

/-- 'tegulalaw38.MapperPlans', WHERE WHAT IT READS IS OF BULK AT MOST 1048576: true; the input reads as it did. -/
def mapperPlansUptoRow : OpenClaim := { program := "ytpjlignclchgiaagreat", sum := "017721913cd13f88761dea667edd8f6f9e94412f1e21e3022205be48e3e8aee2", func := "tegula/tegulalaw38.MapperPlans", spec := "mapperPlans", inPlace := ["maps.clone"], unfollowed := true, recurses := true, apart := false, narrowed := true }
def MapperPlansUptoSaid : Prop := mapperPlansUptoRow.holds Tryz.pinned (OpenSpec.upto mapperPlansSpec)

/-- 'tegulalaw38.MapperForged', WHERE WHAT IT READS IS OF BULK AT MOST 1048576: true; the input reads as it did. -/
def mapperForgedUptoRow : OpenClaim := { program := "ytpjlignclchgiaagreat", sum := "017721913cd13f88761dea667edd8f6f9e94412f1e21e3022205be48e3e8aee2", func := "tegula/tegulalaw38.MapperForged", spec := "mapperForged", inPlace := ["maps.clone"], unfollowed := true, recurses := true, apart := false, narrowed := true }
def MapperForgedUptoSaid : Prop := mapperForgedUptoRow.holds Tryz.pinned (OpenSpec.upto mapperForgedSpec)

/-- 'tegulalaw38.MapperReplays', WHERE WHAT IT READS IS OF BULK AT MOST 1048576: true; the input reads as it did. -/
def mapperReplaysUptoRow : OpenClaim := { program := "ytpjlignclchgiaagreat", sum := "017721913cd13f88761dea667edd8f6f9e94412f1e21e3022205be48e3e8aee2", func := "tegula/tegulalaw38.MapperReplays", spec := "mapperReplays", inPlace := ["maps.clone"], unfollowed := true, recurses := true, apart := false, narrowed := true }
def MapperReplaysUptoSaid : Prop := mapperReplaysUptoRow.holds Tryz.pinned (OpenSpec.upto mapperReplaysSpec)

/-- 'tegulalaw38.MapperLoads', WHERE WHAT IT READS IS OF BULK AT MOST 1048576: true; the input reads as it did. -/
def mapperLoadsUptoRow : OpenClaim := { program := "ytpjlignclchgiaagreat", sum := "017721913cd13f88761dea667edd8f6f9e94412f1e21e3022205be48e3e8aee2", func := "tegula/tegulalaw38.MapperLoads", spec := "mapperLoads", inPlace := ["maps.clone"], unfollowed := true, recurses := true, apart := false, narrowed := true }
def MapperLoadsUptoSaid : Prop := mapperLoadsUptoRow.holds Tryz.pinned (OpenSpec.upto mapperLoadsSpec)

/-- 'tegulalaw38.MapperNew', WHERE WHAT IT READS IS OF BULK AT MOST 1048576: true; the input reads as it did. -/
def mapperNewUptoRow : OpenClaim := { program := "ytpjlignclchgiaagreat", sum := "017721913cd13f88761dea667edd8f6f9e94412f1e21e3022205be48e3e8aee2", func := "tegula/tegulalaw38.MapperNew", spec := "mapperNew", inPlace := ["maps.clone"], unfollowed := true, recurses := true, apart := false, narrowed := true }
def MapperNewUptoSaid : Prop := mapperNewUptoRow.holds Tryz.pinned (OpenSpec.upto mapperNewSpec)

end Rows
end Go.Proofs.YtpjlignclchgiaaGreat
