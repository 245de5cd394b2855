/-
  No cell of these rows narrows 'for every input' (looked for: loops, veiled, ifaces, maps, wideKeys, modest, calm, conditions, laid).
  DERIVED. THE GIVEN ROWS OF THIS SEAT. 7 by the template 'for every input the law returns true; each argument reads behind the call as it read before'; 0 by the template 'total and deterministic' (their statements: YtbdcndkafaajpaaTotals.lean).
  GIVEN WITH THE SEED: the statements are not yours to turn. If you find one false, say at which input.
  Laid BY PROGRAM, IN A SANDBOX (cutbox-rows.mjs): the forced cells as the released guide's own fill.sh prints them over the translation 008bc49b8fcefc5d… (all of the seat's roots in one cut). By AI agents, Wed Nov 11 2026. No macro, syntax, notation, axiom, sorry.
-/
import Derived.Test.YtbdcndkafaajpaaChecked
import GoSem.Claim
import GoSem.ClaimJoined
import GoSem.ClaimMapViews
import Derived.JoinedTies
import Derived.KernelRfl
namespace Go.Proofs.Ytbdcndkafaajpaa
/- THE CELL 'sum', in the pinned program and in every row, IS THE sha256 OF THE DUMP (.gsa) THAT YtbdcndkafaajpaaProg.lean LOADS. Nothing in Lean hashes anything: it is a label: what it is worth is what the hold of that sum in a sandbox is worth. -/
noncomputable def Try.pinned : Pinned := { name := "ytbdcndkafaajpaa", sum := "008bc49b8fcefc5ddb8cc59dac7bf2e3d1128a568d0dfa2592d6f07304e20ed0", checked := Try.checked }
namespace Rows
def none {H : Type} : Left H := { results := [], args := [] }

/-- 'stratumlaw09.ParseSchemas': WHATEVER THE INPUT: true; the input reads as it did. -/
def parseSchemasSpec : ChangeSpec := { name := "parseSchemas", fn := fun _ => fun
  | [d] => { results := [.lit (.bool true)], args := [d] }
  | _ => none }
def parseSchemasRow : OpenClaim := { program := "ytbdcndkafaajpaa", sum := "008bc49b8fcefc5ddb8cc59dac7bf2e3d1128a568d0dfa2592d6f07304e20ed0", func := "stratum/stratumlaw09.ParseSchemas", spec := "parseSchemas", inPlace := ["internal/bytealg.IndexByteString", "math/bits.Add64"], unfollowed := true, recurses := true, apart := false }
def ParseSchemasSaid : Prop := parseSchemasRow.holds Try.pinned (OpenSpec.ofChange parseSchemasSpec)

/-- ITS FALSE NEIGHBOUR: 'it returns false'. Refute it at one input. -/
def parseSchemasWrong : ChangeSpec := { name := "parseSchemas", fn := fun _ => fun
  | [d] => { results := [.lit (.bool false)], args := [d] }
  | _ => none }
def ParseSchemasWrongFalsely : Prop := parseSchemasRow.holds Try.pinned (OpenSpec.ofChange parseSchemasWrong)

/-- 'stratumlaw09.ParseValues': WHATEVER THE INPUT: true; the input reads as it did. -/
def parseValuesSpec : ChangeSpec := { name := "parseValues", fn := fun _ => fun
  | [d] => { results := [.lit (.bool true)], args := [d] }
  | _ => none }
def parseValuesRow : OpenClaim := { program := "ytbdcndkafaajpaa", sum := "008bc49b8fcefc5ddb8cc59dac7bf2e3d1128a568d0dfa2592d6f07304e20ed0", func := "stratum/stratumlaw09.ParseValues", spec := "parseValues", inPlace := ["internal/bytealg.IndexByteString", "math/bits.Add64"], unfollowed := true, recurses := true, apart := false }
def ParseValuesSaid : Prop := parseValuesRow.holds Try.pinned (OpenSpec.ofChange parseValuesSpec)

/-- ITS FALSE NEIGHBOUR: 'it returns false'. Refute it at one input. -/
def parseValuesWrong : ChangeSpec := { name := "parseValues", fn := fun _ => fun
  | [d] => { results := [.lit (.bool false)], args := [d] }
  | _ => none }
def ParseValuesWrongFalsely : Prop := parseValuesRow.holds Try.pinned (OpenSpec.ofChange parseValuesWrong)

/-- 'stratumlaw09.ParseBlanks': WHATEVER THE INPUT: true; the input reads as it did. -/
def parseBlanksSpec : ChangeSpec := { name := "parseBlanks", fn := fun _ => fun
  | [d1, d2] => { results := [.lit (.bool true)], args := [d1, d2] }
  | _ => none }
def parseBlanksRow : OpenClaim := { program := "ytbdcndkafaajpaa", sum := "008bc49b8fcefc5ddb8cc59dac7bf2e3d1128a568d0dfa2592d6f07304e20ed0", func := "stratum/stratumlaw09.ParseBlanks", spec := "parseBlanks", inPlace := ["internal/bytealg.IndexByteString", "math/bits.Add64"], unfollowed := true, recurses := true, apart := false }
def ParseBlanksSaid : Prop := parseBlanksRow.holds Try.pinned (OpenSpec.ofChange parseBlanksSpec)

/-- ITS FALSE NEIGHBOUR: 'it returns false'. Refute it at one input. -/
def parseBlanksWrong : ChangeSpec := { name := "parseBlanks", fn := fun _ => fun
  | [d1, d2] => { results := [.lit (.bool false)], args := [d1, d2] }
  | _ => none }
def ParseBlanksWrongFalsely : Prop := parseBlanksRow.holds Try.pinned (OpenSpec.ofChange parseBlanksWrong)

/-- 'stratumlaw09.ParseBrackets': WHATEVER THE INPUT: true; the input reads as it did. -/
def parseBracketsSpec : ChangeSpec := { name := "parseBrackets", fn := fun _ => fun
  | [d] => { results := [.lit (.bool true)], args := [d] }
  | _ => none }
def parseBracketsRow : OpenClaim := { program := "ytbdcndkafaajpaa", sum := "008bc49b8fcefc5ddb8cc59dac7bf2e3d1128a568d0dfa2592d6f07304e20ed0", func := "stratum/stratumlaw09.ParseBrackets", spec := "parseBrackets", inPlace := ["internal/bytealg.IndexByteString", "math/bits.Add64"], unfollowed := true, recurses := true, apart := false }
def ParseBracketsSaid : Prop := parseBracketsRow.holds Try.pinned (OpenSpec.ofChange parseBracketsSpec)

/-- ITS FALSE NEIGHBOUR: 'it returns false'. Refute it at one input. -/
def parseBracketsWrong : ChangeSpec := { name := "parseBrackets", fn := fun _ => fun
  | [d] => { results := [.lit (.bool false)], args := [d] }
  | _ => none }
def ParseBracketsWrongFalsely : Prop := parseBracketsRow.holds Try.pinned (OpenSpec.ofChange parseBracketsWrong)

/-- 'stratumlaw09.ParseJoins': WHATEVER THE INPUT: true; the input reads as it did. -/
def parseJoinsSpec : ChangeSpec := { name := "parseJoins", fn := fun _ => fun
  | [d1, d2] => { results := [.lit (.bool true)], args := [d1, d2] }
  | _ => none }
def parseJoinsRow : OpenClaim := { program := "ytbdcndkafaajpaa", sum := "008bc49b8fcefc5ddb8cc59dac7bf2e3d1128a568d0dfa2592d6f07304e20ed0", func := "stratum/stratumlaw09.ParseJoins", spec := "parseJoins", inPlace := ["internal/bytealg.IndexByteString", "math/bits.Add64"], unfollowed := true, recurses := true, apart := false }
def ParseJoinsSaid : Prop := parseJoinsRow.holds Try.pinned (OpenSpec.ofChange parseJoinsSpec)

/-- ITS FALSE NEIGHBOUR: 'it returns false'. Refute it at one input. -/
def parseJoinsWrong : ChangeSpec := { name := "parseJoins", fn := fun _ => fun
  | [d1, d2] => { results := [.lit (.bool false)], args := [d1, d2] }
  | _ => none }
def ParseJoinsWrongFalsely : Prop := parseJoinsRow.holds Try.pinned (OpenSpec.ofChange parseJoinsWrong)

/-- 'stratumlaw09.ParseFaults': WHATEVER THE INPUT: true; the input reads as it did. -/
def parseFaultsSpec : ChangeSpec := { name := "parseFaults", fn := fun _ => fun
  | [d1, d2] => { results := [.lit (.bool true)], args := [d1, d2] }
  | _ => none }
def parseFaultsRow : OpenClaim := { program := "ytbdcndkafaajpaa", sum := "008bc49b8fcefc5ddb8cc59dac7bf2e3d1128a568d0dfa2592d6f07304e20ed0", func := "stratum/stratumlaw09.ParseFaults", spec := "parseFaults", inPlace := ["internal/bytealg.IndexByteString", "math/bits.Add64"], unfollowed := true, recurses := true, apart := false }
def ParseFaultsSaid : Prop := parseFaultsRow.holds Try.pinned (OpenSpec.ofChange parseFaultsSpec)

/-- ITS FALSE NEIGHBOUR: 'it returns false'. Refute it at one input. -/
def parseFaultsWrong : ChangeSpec := { name := "parseFaults", fn := fun _ => fun
  | [d1, d2] => { results := [.lit (.bool false)], args := [d1, d2] }
  | _ => none }
def ParseFaultsWrongFalsely : Prop := parseFaultsRow.holds Try.pinned (OpenSpec.ofChange parseFaultsWrong)

/-- 'stratumlaw09.ParseKeeps': WHATEVER THE INPUT: true; the input reads as it did. -/
def parseKeepsSpec : ChangeSpec := { name := "parseKeeps", fn := fun _ => fun
  | [d] => { results := [.lit (.bool true)], args := [d] }
  | _ => none }
def parseKeepsRow : OpenClaim := { program := "ytbdcndkafaajpaa", sum := "008bc49b8fcefc5ddb8cc59dac7bf2e3d1128a568d0dfa2592d6f07304e20ed0", func := "stratum/stratumlaw09.ParseKeeps", spec := "parseKeeps", inPlace := ["internal/bytealg.IndexByteString", "math/bits.Add64"], unfollowed := true, recurses := true, apart := false }
def ParseKeepsSaid : Prop := parseKeepsRow.holds Try.pinned (OpenSpec.ofChange parseKeepsSpec)

/-- ITS FALSE NEIGHBOUR: 'it returns false'. Refute it at one input. -/
def parseKeepsWrong : ChangeSpec := { name := "parseKeeps", fn := fun _ => fun
  | [d] => { results := [.lit (.bool false)], args := [d] }
  | _ => none }
def ParseKeepsWrongFalsely : Prop := parseKeepsRow.holds Try.pinned (OpenSpec.ofChange parseKeepsWrong)

/- THE SECOND FORM. 'bulk': how many values and letters a reading holds, each counted each time it is reached (what is shared counts as often as it is met; a slice's spare places count too). A statement '..UptoSaid' is the law's where the arguments, and the package variables that the reading takes, are together of bulk at most 1048576: NARROWER than '..Said'. Prove '..Said' where nothing that the law and all that it calls make is longer than what came in: it says more and counts as full. Else prove '..UptoSaid'. A law counts once. -/
mutual
def uptoBulk {H : Type} : DataW H → Nat
  | .lit (.string bytes) => bytes.length + 1
  | .lit _ => 1
  | .nil => 1
  | .ptr d => uptoBulk d + 1
  | .slice elems spare => uptoBulkAll elems + uptoBulkAll spare + 1
  | .agg parts => uptoBulkAll parts + 1
  | .iface _ d => uptoBulk d + 1
  | .map entries => uptoBulkEntries entries + 1
  | .held _ => 1
def uptoBulkAll {H : Type} : List (DataW H) → Nat
  | [] => 0
  | d :: r => uptoBulk d + uptoBulkAll r
def uptoBulkEntries {H : Type} : List (Lit × DataW H) → Nat
  | [] => 0
  | x :: r => uptoBulkEntry x + uptoBulkEntries r
def uptoBulkEntry {H : Type} : Lit × DataW H → Nat
  | (.string bytes, d) => bytes.length + uptoBulk d + 1
  | (_, d) => uptoBulk d + 1
 end
def uptoSmall : (H : Type) → List (DataW H) → Bool := fun _ ds => decide (uptoBulkAll ds ≤ 1048576)
def OpenSpec.upto (s : _root_.Go.ChangeSpec) : _root_.Go.OpenSpec := { _root_.Go.OpenSpec.ofChange s with cond := some uptoSmall }

/-- 'stratumlaw09.ParseSchemas', WHERE WHAT IT READS IS OF BULK AT MOST 1048576: true; the input reads as it did. -/
def parseSchemasUptoRow : OpenClaim := { program := "ytbdcndkafaajpaa", sum := "008bc49b8fcefc5ddb8cc59dac7bf2e3d1128a568d0dfa2592d6f07304e20ed0", func := "stratum/stratumlaw09.ParseSchemas", spec := "parseSchemas", inPlace := ["internal/bytealg.IndexByteString", "math/bits.Add64"], unfollowed := true, recurses := true, apart := false, narrowed := true }
def ParseSchemasUptoSaid : Prop := parseSchemasUptoRow.holds Try.pinned (OpenSpec.upto parseSchemasSpec)

/-- 'stratumlaw09.ParseValues', WHERE WHAT IT READS IS OF BULK AT MOST 1048576: true; the input reads as it did. -/
def parseValuesUptoRow : OpenClaim := { program := "ytbdcndkafaajpaa", sum := "008bc49b8fcefc5ddb8cc59dac7bf2e3d1128a568d0dfa2592d6f07304e20ed0", func := "stratum/stratumlaw09.ParseValues", spec := "parseValues", inPlace := ["internal/bytealg.IndexByteString", "math/bits.Add64"], unfollowed := true, recurses := true, apart := false, narrowed := true }
def ParseValuesUptoSaid : Prop := parseValuesUptoRow.holds Try.pinned (OpenSpec.upto parseValuesSpec)

/-- 'stratumlaw09.ParseBlanks', WHERE WHAT IT READS IS OF BULK AT MOST 1048576: true; the input reads as it did. -/
def parseBlanksUptoRow : OpenClaim := { program := "ytbdcndkafaajpaa", sum := "008bc49b8fcefc5ddb8cc59dac7bf2e3d1128a568d0dfa2592d6f07304e20ed0", func := "stratum/stratumlaw09.ParseBlanks", spec := "parseBlanks", inPlace := ["internal/bytealg.IndexByteString", "math/bits.Add64"], unfollowed := true, recurses := true, apart := false, narrowed := true }
def ParseBlanksUptoSaid : Prop := parseBlanksUptoRow.holds Try.pinned (OpenSpec.upto parseBlanksSpec)

/-- 'stratumlaw09.ParseBrackets', WHERE WHAT IT READS IS OF BULK AT MOST 1048576: true; the input reads as it did. -/
def parseBracketsUptoRow : OpenClaim := { program := "ytbdcndkafaajpaa", sum := "008bc49b8fcefc5ddb8cc59dac7bf2e3d1128a568d0dfa2592d6f07304e20ed0", func := "stratum/stratumlaw09.ParseBrackets", spec := "parseBrackets", inPlace := ["internal/bytealg.IndexByteString", "math/bits.Add64"], unfollowed := true, recurses := true, apart := false, narrowed := true }
def ParseBracketsUptoSaid : Prop := parseBracketsUptoRow.holds Try.pinned (OpenSpec.upto parseBracketsSpec)

/-- 'stratumlaw09.ParseJoins', WHERE WHAT IT READS IS OF BULK AT MOST 1048576: true; the input reads as it did. -/
def parseJoinsUptoRow : OpenClaim := { program := "ytbdcndkafaajpaa", sum := "008bc49b8fcefc5ddb8cc59dac7bf2e3d1128a568d0dfa2592d6f07304e20ed0", func := "stratum/stratumlaw09.ParseJoins", spec := "parseJoins", inPlace := ["internal/bytealg.IndexByteString", "math/bits.Add64"], unfollowed := true, recurses := true, apart := false, narrowed := true }
def ParseJoinsUptoSaid : Prop := parseJoinsUptoRow.holds Try.pinned (OpenSpec.upto parseJoinsSpec)

/-- 'stratumlaw09.ParseFaults', WHERE WHAT IT READS IS OF BULK AT MOST 1048576: true; the input reads as it did. -/
def parseFaultsUptoRow : OpenClaim := { program := "ytbdcndkafaajpaa", sum := "008bc49b8fcefc5ddb8cc59dac7bf2e3d1128a568d0dfa2592d6f07304e20ed0", func := "stratum/stratumlaw09.ParseFaults", spec := "parseFaults", inPlace := ["internal/bytealg.IndexByteString", "math/bits.Add64"], unfollowed := true, recurses := true, apart := false, narrowed := true }
def ParseFaultsUptoSaid : Prop := parseFaultsUptoRow.holds Try.pinned (OpenSpec.upto parseFaultsSpec)

/-- 'stratumlaw09.ParseKeeps', WHERE WHAT IT READS IS OF BULK AT MOST 1048576: true; the input reads as it did. -/
def parseKeepsUptoRow : OpenClaim := { program := "ytbdcndkafaajpaa", sum := "008bc49b8fcefc5ddb8cc59dac7bf2e3d1128a568d0dfa2592d6f07304e20ed0", func := "stratum/stratumlaw09.ParseKeeps", spec := "parseKeeps", inPlace := ["internal/bytealg.IndexByteString", "math/bits.Add64"], unfollowed := true, recurses := true, apart := false, narrowed := true }
def ParseKeepsUptoSaid : Prop := parseKeepsUptoRow.holds Try.pinned (OpenSpec.upto parseKeepsSpec)

end Rows
end Go.Proofs.Ytbdcndkafaajpaa
