/-
  NARROWER THAN 'FOR EVERY INPUT', by the rows' own cells (each row's printed sentence says how): PrintBack: laid · PrintRead: laid · PrintValues: laid · PrintSchemas: laid · PrintBuilds: laid · PrintPlaces: laid · PrintLeaves: laid.
  DERIVED. THE GIVEN ROWS OF THIS SEAT. 7 by the template 'for every input the law returns true; each argument reads behind the call as it read before'; 0 by the template 'total and deterministic' (their statements: YtaijoghpfobdbaaDoorTotals.lean).
  GIVEN WITH THE SEED: the statements are not yours to turn. If you find one false, say at which input.
  Laid BY PROGRAM, IN A SANDBOX (cutbox-rows.mjs): the forced cells as the released guide's own fill.sh prints them over the translation 28d245cce2fbe42f… (all of the seat's roots in one cut). By AI agents, Wed Nov 11 2026. No macro, syntax, notation, axiom, sorry.
-/
import Derived.Test.YtaijoghpfobdbaaDoorChecked
import GoSem.Claim
import GoSem.ClaimJoined
import GoSem.ClaimMapViews
import Derived.JoinedTies
import Derived.KernelRfl
namespace Go.Proofs.YtaijoghpfobdbaaDoor
/- THE CELL 'sum', in the pinned program and in every row, IS THE sha256 OF THE DUMP (.gsa) THAT YtaijoghpfobdbaaDoorProg.lean LOADS. Nothing in Lean hashes anything: it is a label: what it is worth is what the hold of that sum in a sandbox is worth. -/
noncomputable def Tryd.pinned : Pinned := { name := "ytaijoghpfobdbaadoor", sum := "28d245cce2fbe42fffbe66b862efb31d4ebab15653d7e99f1b7bdad7850e795b", checked := Tryd.checked }
namespace Rows
def none {H : Type} : Left H := { results := [], args := [] }

/- WHAT THE LISTED PACKAGE-LEVEL VARIABLES READ AS WHEN THE CALL BEGINS. Each datum BY PROGRAM (the guide's laid-datum.mjs) off the statement by which the dump's own 'gosem.cut.vars' lays the variable. In a bare row this is a premise. The card (YtaijoghpfobdbaaDoorCards.lean) ties it to the program's text. -/
def laid_math_bits_deBruijn32tab {H : Type} : DataW H := .agg [.lit (.int .u8 0), .lit (.int .u8 1), .lit (.int .u8 28), .lit (.int .u8 2), .lit (.int .u8 29), .lit (.int .u8 14), .lit (.int .u8 24), .lit (.int .u8 3), .lit (.int .u8 30), .lit (.int .u8 22), .lit (.int .u8 20), .lit (.int .u8 15), .lit (.int .u8 25), .lit (.int .u8 17), .lit (.int .u8 4), .lit (.int .u8 8), .lit (.int .u8 31), .lit (.int .u8 27), .lit (.int .u8 13), .lit (.int .u8 23), .lit (.int .u8 21), .lit (.int .u8 19), .lit (.int .u8 16), .lit (.int .u8 7), .lit (.int .u8 26), .lit (.int .u8 12), .lit (.int .u8 18), .lit (.int .u8 6), .lit (.int .u8 11), .lit (.int .u8 5), .lit (.int .u8 10), .lit (.int .u8 9)]
def laid_math_bits_deBruijn64tab {H : Type} : DataW H := .agg [.lit (.int .u8 0), .lit (.int .u8 1), .lit (.int .u8 56), .lit (.int .u8 2), .lit (.int .u8 57), .lit (.int .u8 49), .lit (.int .u8 28), .lit (.int .u8 3), .lit (.int .u8 61), .lit (.int .u8 58), .lit (.int .u8 42), .lit (.int .u8 50), .lit (.int .u8 38), .lit (.int .u8 29), .lit (.int .u8 17), .lit (.int .u8 4), .lit (.int .u8 62), .lit (.int .u8 47), .lit (.int .u8 59), .lit (.int .u8 36), .lit (.int .u8 45), .lit (.int .u8 43), .lit (.int .u8 51), .lit (.int .u8 22), .lit (.int .u8 53), .lit (.int .u8 39), .lit (.int .u8 33), .lit (.int .u8 30), .lit (.int .u8 24), .lit (.int .u8 18), .lit (.int .u8 12), .lit (.int .u8 5), .lit (.int .u8 63), .lit (.int .u8 55), .lit (.int .u8 48), .lit (.int .u8 27), .lit (.int .u8 60), .lit (.int .u8 41), .lit (.int .u8 37), .lit (.int .u8 16), .lit (.int .u8 46), .lit (.int .u8 35), .lit (.int .u8 44), .lit (.int .u8 21), .lit (.int .u8 52), .lit (.int .u8 32), .lit (.int .u8 23), .lit (.int .u8 11), .lit (.int .u8 54), .lit (.int .u8 26), .lit (.int .u8 40), .lit (.int .u8 15), .lit (.int .u8 34), .lit (.int .u8 20), .lit (.int .u8 31), .lit (.int .u8 10), .lit (.int .u8 25), .lit (.int .u8 14), .lit (.int .u8 19), .lit (.int .u8 9), .lit (.int .u8 13), .lit (.int .u8 8), .lit (.int .u8 7), .lit (.int .u8 6)]
def laid_internal_strconv_uint64pow10 {H : Type} : DataW H := .agg [.lit (.int .u64 1), .lit (.int .u64 10), .lit (.int .u64 100), .lit (.int .u64 1000), .lit (.int .u64 10000), .lit (.int .u64 100000), .lit (.int .u64 1000000), .lit (.int .u64 10000000), .lit (.int .u64 100000000), .lit (.int .u64 1000000000), .lit (.int .u64 10000000000), .lit (.int .u64 100000000000), .lit (.int .u64 1000000000000), .lit (.int .u64 10000000000000), .lit (.int .u64 100000000000000), .lit (.int .u64 1000000000000000), .lit (.int .u64 10000000000000000), .lit (.int .u64 100000000000000000), .lit (.int .u64 1000000000000000000), .lit (.int .u64 10000000000000000000)]

/-- 'stratumlaw10.PrintBack': WHATEVER THE INPUT: true; the input reads as it did. -/
def printBackSpec : ChangeSpec := { name := "printBack", fn := fun _ => fun
  | [d1, d2] => { results := [.lit (.bool true)], args := [d1, d2] }
  | _ => none }
def printBackRow : OpenClaim := { program := "ytaijoghpfobdbaadoor", sum := "28d245cce2fbe42fffbe66b862efb31d4ebab15653d7e99f1b7bdad7850e795b", func := "stratum/stratumlaw10.PrintBack", spec := "printBack", inPlace := ["internal/abi.NoEscape", "internal/bytealg.IndexByteString", "math/bits.Add64"], unfollowed := true, recurses := true, named := ["internal/strconv.uint64pow10", "math/bits.deBruijn32tab", "math/bits.deBruijn64tab"], apart := false, laid := [("math/bits.deBruijn32tab", laid_math_bits_deBruijn32tab), ("math/bits.deBruijn64tab", laid_math_bits_deBruijn64tab), ("internal/strconv.uint64pow10", laid_internal_strconv_uint64pow10)] }
def PrintBackSaid : Prop := printBackRow.holds Tryd.pinned (OpenSpec.ofChange printBackSpec)

/-- ITS FALSE NEIGHBOUR: 'it returns false'. Refute it at one input. -/
def printBackWrong : ChangeSpec := { name := "printBack", fn := fun _ => fun
  | [d1, d2] => { results := [.lit (.bool false)], args := [d1, d2] }
  | _ => none }
def PrintBackWrongFalsely : Prop := printBackRow.holds Tryd.pinned (OpenSpec.ofChange printBackWrong)

/-- 'stratumlaw10.PrintRead': WHATEVER THE INPUT: true; the input reads as it did. -/
def printReadSpec : ChangeSpec := { name := "printRead", fn := fun _ => fun
  | [d1, d2] => { results := [.lit (.bool true)], args := [d1, d2] }
  | _ => none }
def printReadRow : OpenClaim := { program := "ytaijoghpfobdbaadoor", sum := "28d245cce2fbe42fffbe66b862efb31d4ebab15653d7e99f1b7bdad7850e795b", func := "stratum/stratumlaw10.PrintRead", spec := "printRead", inPlace := ["internal/abi.NoEscape", "internal/bytealg.IndexByteString", "math/bits.Add64"], unfollowed := true, recurses := true, named := ["internal/strconv.uint64pow10", "math/bits.deBruijn32tab", "math/bits.deBruijn64tab"], apart := false, laid := [("math/bits.deBruijn32tab", laid_math_bits_deBruijn32tab), ("math/bits.deBruijn64tab", laid_math_bits_deBruijn64tab), ("internal/strconv.uint64pow10", laid_internal_strconv_uint64pow10)] }
def PrintReadSaid : Prop := printReadRow.holds Tryd.pinned (OpenSpec.ofChange printReadSpec)

/-- ITS FALSE NEIGHBOUR: 'it returns false'. Refute it at one input. -/
def printReadWrong : ChangeSpec := { name := "printRead", fn := fun _ => fun
  | [d1, d2] => { results := [.lit (.bool false)], args := [d1, d2] }
  | _ => none }
def PrintReadWrongFalsely : Prop := printReadRow.holds Tryd.pinned (OpenSpec.ofChange printReadWrong)

/-- 'stratumlaw10.PrintValues': WHATEVER THE INPUT: true; the input reads as it did. -/
def printValuesSpec : ChangeSpec := { name := "printValues", fn := fun _ => fun
  | [d] => { results := [.lit (.bool true)], args := [d] }
  | _ => none }
def printValuesRow : OpenClaim := { program := "ytaijoghpfobdbaadoor", sum := "28d245cce2fbe42fffbe66b862efb31d4ebab15653d7e99f1b7bdad7850e795b", func := "stratum/stratumlaw10.PrintValues", spec := "printValues", inPlace := ["internal/abi.NoEscape"], unfollowed := true, recurses := true, named := ["internal/strconv.uint64pow10", "math/bits.deBruijn32tab", "math/bits.deBruijn64tab"], apart := false, laid := [("math/bits.deBruijn32tab", laid_math_bits_deBruijn32tab), ("math/bits.deBruijn64tab", laid_math_bits_deBruijn64tab), ("internal/strconv.uint64pow10", laid_internal_strconv_uint64pow10)] }
def PrintValuesSaid : Prop := printValuesRow.holds Tryd.pinned (OpenSpec.ofChange printValuesSpec)

/-- ITS FALSE NEIGHBOUR: 'it returns false'. Refute it at one input. -/
def printValuesWrong : ChangeSpec := { name := "printValues", fn := fun _ => fun
  | [d] => { results := [.lit (.bool false)], args := [d] }
  | _ => none }
def PrintValuesWrongFalsely : Prop := printValuesRow.holds Tryd.pinned (OpenSpec.ofChange printValuesWrong)

/-- 'stratumlaw10.PrintSchemas': WHATEVER THE INPUT: true; the input reads as it did. -/
def printSchemasSpec : ChangeSpec := { name := "printSchemas", fn := fun _ => fun
  | [d] => { results := [.lit (.bool true)], args := [d] }
  | _ => none }
def printSchemasRow : OpenClaim := { program := "ytaijoghpfobdbaadoor", sum := "28d245cce2fbe42fffbe66b862efb31d4ebab15653d7e99f1b7bdad7850e795b", func := "stratum/stratumlaw10.PrintSchemas", spec := "printSchemas", inPlace := ["internal/abi.NoEscape"], unfollowed := true, recurses := true, named := ["internal/strconv.uint64pow10", "math/bits.deBruijn32tab", "math/bits.deBruijn64tab"], apart := false, laid := [("math/bits.deBruijn32tab", laid_math_bits_deBruijn32tab), ("math/bits.deBruijn64tab", laid_math_bits_deBruijn64tab), ("internal/strconv.uint64pow10", laid_internal_strconv_uint64pow10)] }
def PrintSchemasSaid : Prop := printSchemasRow.holds Tryd.pinned (OpenSpec.ofChange printSchemasSpec)

/-- ITS FALSE NEIGHBOUR: 'it returns false'. Refute it at one input. -/
def printSchemasWrong : ChangeSpec := { name := "printSchemas", fn := fun _ => fun
  | [d] => { results := [.lit (.bool false)], args := [d] }
  | _ => none }
def PrintSchemasWrongFalsely : Prop := printSchemasRow.holds Tryd.pinned (OpenSpec.ofChange printSchemasWrong)

/-- 'stratumlaw10.PrintBuilds': WHATEVER THE INPUT: true; the input reads as it did. -/
def printBuildsSpec : ChangeSpec := { name := "printBuilds", fn := fun _ => fun
  | [d] => { results := [.lit (.bool true)], args := [d] }
  | _ => none }
def printBuildsRow : OpenClaim := { program := "ytaijoghpfobdbaadoor", sum := "28d245cce2fbe42fffbe66b862efb31d4ebab15653d7e99f1b7bdad7850e795b", func := "stratum/stratumlaw10.PrintBuilds", spec := "printBuilds", inPlace := ["internal/abi.NoEscape"], unfollowed := true, recurses := true, named := ["internal/strconv.uint64pow10", "math/bits.deBruijn32tab", "math/bits.deBruijn64tab"], apart := false, laid := [("math/bits.deBruijn32tab", laid_math_bits_deBruijn32tab), ("math/bits.deBruijn64tab", laid_math_bits_deBruijn64tab), ("internal/strconv.uint64pow10", laid_internal_strconv_uint64pow10)] }
def PrintBuildsSaid : Prop := printBuildsRow.holds Tryd.pinned (OpenSpec.ofChange printBuildsSpec)

/-- ITS FALSE NEIGHBOUR: 'it returns false'. Refute it at one input. -/
def printBuildsWrong : ChangeSpec := { name := "printBuilds", fn := fun _ => fun
  | [d] => { results := [.lit (.bool false)], args := [d] }
  | _ => none }
def PrintBuildsWrongFalsely : Prop := printBuildsRow.holds Tryd.pinned (OpenSpec.ofChange printBuildsWrong)

/-- 'stratumlaw10.PrintPlaces': WHATEVER THE INPUT: true; the input reads as it did. -/
def printPlacesSpec : ChangeSpec := { name := "printPlaces", fn := fun _ => fun
  | [d1, d2] => { results := [.lit (.bool true)], args := [d1, d2] }
  | _ => none }
def printPlacesRow : OpenClaim := { program := "ytaijoghpfobdbaadoor", sum := "28d245cce2fbe42fffbe66b862efb31d4ebab15653d7e99f1b7bdad7850e795b", func := "stratum/stratumlaw10.PrintPlaces", spec := "printPlaces", inPlace := ["internal/abi.NoEscape"], unfollowed := true, recurses := true, named := ["internal/strconv.uint64pow10", "math/bits.deBruijn32tab", "math/bits.deBruijn64tab"], apart := false, laid := [("math/bits.deBruijn32tab", laid_math_bits_deBruijn32tab), ("math/bits.deBruijn64tab", laid_math_bits_deBruijn64tab), ("internal/strconv.uint64pow10", laid_internal_strconv_uint64pow10)] }
def PrintPlacesSaid : Prop := printPlacesRow.holds Tryd.pinned (OpenSpec.ofChange printPlacesSpec)

/-- ITS FALSE NEIGHBOUR: 'it returns false'. Refute it at one input. -/
def printPlacesWrong : ChangeSpec := { name := "printPlaces", fn := fun _ => fun
  | [d1, d2] => { results := [.lit (.bool false)], args := [d1, d2] }
  | _ => none }
def PrintPlacesWrongFalsely : Prop := printPlacesRow.holds Tryd.pinned (OpenSpec.ofChange printPlacesWrong)

/-- 'stratumlaw10.PrintLeaves': WHATEVER THE INPUT: true; the input reads as it did. -/
def printLeavesSpec : ChangeSpec := { name := "printLeaves", fn := fun _ => fun
  | [d1, d2] => { results := [.lit (.bool true)], args := [d1, d2] }
  | _ => none }
def printLeavesRow : OpenClaim := { program := "ytaijoghpfobdbaadoor", sum := "28d245cce2fbe42fffbe66b862efb31d4ebab15653d7e99f1b7bdad7850e795b", func := "stratum/stratumlaw10.PrintLeaves", spec := "printLeaves", inPlace := ["internal/abi.NoEscape", "internal/bytealg.IndexByteString", "math/bits.Add64"], unfollowed := true, recurses := true, named := ["internal/strconv.uint64pow10", "math/bits.deBruijn32tab", "math/bits.deBruijn64tab"], apart := false, laid := [("math/bits.deBruijn32tab", laid_math_bits_deBruijn32tab), ("math/bits.deBruijn64tab", laid_math_bits_deBruijn64tab), ("internal/strconv.uint64pow10", laid_internal_strconv_uint64pow10)] }
def PrintLeavesSaid : Prop := printLeavesRow.holds Tryd.pinned (OpenSpec.ofChange printLeavesSpec)

/-- ITS FALSE NEIGHBOUR: 'it returns false'. Refute it at one input. -/
def printLeavesWrong : ChangeSpec := { name := "printLeaves", fn := fun _ => fun
  | [d1, d2] => { results := [.lit (.bool false)], args := [d1, d2] }
  | _ => none }
def PrintLeavesWrongFalsely : Prop := printLeavesRow.holds Tryd.pinned (OpenSpec.ofChange printLeavesWrong)

/- THE SECOND FORM. 'bulk': how many values and letters a reading holds, each counted each time it is reached (what is shared counts as often as it is met; a slice's spare places count too). A statement '..UptoSaid' is the law's where the arguments, and the package variables that the reading takes, are together of bulk at most 1048576: NARROWER than '..Said'. Prove '..Said' where nothing that the law and all that it calls make is longer than what came in: it says more and counts as full. Else prove '..UptoSaid'. A law counts once. -/
mutual
def uptoBulk {H : Type} : DataW H → Nat
  | .lit (.string bytes) => bytes.length + 1
  | .lit _ => 1
  | .nil => 1
  | .ptr d => uptoBulk d + 1
  | .slice elems spare => uptoBulkAll elems + uptoBulkAll spare + 1
  | .agg parts => uptoBulkAll parts + 1
  | .iface _ d => uptoBulk d + 1
  | .map entries => uptoBulkEntries entries + 1
  | .held _ => 1
def uptoBulkAll {H : Type} : List (DataW H) → Nat
  | [] => 0
  | d :: r => uptoBulk d + uptoBulkAll r
def uptoBulkEntries {H : Type} : List (Lit × DataW H) → Nat
  | [] => 0
  | x :: r => uptoBulkEntry x + uptoBulkEntries r
def uptoBulkEntry {H : Type} : Lit × DataW H → Nat
  | (.string bytes, d) => bytes.length + uptoBulk d + 1
  | (_, d) => uptoBulk d + 1
 end
def uptoSmall : (H : Type) → List (DataW H) → Bool := fun _ ds => decide (uptoBulkAll ds ≤ 1048576)
def OpenSpec.upto (s : _root_.Go.ChangeSpec) : _root_.Go.OpenSpec := { _root_.Go.OpenSpec.ofChange s with cond := some uptoSmall }

/-- 'stratumlaw10.PrintBack', WHERE WHAT IT READS IS OF BULK AT MOST 1048576: true; the input reads as it did. -/
def printBackUptoRow : OpenClaim := { program := "ytaijoghpfobdbaadoor", sum := "28d245cce2fbe42fffbe66b862efb31d4ebab15653d7e99f1b7bdad7850e795b", func := "stratum/stratumlaw10.PrintBack", spec := "printBack", inPlace := ["internal/abi.NoEscape", "internal/bytealg.IndexByteString", "math/bits.Add64"], unfollowed := true, recurses := true, named := ["internal/strconv.uint64pow10", "math/bits.deBruijn32tab", "math/bits.deBruijn64tab"], apart := false, laid := [("math/bits.deBruijn32tab", laid_math_bits_deBruijn32tab), ("math/bits.deBruijn64tab", laid_math_bits_deBruijn64tab), ("internal/strconv.uint64pow10", laid_internal_strconv_uint64pow10)], narrowed := true }
def PrintBackUptoSaid : Prop := printBackUptoRow.holds Tryd.pinned (OpenSpec.upto printBackSpec)

/-- 'stratumlaw10.PrintRead', WHERE WHAT IT READS IS OF BULK AT MOST 1048576: true; the input reads as it did. -/
def printReadUptoRow : OpenClaim := { program := "ytaijoghpfobdbaadoor", sum := "28d245cce2fbe42fffbe66b862efb31d4ebab15653d7e99f1b7bdad7850e795b", func := "stratum/stratumlaw10.PrintRead", spec := "printRead", inPlace := ["internal/abi.NoEscape", "internal/bytealg.IndexByteString", "math/bits.Add64"], unfollowed := true, recurses := true, named := ["internal/strconv.uint64pow10", "math/bits.deBruijn32tab", "math/bits.deBruijn64tab"], apart := false, laid := [("math/bits.deBruijn32tab", laid_math_bits_deBruijn32tab), ("math/bits.deBruijn64tab", laid_math_bits_deBruijn64tab), ("internal/strconv.uint64pow10", laid_internal_strconv_uint64pow10)], narrowed := true }
def PrintReadUptoSaid : Prop := printReadUptoRow.holds Tryd.pinned (OpenSpec.upto printReadSpec)

/-- 'stratumlaw10.PrintValues', WHERE WHAT IT READS IS OF BULK AT MOST 1048576: true; the input reads as it did. -/
def printValuesUptoRow : OpenClaim := { program := "ytaijoghpfobdbaadoor", sum := "28d245cce2fbe42fffbe66b862efb31d4ebab15653d7e99f1b7bdad7850e795b", func := "stratum/stratumlaw10.PrintValues", spec := "printValues", inPlace := ["internal/abi.NoEscape"], unfollowed := true, recurses := true, named := ["internal/strconv.uint64pow10", "math/bits.deBruijn32tab", "math/bits.deBruijn64tab"], apart := false, laid := [("math/bits.deBruijn32tab", laid_math_bits_deBruijn32tab), ("math/bits.deBruijn64tab", laid_math_bits_deBruijn64tab), ("internal/strconv.uint64pow10", laid_internal_strconv_uint64pow10)], narrowed := true }
def PrintValuesUptoSaid : Prop := printValuesUptoRow.holds Tryd.pinned (OpenSpec.upto printValuesSpec)

/-- 'stratumlaw10.PrintSchemas', WHERE WHAT IT READS IS OF BULK AT MOST 1048576: true; the input reads as it did. -/
def printSchemasUptoRow : OpenClaim := { program := "ytaijoghpfobdbaadoor", sum := "28d245cce2fbe42fffbe66b862efb31d4ebab15653d7e99f1b7bdad7850e795b", func := "stratum/stratumlaw10.PrintSchemas", spec := "printSchemas", inPlace := ["internal/abi.NoEscape"], unfollowed := true, recurses := true, named := ["internal/strconv.uint64pow10", "math/bits.deBruijn32tab", "math/bits.deBruijn64tab"], apart := false, laid := [("math/bits.deBruijn32tab", laid_math_bits_deBruijn32tab), ("math/bits.deBruijn64tab", laid_math_bits_deBruijn64tab), ("internal/strconv.uint64pow10", laid_internal_strconv_uint64pow10)], narrowed := true }
def PrintSchemasUptoSaid : Prop := printSchemasUptoRow.holds Tryd.pinned (OpenSpec.upto printSchemasSpec)

/-- 'stratumlaw10.PrintBuilds', WHERE WHAT IT READS IS OF BULK AT MOST 1048576: true; the input reads as it did. -/
def printBuildsUptoRow : OpenClaim := { program := "ytaijoghpfobdbaadoor", sum := "28d245cce2fbe42fffbe66b862efb31d4ebab15653d7e99f1b7bdad7850e795b", func := "stratum/stratumlaw10.PrintBuilds", spec := "printBuilds", inPlace := ["internal/abi.NoEscape"], unfollowed := true, recurses := true, named := ["internal/strconv.uint64pow10", "math/bits.deBruijn32tab", "math/bits.deBruijn64tab"], apart := false, laid := [("math/bits.deBruijn32tab", laid_math_bits_deBruijn32tab), ("math/bits.deBruijn64tab", laid_math_bits_deBruijn64tab), ("internal/strconv.uint64pow10", laid_internal_strconv_uint64pow10)], narrowed := true }
def PrintBuildsUptoSaid : Prop := printBuildsUptoRow.holds Tryd.pinned (OpenSpec.upto printBuildsSpec)

/-- 'stratumlaw10.PrintPlaces', WHERE WHAT IT READS IS OF BULK AT MOST 1048576: true; the input reads as it did. -/
def printPlacesUptoRow : OpenClaim := { program := "ytaijoghpfobdbaadoor", sum := "28d245cce2fbe42fffbe66b862efb31d4ebab15653d7e99f1b7bdad7850e795b", func := "stratum/stratumlaw10.PrintPlaces", spec := "printPlaces", inPlace := ["internal/abi.NoEscape"], unfollowed := true, recurses := true, named := ["internal/strconv.uint64pow10", "math/bits.deBruijn32tab", "math/bits.deBruijn64tab"], apart := false, laid := [("math/bits.deBruijn32tab", laid_math_bits_deBruijn32tab), ("math/bits.deBruijn64tab", laid_math_bits_deBruijn64tab), ("internal/strconv.uint64pow10", laid_internal_strconv_uint64pow10)], narrowed := true }
def PrintPlacesUptoSaid : Prop := printPlacesUptoRow.holds Tryd.pinned (OpenSpec.upto printPlacesSpec)

/-- 'stratumlaw10.PrintLeaves', WHERE WHAT IT READS IS OF BULK AT MOST 1048576: true; the input reads as it did. -/
def printLeavesUptoRow : OpenClaim := { program := "ytaijoghpfobdbaadoor", sum := "28d245cce2fbe42fffbe66b862efb31d4ebab15653d7e99f1b7bdad7850e795b", func := "stratum/stratumlaw10.PrintLeaves", spec := "printLeaves", inPlace := ["internal/abi.NoEscape", "internal/bytealg.IndexByteString", "math/bits.Add64"], unfollowed := true, recurses := true, named := ["internal/strconv.uint64pow10", "math/bits.deBruijn32tab", "math/bits.deBruijn64tab"], apart := false, laid := [("math/bits.deBruijn32tab", laid_math_bits_deBruijn32tab), ("math/bits.deBruijn64tab", laid_math_bits_deBruijn64tab), ("internal/strconv.uint64pow10", laid_internal_strconv_uint64pow10)], narrowed := true }
def PrintLeavesUptoSaid : Prop := printLeavesUptoRow.holds Tryd.pinned (OpenSpec.upto printLeavesSpec)

end Rows
end Go.Proofs.YtaijoghpfobdbaaDoor
