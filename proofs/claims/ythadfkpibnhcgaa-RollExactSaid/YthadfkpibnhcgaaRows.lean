/-
  No cell of these rows narrows 'for every input' (looked for: loops, veiled, ifaces, maps, wideKeys, modest, calm, conditions, laid).
  DERIVED. THE GIVEN ROWS OF THIS SEAT. 5 by the template 'for every input the law returns true; each argument reads behind the call as it read before'; 0 by the template 'total and deterministic' (their statements: YthadfkpibnhcgaaTotals.lean).
  GIVEN WITH THE SEED: the statements are not yours to turn. If you find one false, say at which input.
  Laid BY PROGRAM, IN A SANDBOX (cutbox-rows.mjs): the forced cells as the released guide's own fill.sh prints them over the translation ba8b63b6688d35e6… (all of the seat's roots in one cut). By AI agents, Wed Nov 11 2026. No macro, syntax, notation, axiom, sorry.
-/
import Derived.Test.YthadfkpibnhcgaaChecked
import GoSem.Claim
import GoSem.ClaimJoined
import GoSem.ClaimMapViews
import Derived.JoinedTies
import Derived.KernelRfl
namespace Go.Proofs.Ythadfkpibnhcgaa
/- THE CELL 'sum', in the pinned program and in every row, IS THE sha256 OF THE DUMP (.gsa) THAT YthadfkpibnhcgaaProg.lean LOADS. Nothing in Lean hashes anything: it is a label: what it is worth is what the hold of that sum in a sandbox is worth. -/
noncomputable def Try.pinned : Pinned := { name := "ythadfkpibnhcgaa", sum := "ba8b63b6688d35e6fb7c5afb6cc14c3ac627e6f370cf2b21ee74dbcc570bf7ba", checked := Try.checked }
namespace Rows
def none {H : Type} : Left H := { results := [], args := [] }

/-- 'stratumlaw01.RollApart': WHATEVER THE INPUT: true; the input reads as it did. -/
def rollApartSpec : ChangeSpec := { name := "rollApart", fn := fun _ => fun
  | [d] => { results := [.lit (.bool true)], args := [d] }
  | _ => none }
def rollApartRow : OpenClaim := { program := "ythadfkpibnhcgaa", sum := "ba8b63b6688d35e6fb7c5afb6cc14c3ac627e6f370cf2b21ee74dbcc570bf7ba", func := "stratum/stratumlaw01.RollApart", spec := "rollApart", apart := false }
def RollApartSaid : Prop := rollApartRow.holds Try.pinned (OpenSpec.ofChange rollApartSpec)

/-- ITS FALSE NEIGHBOUR: 'it returns false'. Refute it at one input. -/
def rollApartWrong : ChangeSpec := { name := "rollApart", fn := fun _ => fun
  | [d] => { results := [.lit (.bool false)], args := [d] }
  | _ => none }
def RollApartWrongFalsely : Prop := rollApartRow.holds Try.pinned (OpenSpec.ofChange rollApartWrong)

/-- 'stratumlaw01.RollExact': WHATEVER THE INPUT: true; the input reads as it did. -/
def rollExactSpec : ChangeSpec := { name := "rollExact", fn := fun _ => fun
  | [d] => { results := [.lit (.bool true)], args := [d] }
  | _ => none }
def rollExactRow : OpenClaim := { program := "ythadfkpibnhcgaa", sum := "ba8b63b6688d35e6fb7c5afb6cc14c3ac627e6f370cf2b21ee74dbcc570bf7ba", func := "stratum/stratumlaw01.RollExact", spec := "rollExact", apart := false }
def RollExactSaid : Prop := rollExactRow.holds Try.pinned (OpenSpec.ofChange rollExactSpec)

/-- ITS FALSE NEIGHBOUR: 'it returns false'. Refute it at one input. -/
def rollExactWrong : ChangeSpec := { name := "rollExact", fn := fun _ => fun
  | [d] => { results := [.lit (.bool false)], args := [d] }
  | _ => none }
def RollExactWrongFalsely : Prop := rollExactRow.holds Try.pinned (OpenSpec.ofChange rollExactWrong)

/-- 'stratumlaw01.RollMemory': WHATEVER THE INPUT: true; the input reads as it did. -/
def rollMemorySpec : ChangeSpec := { name := "rollMemory", fn := fun _ => fun
  | [d] => { results := [.lit (.bool true)], args := [d] }
  | _ => none }
def rollMemoryRow : OpenClaim := { program := "ythadfkpibnhcgaa", sum := "ba8b63b6688d35e6fb7c5afb6cc14c3ac627e6f370cf2b21ee74dbcc570bf7ba", func := "stratum/stratumlaw01.RollMemory", spec := "rollMemory", apart := false }
def RollMemorySaid : Prop := rollMemoryRow.holds Try.pinned (OpenSpec.ofChange rollMemorySpec)

/-- ITS FALSE NEIGHBOUR: 'it returns false'. Refute it at one input. -/
def rollMemoryWrong : ChangeSpec := { name := "rollMemory", fn := fun _ => fun
  | [d] => { results := [.lit (.bool false)], args := [d] }
  | _ => none }
def RollMemoryWrongFalsely : Prop := rollMemoryRow.holds Try.pinned (OpenSpec.ofChange rollMemoryWrong)

/-- 'stratumlaw01.RollNumbers': WHATEVER THE INPUT: true; the input reads as it did. -/
def rollNumbersSpec : ChangeSpec := { name := "rollNumbers", fn := fun _ => fun
  | [d] => { results := [.lit (.bool true)], args := [d] }
  | _ => none }
def rollNumbersRow : OpenClaim := { program := "ythadfkpibnhcgaa", sum := "ba8b63b6688d35e6fb7c5afb6cc14c3ac627e6f370cf2b21ee74dbcc570bf7ba", func := "stratum/stratumlaw01.RollNumbers", spec := "rollNumbers", apart := false }
def RollNumbersSaid : Prop := rollNumbersRow.holds Try.pinned (OpenSpec.ofChange rollNumbersSpec)

/-- ITS FALSE NEIGHBOUR: 'it returns false'. Refute it at one input. -/
def rollNumbersWrong : ChangeSpec := { name := "rollNumbers", fn := fun _ => fun
  | [d] => { results := [.lit (.bool false)], args := [d] }
  | _ => none }
def RollNumbersWrongFalsely : Prop := rollNumbersRow.holds Try.pinned (OpenSpec.ofChange rollNumbersWrong)

/-- 'stratumlaw01.RollClosed': WHATEVER THE INPUT: true; the input reads as it did. -/
def rollClosedSpec : ChangeSpec := { name := "rollClosed", fn := fun _ => fun
  | [d] => { results := [.lit (.bool true)], args := [d] }
  | _ => none }
def rollClosedRow : OpenClaim := { program := "ythadfkpibnhcgaa", sum := "ba8b63b6688d35e6fb7c5afb6cc14c3ac627e6f370cf2b21ee74dbcc570bf7ba", func := "stratum/stratumlaw01.RollClosed", spec := "rollClosed", apart := false }
def RollClosedSaid : Prop := rollClosedRow.holds Try.pinned (OpenSpec.ofChange rollClosedSpec)

/-- ITS FALSE NEIGHBOUR: 'it returns false'. Refute it at one input. -/
def rollClosedWrong : ChangeSpec := { name := "rollClosed", fn := fun _ => fun
  | [d] => { results := [.lit (.bool false)], args := [d] }
  | _ => none }
def RollClosedWrongFalsely : Prop := rollClosedRow.holds Try.pinned (OpenSpec.ofChange rollClosedWrong)

/- THE SECOND FORM. 'bulk': how many values and letters a reading holds, each counted each time it is reached (what is shared counts as often as it is met; a slice's spare places count too). A statement '..UptoSaid' is the law's where the arguments, and the package variables that the reading takes, are together of bulk at most 1048576: NARROWER than '..Said'. Prove '..Said' where nothing that the law and all that it calls make is longer than what came in: it says more and counts as full. Else prove '..UptoSaid'. A law counts once. -/
mutual
def uptoBulk {H : Type} : DataW H → Nat
  | .lit (.string bytes) => bytes.length + 1
  | .lit _ => 1
  | .nil => 1
  | .ptr d => uptoBulk d + 1
  | .slice elems spare => uptoBulkAll elems + uptoBulkAll spare + 1
  | .agg parts => uptoBulkAll parts + 1
  | .iface _ d => uptoBulk d + 1
  | .map entries => uptoBulkEntries entries + 1
  | .held _ => 1
def uptoBulkAll {H : Type} : List (DataW H) → Nat
  | [] => 0
  | d :: r => uptoBulk d + uptoBulkAll r
def uptoBulkEntries {H : Type} : List (Lit × DataW H) → Nat
  | [] => 0
  | x :: r => uptoBulkEntry x + uptoBulkEntries r
def uptoBulkEntry {H : Type} : Lit × DataW H → Nat
  | (.string bytes, d) => bytes.length + uptoBulk d + 1
  | (_, d) => uptoBulk d + 1
 end
def uptoSmall : (H : Type) → List (DataW H) → Bool := fun _ ds => decide (uptoBulkAll ds ≤ 1048576)
def OpenSpec.upto (s : _root_.Go.ChangeSpec) : _root_.Go.OpenSpec := { _root_.Go.OpenSpec.ofChange s with cond := some uptoSmall }

/-- 'stratumlaw01.RollApart', WHERE WHAT IT READS IS OF BULK AT MOST 1048576: true; the input reads as it did. -/
def rollApartUptoRow : OpenClaim := { program := "ythadfkpibnhcgaa", sum := "ba8b63b6688d35e6fb7c5afb6cc14c3ac627e6f370cf2b21ee74dbcc570bf7ba", func := "stratum/stratumlaw01.RollApart", spec := "rollApart", apart := false, narrowed := true }
def RollApartUptoSaid : Prop := rollApartUptoRow.holds Try.pinned (OpenSpec.upto rollApartSpec)

/-- 'stratumlaw01.RollExact', WHERE WHAT IT READS IS OF BULK AT MOST 1048576: true; the input reads as it did. -/
def rollExactUptoRow : OpenClaim := { program := "ythadfkpibnhcgaa", sum := "ba8b63b6688d35e6fb7c5afb6cc14c3ac627e6f370cf2b21ee74dbcc570bf7ba", func := "stratum/stratumlaw01.RollExact", spec := "rollExact", apart := false, narrowed := true }
def RollExactUptoSaid : Prop := rollExactUptoRow.holds Try.pinned (OpenSpec.upto rollExactSpec)

/-- 'stratumlaw01.RollMemory', WHERE WHAT IT READS IS OF BULK AT MOST 1048576: true; the input reads as it did. -/
def rollMemoryUptoRow : OpenClaim := { program := "ythadfkpibnhcgaa", sum := "ba8b63b6688d35e6fb7c5afb6cc14c3ac627e6f370cf2b21ee74dbcc570bf7ba", func := "stratum/stratumlaw01.RollMemory", spec := "rollMemory", apart := false, narrowed := true }
def RollMemoryUptoSaid : Prop := rollMemoryUptoRow.holds Try.pinned (OpenSpec.upto rollMemorySpec)

/-- 'stratumlaw01.RollNumbers', WHERE WHAT IT READS IS OF BULK AT MOST 1048576: true; the input reads as it did. -/
def rollNumbersUptoRow : OpenClaim := { program := "ythadfkpibnhcgaa", sum := "ba8b63b6688d35e6fb7c5afb6cc14c3ac627e6f370cf2b21ee74dbcc570bf7ba", func := "stratum/stratumlaw01.RollNumbers", spec := "rollNumbers", apart := false, narrowed := true }
def RollNumbersUptoSaid : Prop := rollNumbersUptoRow.holds Try.pinned (OpenSpec.upto rollNumbersSpec)

/-- 'stratumlaw01.RollClosed', WHERE WHAT IT READS IS OF BULK AT MOST 1048576: true; the input reads as it did. -/
def rollClosedUptoRow : OpenClaim := { program := "ythadfkpibnhcgaa", sum := "ba8b63b6688d35e6fb7c5afb6cc14c3ac627e6f370cf2b21ee74dbcc570bf7ba", func := "stratum/stratumlaw01.RollClosed", spec := "rollClosed", apart := false, narrowed := true }
def RollClosedUptoSaid : Prop := rollClosedUptoRow.holds Try.pinned (OpenSpec.upto rollClosedSpec)

end Rows
end Go.Proofs.Ythadfkpibnhcgaa
