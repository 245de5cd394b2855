/-
  No cell of these rows narrows 'for every input' (looked for: loops, veiled, ifaces, maps, wideKeys, modest, calm, conditions, laid).
  DERIVED. THE GIVEN ROWS OF THIS SEAT. 7 by the template 'for every input the law returns true; each argument reads behind the call as it read before'; 0 by the template 'total and deterministic' (their statements: YtedhkelochpdnaaTotals.lean).
  GIVEN WITH THE SEED: the statements are not yours to turn. If you find one false, say at which input.
  Laid BY PROGRAM, IN A SANDBOX (cutbox-rows.mjs): the forced cells as the released guide's own fill.sh prints them over the translation 7e41bd84a8093e37… (all of the seat's roots in one cut). By AI agents, Wed Nov 11 2026. No macro, syntax, notation, axiom, sorry.
-/
import Derived.Test.YtedhkelochpdnaaChecked
import GoSem.Claim
import GoSem.ClaimJoined
import GoSem.ClaimMapViews
import Derived.JoinedTies
import Derived.KernelRfl
namespace Go.Proofs.Ytedhkelochpdnaa
/- THE CELL 'sum', in the pinned program and in every row, IS THE sha256 OF THE DUMP (.gsa) THAT YtedhkelochpdnaaProg.lean LOADS. Nothing in Lean hashes anything: it is a label: what it is worth is what the hold of that sum in a sandbox is worth. -/
noncomputable def Try.pinned : Pinned := { name := "ytedhkelochpdnaa", sum := "7e41bd84a8093e377a44e530a206b59cde9da34d4584c9e589cd3b8babd197b0", checked := Try.checked }
namespace Rows
def none {H : Type} : Left H := { results := [], args := [] }

/-- 'stratumlaw08.LexTakes': WHATEVER THE INPUT: true; the input reads as it did. -/
def lexTakesSpec : ChangeSpec := { name := "lexTakes", fn := fun _ => fun
  | [d] => { results := [.lit (.bool true)], args := [d] }
  | _ => none }
def lexTakesRow : OpenClaim := { program := "ytedhkelochpdnaa", sum := "7e41bd84a8093e377a44e530a206b59cde9da34d4584c9e589cd3b8babd197b0", func := "stratum/stratumlaw08.LexTakes", spec := "lexTakes", inPlace := ["internal/bytealg.IndexByteString", "math/bits.Add64"], unfollowed := true, recurses := true, apart := false }
def LexTakesSaid : Prop := lexTakesRow.holds Try.pinned (OpenSpec.ofChange lexTakesSpec)

/-- ITS FALSE NEIGHBOUR: 'it returns false'. Refute it at one input. -/
def lexTakesWrong : ChangeSpec := { name := "lexTakes", fn := fun _ => fun
  | [d] => { results := [.lit (.bool false)], args := [d] }
  | _ => none }
def LexTakesWrongFalsely : Prop := lexTakesRow.holds Try.pinned (OpenSpec.ofChange lexTakesWrong)

/-- 'stratumlaw08.LexWords': WHATEVER THE INPUT: true; the input reads as it did. -/
def lexWordsSpec : ChangeSpec := { name := "lexWords", fn := fun _ => fun
  | [d] => { results := [.lit (.bool true)], args := [d] }
  | _ => none }
def lexWordsRow : OpenClaim := { program := "ytedhkelochpdnaa", sum := "7e41bd84a8093e377a44e530a206b59cde9da34d4584c9e589cd3b8babd197b0", func := "stratum/stratumlaw08.LexWords", spec := "lexWords", inPlace := ["internal/bytealg.IndexByteString", "math/bits.Add64"], unfollowed := true, recurses := true, apart := false }
def LexWordsSaid : Prop := lexWordsRow.holds Try.pinned (OpenSpec.ofChange lexWordsSpec)

/-- ITS FALSE NEIGHBOUR: 'it returns false'. Refute it at one input. -/
def lexWordsWrong : ChangeSpec := { name := "lexWords", fn := fun _ => fun
  | [d] => { results := [.lit (.bool false)], args := [d] }
  | _ => none }
def LexWordsWrongFalsely : Prop := lexWordsRow.holds Try.pinned (OpenSpec.ofChange lexWordsWrong)

/-- 'stratumlaw08.LexBack': WHATEVER THE INPUT: true; the input reads as it did. -/
def lexBackSpec : ChangeSpec := { name := "lexBack", fn := fun _ => fun
  | [d] => { results := [.lit (.bool true)], args := [d] }
  | _ => none }
def lexBackRow : OpenClaim := { program := "ytedhkelochpdnaa", sum := "7e41bd84a8093e377a44e530a206b59cde9da34d4584c9e589cd3b8babd197b0", func := "stratum/stratumlaw08.LexBack", spec := "lexBack", inPlace := ["internal/bytealg.IndexByteString", "math/bits.Add64"], unfollowed := true, recurses := true, apart := false }
def LexBackSaid : Prop := lexBackRow.holds Try.pinned (OpenSpec.ofChange lexBackSpec)

/-- ITS FALSE NEIGHBOUR: 'it returns false'. Refute it at one input. -/
def lexBackWrong : ChangeSpec := { name := "lexBack", fn := fun _ => fun
  | [d] => { results := [.lit (.bool false)], args := [d] }
  | _ => none }
def LexBackWrongFalsely : Prop := lexBackRow.holds Try.pinned (OpenSpec.ofChange lexBackWrong)

/-- 'stratumlaw08.LexApart': WHATEVER THE INPUT: true; the input reads as it did. -/
def lexApartSpec : ChangeSpec := { name := "lexApart", fn := fun _ => fun
  | [d] => { results := [.lit (.bool true)], args := [d] }
  | _ => none }
def lexApartRow : OpenClaim := { program := "ytedhkelochpdnaa", sum := "7e41bd84a8093e377a44e530a206b59cde9da34d4584c9e589cd3b8babd197b0", func := "stratum/stratumlaw08.LexApart", spec := "lexApart", inPlace := ["internal/bytealg.IndexByteString", "math/bits.Add64"], unfollowed := true, recurses := true, apart := false }
def LexApartSaid : Prop := lexApartRow.holds Try.pinned (OpenSpec.ofChange lexApartSpec)

/-- ITS FALSE NEIGHBOUR: 'it returns false'. Refute it at one input. -/
def lexApartWrong : ChangeSpec := { name := "lexApart", fn := fun _ => fun
  | [d] => { results := [.lit (.bool false)], args := [d] }
  | _ => none }
def LexApartWrongFalsely : Prop := lexApartRow.holds Try.pinned (OpenSpec.ofChange lexApartWrong)

/-- 'stratumlaw08.LexBlanks': WHATEVER THE INPUT: true; the input reads as it did. -/
def lexBlanksSpec : ChangeSpec := { name := "lexBlanks", fn := fun _ => fun
  | [d1, d2, d3] => { results := [.lit (.bool true)], args := [d1, d2, d3] }
  | _ => none }
def lexBlanksRow : OpenClaim := { program := "ytedhkelochpdnaa", sum := "7e41bd84a8093e377a44e530a206b59cde9da34d4584c9e589cd3b8babd197b0", func := "stratum/stratumlaw08.LexBlanks", spec := "lexBlanks", inPlace := ["internal/bytealg.IndexByteString", "math/bits.Add64"], unfollowed := true, recurses := true, apart := false }
def LexBlanksSaid : Prop := lexBlanksRow.holds Try.pinned (OpenSpec.ofChange lexBlanksSpec)

/-- ITS FALSE NEIGHBOUR: 'it returns false'. Refute it at one input. -/
def lexBlanksWrong : ChangeSpec := { name := "lexBlanks", fn := fun _ => fun
  | [d1, d2, d3] => { results := [.lit (.bool false)], args := [d1, d2, d3] }
  | _ => none }
def LexBlanksWrongFalsely : Prop := lexBlanksRow.holds Try.pinned (OpenSpec.ofChange lexBlanksWrong)

/-- 'stratumlaw08.LexNames': WHATEVER THE INPUT: true; the input reads as it did. -/
def lexNamesSpec : ChangeSpec := { name := "lexNames", fn := fun _ => fun
  | [d] => { results := [.lit (.bool true)], args := [d] }
  | _ => none }
def lexNamesRow : OpenClaim := { program := "ytedhkelochpdnaa", sum := "7e41bd84a8093e377a44e530a206b59cde9da34d4584c9e589cd3b8babd197b0", func := "stratum/stratumlaw08.LexNames", spec := "lexNames", inPlace := ["internal/bytealg.IndexByteString", "math/bits.Add64"], unfollowed := true, recurses := true, apart := false }
def LexNamesSaid : Prop := lexNamesRow.holds Try.pinned (OpenSpec.ofChange lexNamesSpec)

/-- ITS FALSE NEIGHBOUR: 'it returns false'. Refute it at one input. -/
def lexNamesWrong : ChangeSpec := { name := "lexNames", fn := fun _ => fun
  | [d] => { results := [.lit (.bool false)], args := [d] }
  | _ => none }
def LexNamesWrongFalsely : Prop := lexNamesRow.holds Try.pinned (OpenSpec.ofChange lexNamesWrong)

/-- 'stratumlaw08.LexFaults': WHATEVER THE INPUT: true; the input reads as it did. -/
def lexFaultsSpec : ChangeSpec := { name := "lexFaults", fn := fun _ => fun
  | [d1, d2] => { results := [.lit (.bool true)], args := [d1, d2] }
  | _ => none }
def lexFaultsRow : OpenClaim := { program := "ytedhkelochpdnaa", sum := "7e41bd84a8093e377a44e530a206b59cde9da34d4584c9e589cd3b8babd197b0", func := "stratum/stratumlaw08.LexFaults", spec := "lexFaults", inPlace := ["internal/bytealg.IndexByteString", "math/bits.Add64"], unfollowed := true, recurses := true, apart := false }
def LexFaultsSaid : Prop := lexFaultsRow.holds Try.pinned (OpenSpec.ofChange lexFaultsSpec)

/-- ITS FALSE NEIGHBOUR: 'it returns false'. Refute it at one input. -/
def lexFaultsWrong : ChangeSpec := { name := "lexFaults", fn := fun _ => fun
  | [d1, d2] => { results := [.lit (.bool false)], args := [d1, d2] }
  | _ => none }
def LexFaultsWrongFalsely : Prop := lexFaultsRow.holds Try.pinned (OpenSpec.ofChange lexFaultsWrong)

/- THE SECOND FORM. 'bulk': how many values and letters a reading holds, each counted each time it is reached (what is shared counts as often as it is met; a slice's spare places count too). A statement '..UptoSaid' is the law's where the arguments, and the package variables that the reading takes, are together of bulk at most 1048576: NARROWER than '..Said'. Prove '..Said' where nothing that the law and all that it calls make is longer than what came in: it says more and counts as full. Else prove '..UptoSaid'. A law counts once. -/
mutual
def uptoBulk {H : Type} : DataW H → Nat
  | .lit (.string bytes) => bytes.length + 1
  | .lit _ => 1
  | .nil => 1
  | .ptr d => uptoBulk d + 1
  | .slice elems spare => uptoBulkAll elems + uptoBulkAll spare + 1
  | .agg parts => uptoBulkAll parts + 1
  | .iface _ d => uptoBulk d + 1
  | .map entries => uptoBulkEntries entries + 1
  | .held _ => 1
def uptoBulkAll {H : Type} : List (DataW H) → Nat
  | [] => 0
  | d :: r => uptoBulk d + uptoBulkAll r
def uptoBulkEntries {H : Type} : List (Lit × DataW H) → Nat
  | [] => 0
  | x :: r => uptoBulkEntry x + uptoBulkEntries r
def uptoBulkEntry {H : Type} : Lit × DataW H → Nat
  | (.string bytes, d) => bytes.length + uptoBulk d + 1
  | (_, d) => uptoBulk d + 1
 end
def uptoSmall : (H : Type) → List (DataW H) → Bool := fun _ ds => decide (uptoBulkAll ds ≤ 1048576)
def OpenSpec.upto (s : _root_.Go.ChangeSpec) : _root_.Go.OpenSpec := { _root_.Go.OpenSpec.ofChange s with cond := some uptoSmall }

/-- 'stratumlaw08.LexTakes', WHERE WHAT IT READS IS OF BULK AT MOST 1048576: true; the input reads as it did. -/
def lexTakesUptoRow : OpenClaim := { program := "ytedhkelochpdnaa", sum := "7e41bd84a8093e377a44e530a206b59cde9da34d4584c9e589cd3b8babd197b0", func := "stratum/stratumlaw08.LexTakes", spec := "lexTakes", inPlace := ["internal/bytealg.IndexByteString", "math/bits.Add64"], unfollowed := true, recurses := true, apart := false, narrowed := true }
def LexTakesUptoSaid : Prop := lexTakesUptoRow.holds Try.pinned (OpenSpec.upto lexTakesSpec)

/-- 'stratumlaw08.LexWords', WHERE WHAT IT READS IS OF BULK AT MOST 1048576: true; the input reads as it did. -/
def lexWordsUptoRow : OpenClaim := { program := "ytedhkelochpdnaa", sum := "7e41bd84a8093e377a44e530a206b59cde9da34d4584c9e589cd3b8babd197b0", func := "stratum/stratumlaw08.LexWords", spec := "lexWords", inPlace := ["internal/bytealg.IndexByteString", "math/bits.Add64"], unfollowed := true, recurses := true, apart := false, narrowed := true }
def LexWordsUptoSaid : Prop := lexWordsUptoRow.holds Try.pinned (OpenSpec.upto lexWordsSpec)

/-- 'stratumlaw08.LexBack', WHERE WHAT IT READS IS OF BULK AT MOST 1048576: true; the input reads as it did. -/
def lexBackUptoRow : OpenClaim := { program := "ytedhkelochpdnaa", sum := "7e41bd84a8093e377a44e530a206b59cde9da34d4584c9e589cd3b8babd197b0", func := "stratum/stratumlaw08.LexBack", spec := "lexBack", inPlace := ["internal/bytealg.IndexByteString", "math/bits.Add64"], unfollowed := true, recurses := true, apart := false, narrowed := true }
def LexBackUptoSaid : Prop := lexBackUptoRow.holds Try.pinned (OpenSpec.upto lexBackSpec)

/-- 'stratumlaw08.LexApart', WHERE WHAT IT READS IS OF BULK AT MOST 1048576: true; the input reads as it did. -/
def lexApartUptoRow : OpenClaim := { program := "ytedhkelochpdnaa", sum := "7e41bd84a8093e377a44e530a206b59cde9da34d4584c9e589cd3b8babd197b0", func := "stratum/stratumlaw08.LexApart", spec := "lexApart", inPlace := ["internal/bytealg.IndexByteString", "math/bits.Add64"], unfollowed := true, recurses := true, apart := false, narrowed := true }
def LexApartUptoSaid : Prop := lexApartUptoRow.holds Try.pinned (OpenSpec.upto lexApartSpec)

/-- 'stratumlaw08.LexBlanks', WHERE WHAT IT READS IS OF BULK AT MOST 1048576: true; the input reads as it did. -/
def lexBlanksUptoRow : OpenClaim := { program := "ytedhkelochpdnaa", sum := "7e41bd84a8093e377a44e530a206b59cde9da34d4584c9e589cd3b8babd197b0", func := "stratum/stratumlaw08.LexBlanks", spec := "lexBlanks", inPlace := ["internal/bytealg.IndexByteString", "math/bits.Add64"], unfollowed := true, recurses := true, apart := false, narrowed := true }
def LexBlanksUptoSaid : Prop := lexBlanksUptoRow.holds Try.pinned (OpenSpec.upto lexBlanksSpec)

/-- 'stratumlaw08.LexNames', WHERE WHAT IT READS IS OF BULK AT MOST 1048576: true; the input reads as it did. -/
def lexNamesUptoRow : OpenClaim := { program := "ytedhkelochpdnaa", sum := "7e41bd84a8093e377a44e530a206b59cde9da34d4584c9e589cd3b8babd197b0", func := "stratum/stratumlaw08.LexNames", spec := "lexNames", inPlace := ["internal/bytealg.IndexByteString", "math/bits.Add64"], unfollowed := true, recurses := true, apart := false, narrowed := true }
def LexNamesUptoSaid : Prop := lexNamesUptoRow.holds Try.pinned (OpenSpec.upto lexNamesSpec)

/-- 'stratumlaw08.LexFaults', WHERE WHAT IT READS IS OF BULK AT MOST 1048576: true; the input reads as it did. -/
def lexFaultsUptoRow : OpenClaim := { program := "ytedhkelochpdnaa", sum := "7e41bd84a8093e377a44e530a206b59cde9da34d4584c9e589cd3b8babd197b0", func := "stratum/stratumlaw08.LexFaults", spec := "lexFaults", inPlace := ["internal/bytealg.IndexByteString", "math/bits.Add64"], unfollowed := true, recurses := true, apart := false, narrowed := true }
def LexFaultsUptoSaid : Prop := lexFaultsUptoRow.holds Try.pinned (OpenSpec.upto lexFaultsSpec)

end Rows
end Go.Proofs.Ytedhkelochpdnaa
