/-
  No cell of these rows narrows 'for every input' (looked for: loops, veiled, ifaces, maps, wideKeys, modest, calm, conditions, laid).
  DERIVED. THE GIVEN ROWS OF THIS SEAT. 6 by the template 'for every input the law returns true; each argument reads behind the call as it read before'; 0 by the template 'total and deterministic' (their statements: YtjcbeihedbhodaaTotals.lean).
  GIVEN WITH THE SEED: the statements are not yours to turn. If you find one false, say at which input.
  Laid BY PROGRAM, IN A SANDBOX (cutbox-rows.mjs): the forced cells as the released guide's own fill.sh prints them over the translation ae51ae30a0c077c1… (all of the seat's roots in one cut). By AI agents, Wed Nov 11 2026. No macro, syntax, notation, axiom, sorry.
-/
import Derived.Test.YtjcbeihedbhodaaChecked
import GoSem.Claim
import GoSem.ClaimJoined
import GoSem.ClaimMapViews
import Derived.JoinedTies
import Derived.KernelRfl
namespace Go.Proofs.Ytjcbeihedbhodaa
/- THE CELL 'sum', in the pinned program and in every row, IS THE sha256 OF THE DUMP (.gsa) THAT YtjcbeihedbhodaaProg.lean LOADS. Nothing in Lean hashes anything: it is a label: what it is worth is what the hold of that sum in a sandbox is worth. -/
noncomputable def Try.pinned : Pinned := { name := "ytjcbeihedbhodaa", sum := "ae51ae30a0c077c18e903202f27579f7d2ea0298f9dd48c820c7cf3f76e48488", checked := Try.checked }
namespace Rows
def none {H : Type} : Left H := { results := [], args := [] }

/-- 'stratumlaw02.VarintPuts': WHATEVER THE INPUT: true; the input reads as it did. -/
def varintPutsSpec : ChangeSpec := { name := "varintPuts", fn := fun _ => fun
  | [d1, d2] => { results := [.lit (.bool true)], args := [d1, d2] }
  | _ => none }
def varintPutsRow : OpenClaim := { program := "ytjcbeihedbhodaa", sum := "ae51ae30a0c077c18e903202f27579f7d2ea0298f9dd48c820c7cf3f76e48488", func := "stratum/stratumlaw02.VarintPuts", spec := "varintPuts", apart := false }
def VarintPutsSaid : Prop := varintPutsRow.holds Try.pinned (OpenSpec.ofChange varintPutsSpec)

/-- ITS FALSE NEIGHBOUR: 'it returns false'. Refute it at one input. -/
def varintPutsWrong : ChangeSpec := { name := "varintPuts", fn := fun _ => fun
  | [d1, d2] => { results := [.lit (.bool false)], args := [d1, d2] }
  | _ => none }
def VarintPutsWrongFalsely : Prop := varintPutsRow.holds Try.pinned (OpenSpec.ofChange varintPutsWrong)

/-- 'stratumlaw02.VarintTakes': WHATEVER THE INPUT: true; the input reads as it did. -/
def varintTakesSpec : ChangeSpec := { name := "varintTakes", fn := fun _ => fun
  | [d] => { results := [.lit (.bool true)], args := [d] }
  | _ => none }
def varintTakesRow : OpenClaim := { program := "ytjcbeihedbhodaa", sum := "ae51ae30a0c077c18e903202f27579f7d2ea0298f9dd48c820c7cf3f76e48488", func := "stratum/stratumlaw02.VarintTakes", spec := "varintTakes", apart := false }
def VarintTakesSaid : Prop := varintTakesRow.holds Try.pinned (OpenSpec.ofChange varintTakesSpec)

/-- ITS FALSE NEIGHBOUR: 'it returns false'. Refute it at one input. -/
def varintTakesWrong : ChangeSpec := { name := "varintTakes", fn := fun _ => fun
  | [d] => { results := [.lit (.bool false)], args := [d] }
  | _ => none }
def VarintTakesWrongFalsely : Prop := varintTakesRow.holds Try.pinned (OpenSpec.ofChange varintTakesWrong)

/-- 'stratumlaw02.VarintBack': WHATEVER THE INPUT: true; the input reads as it did. -/
def varintBackSpec : ChangeSpec := { name := "varintBack", fn := fun _ => fun
  | [d1, d2] => { results := [.lit (.bool true)], args := [d1, d2] }
  | _ => none }
def varintBackRow : OpenClaim := { program := "ytjcbeihedbhodaa", sum := "ae51ae30a0c077c18e903202f27579f7d2ea0298f9dd48c820c7cf3f76e48488", func := "stratum/stratumlaw02.VarintBack", spec := "varintBack", apart := false }
def VarintBackSaid : Prop := varintBackRow.holds Try.pinned (OpenSpec.ofChange varintBackSpec)

/-- ITS FALSE NEIGHBOUR: 'it returns false'. Refute it at one input. -/
def varintBackWrong : ChangeSpec := { name := "varintBack", fn := fun _ => fun
  | [d1, d2] => { results := [.lit (.bool false)], args := [d1, d2] }
  | _ => none }
def VarintBackWrongFalsely : Prop := varintBackRow.holds Try.pinned (OpenSpec.ofChange varintBackWrong)

/-- 'stratumlaw02.VarintOne': WHATEVER THE INPUT: true; the input reads as it did. -/
def varintOneSpec : ChangeSpec := { name := "varintOne", fn := fun _ => fun
  | [d1, d2] => { results := [.lit (.bool true)], args := [d1, d2] }
  | _ => none }
def varintOneRow : OpenClaim := { program := "ytjcbeihedbhodaa", sum := "ae51ae30a0c077c18e903202f27579f7d2ea0298f9dd48c820c7cf3f76e48488", func := "stratum/stratumlaw02.VarintOne", spec := "varintOne", apart := false }
def VarintOneSaid : Prop := varintOneRow.holds Try.pinned (OpenSpec.ofChange varintOneSpec)

/-- ITS FALSE NEIGHBOUR: 'it returns false'. Refute it at one input. -/
def varintOneWrong : ChangeSpec := { name := "varintOne", fn := fun _ => fun
  | [d1, d2] => { results := [.lit (.bool false)], args := [d1, d2] }
  | _ => none }
def VarintOneWrongFalsely : Prop := varintOneRow.holds Try.pinned (OpenSpec.ofChange varintOneWrong)

/-- 'stratumlaw02.VarintZigs': WHATEVER THE INPUT: true; the input reads as it did. -/
def varintZigsSpec : ChangeSpec := { name := "varintZigs", fn := fun _ => fun
  | [d1, d2] => { results := [.lit (.bool true)], args := [d1, d2] }
  | _ => none }
def varintZigsRow : OpenClaim := { program := "ytjcbeihedbhodaa", sum := "ae51ae30a0c077c18e903202f27579f7d2ea0298f9dd48c820c7cf3f76e48488", func := "stratum/stratumlaw02.VarintZigs", spec := "varintZigs", apart := false }
def VarintZigsSaid : Prop := varintZigsRow.holds Try.pinned (OpenSpec.ofChange varintZigsSpec)

/-- ITS FALSE NEIGHBOUR: 'it returns false'. Refute it at one input. -/
def varintZigsWrong : ChangeSpec := { name := "varintZigs", fn := fun _ => fun
  | [d1, d2] => { results := [.lit (.bool false)], args := [d1, d2] }
  | _ => none }
def VarintZigsWrongFalsely : Prop := varintZigsRow.holds Try.pinned (OpenSpec.ofChange varintZigsWrong)

/-- 'stratumlaw02.VarintKeeps': WHATEVER THE INPUT: true; the input reads as it did. -/
def varintKeepsSpec : ChangeSpec := { name := "varintKeeps", fn := fun _ => fun
  | [d1, d2] => { results := [.lit (.bool true)], args := [d1, d2] }
  | _ => none }
def varintKeepsRow : OpenClaim := { program := "ytjcbeihedbhodaa", sum := "ae51ae30a0c077c18e903202f27579f7d2ea0298f9dd48c820c7cf3f76e48488", func := "stratum/stratumlaw02.VarintKeeps", spec := "varintKeeps", apart := false }
def VarintKeepsSaid : Prop := varintKeepsRow.holds Try.pinned (OpenSpec.ofChange varintKeepsSpec)

/-- ITS FALSE NEIGHBOUR: 'it returns false'. Refute it at one input. -/
def varintKeepsWrong : ChangeSpec := { name := "varintKeeps", fn := fun _ => fun
  | [d1, d2] => { results := [.lit (.bool false)], args := [d1, d2] }
  | _ => none }
def VarintKeepsWrongFalsely : Prop := varintKeepsRow.holds Try.pinned (OpenSpec.ofChange varintKeepsWrong)

/- THE SECOND FORM. 'bulk': how many values and letters a reading holds, each counted each time it is reached (what is shared counts as often as it is met; a slice's spare places count too). A statement '..UptoSaid' is the law's where the arguments, and the package variables that the reading takes, are together of bulk at most 1048576: NARROWER than '..Said'. Prove '..Said' where nothing that the law and all that it calls make is longer than what came in: it says more and counts as full. Else prove '..UptoSaid'. A law counts once. -/
mutual
def uptoBulk {H : Type} : DataW H → Nat
  | .lit (.string bytes) => bytes.length + 1
  | .lit _ => 1
  | .nil => 1
  | .ptr d => uptoBulk d + 1
  | .slice elems spare => uptoBulkAll elems + uptoBulkAll spare + 1
  | .agg parts => uptoBulkAll parts + 1
  | .iface _ d => uptoBulk d + 1
  | .map entries => uptoBulkEntries entries + 1
  | .held _ => 1
def uptoBulkAll {H : Type} : List (DataW H) → Nat
  | [] => 0
  | d :: r => uptoBulk d + uptoBulkAll r
def uptoBulkEntries {H : Type} : List (Lit × DataW H) → Nat
  | [] => 0
  | x :: r => uptoBulkEntry x + uptoBulkEntries r
def uptoBulkEntry {H : Type} : Lit × DataW H → Nat
  | (.string bytes, d) => bytes.length + uptoBulk d + 1
  | (_, d) => uptoBulk d + 1
 end
def uptoSmall : (H : Type) → List (DataW H) → Bool := fun _ ds => decide (uptoBulkAll ds ≤ 1048576)
def OpenSpec.upto (s : _root_.Go.ChangeSpec) : _root_.Go.OpenSpec := { _root_.Go.OpenSpec.ofChange s with cond := some uptoSmall }

/-- 'stratumlaw02.VarintPuts', WHERE WHAT IT READS IS OF BULK AT MOST 1048576: true; the input reads as it did. -/
def varintPutsUptoRow : OpenClaim := { program := "ytjcbeihedbhodaa", sum := "ae51ae30a0c077c18e903202f27579f7d2ea0298f9dd48c820c7cf3f76e48488", func := "stratum/stratumlaw02.VarintPuts", spec := "varintPuts", apart := false, narrowed := true }
def VarintPutsUptoSaid : Prop := varintPutsUptoRow.holds Try.pinned (OpenSpec.upto varintPutsSpec)

/-- 'stratumlaw02.VarintTakes', WHERE WHAT IT READS IS OF BULK AT MOST 1048576: true; the input reads as it did. -/
def varintTakesUptoRow : OpenClaim := { program := "ytjcbeihedbhodaa", sum := "ae51ae30a0c077c18e903202f27579f7d2ea0298f9dd48c820c7cf3f76e48488", func := "stratum/stratumlaw02.VarintTakes", spec := "varintTakes", apart := false, narrowed := true }
def VarintTakesUptoSaid : Prop := varintTakesUptoRow.holds Try.pinned (OpenSpec.upto varintTakesSpec)

/-- 'stratumlaw02.VarintBack', WHERE WHAT IT READS IS OF BULK AT MOST 1048576: true; the input reads as it did. -/
def varintBackUptoRow : OpenClaim := { program := "ytjcbeihedbhodaa", sum := "ae51ae30a0c077c18e903202f27579f7d2ea0298f9dd48c820c7cf3f76e48488", func := "stratum/stratumlaw02.VarintBack", spec := "varintBack", apart := false, narrowed := true }
def VarintBackUptoSaid : Prop := varintBackUptoRow.holds Try.pinned (OpenSpec.upto varintBackSpec)

/-- 'stratumlaw02.VarintOne', WHERE WHAT IT READS IS OF BULK AT MOST 1048576: true; the input reads as it did. -/
def varintOneUptoRow : OpenClaim := { program := "ytjcbeihedbhodaa", sum := "ae51ae30a0c077c18e903202f27579f7d2ea0298f9dd48c820c7cf3f76e48488", func := "stratum/stratumlaw02.VarintOne", spec := "varintOne", apart := false, narrowed := true }
def VarintOneUptoSaid : Prop := varintOneUptoRow.holds Try.pinned (OpenSpec.upto varintOneSpec)

/-- 'stratumlaw02.VarintZigs', WHERE WHAT IT READS IS OF BULK AT MOST 1048576: true; the input reads as it did. -/
def varintZigsUptoRow : OpenClaim := { program := "ytjcbeihedbhodaa", sum := "ae51ae30a0c077c18e903202f27579f7d2ea0298f9dd48c820c7cf3f76e48488", func := "stratum/stratumlaw02.VarintZigs", spec := "varintZigs", apart := false, narrowed := true }
def VarintZigsUptoSaid : Prop := varintZigsUptoRow.holds Try.pinned (OpenSpec.upto varintZigsSpec)

/-- 'stratumlaw02.VarintKeeps', WHERE WHAT IT READS IS OF BULK AT MOST 1048576: true; the input reads as it did. -/
def varintKeepsUptoRow : OpenClaim := { program := "ytjcbeihedbhodaa", sum := "ae51ae30a0c077c18e903202f27579f7d2ea0298f9dd48c820c7cf3f76e48488", func := "stratum/stratumlaw02.VarintKeeps", spec := "varintKeeps", apart := false, narrowed := true }
def VarintKeepsUptoSaid : Prop := varintKeepsUptoRow.holds Try.pinned (OpenSpec.upto varintKeepsSpec)

end Rows
end Go.Proofs.Ytjcbeihedbhodaa
