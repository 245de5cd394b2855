/-
  No cell of these rows narrows 'for every input' (looked for: loops, veiled, ifaces, maps, wideKeys, modest, calm, conditions, laid).
  DERIVED. THE GIVEN ROWS OF THIS SEAT. 6 by the template 'for every input the law returns true; each argument reads behind the call as it read before'; 0 by the template 'total and deterministic' (their statements: YthgkemkcepkkcaaTotals.lean).
  GIVEN WITH THE SEED: the statements are not yours to turn. If you find one false, say at which input.
  Laid BY PROGRAM, IN A SANDBOX (cutbox-rows.mjs): the forced cells as the released guide's own fill.sh prints them over the translation b83734f3b80acc69… (all of the seat's roots in one cut). By AI agents, Wed Nov 11 2026. No macro, syntax, notation, axiom, sorry.
-/
import Derived.Test.YthgkemkcepkkcaaChecked
import GoSem.Claim
import GoSem.ClaimJoined
import GoSem.ClaimMapViews
import Derived.JoinedTies
import Derived.KernelRfl
namespace Go.Proofs.Ythgkemkcepkkcaa
/- THE CELL 'sum', in the pinned program and in every row, IS THE sha256 OF THE DUMP (.gsa) THAT YthgkemkcepkkcaaProg.lean LOADS. Nothing in Lean hashes anything: it is a label: what it is worth is what the hold of that sum in a sandbox is worth. -/
noncomputable def Try.pinned : Pinned := { name := "ythgkemkcepkkcaa", sum := "b83734f3b80acc69de55166cc6d00de6a0c08bf53cb4f35b92cd865419d1ad1a", checked := Try.checked }
namespace Rows
def none {H : Type} : Left H := { results := [], args := [] }

/-- 'stratumlaw07.PartCuts': WHATEVER THE INPUT: true; the input reads as it did. -/
def partCutsSpec : ChangeSpec := { name := "partCuts", fn := fun _ => fun
  | [d1, d2, d3] => { results := [.lit (.bool true)], args := [d1, d2, d3] }
  | _ => none }
def partCutsRow : OpenClaim := { program := "ythgkemkcepkkcaa", sum := "b83734f3b80acc69de55166cc6d00de6a0c08bf53cb4f35b92cd865419d1ad1a", func := "stratum/stratumlaw07.PartCuts", spec := "partCuts", inPlace := ["internal/abi.NoEscape", "internal/bytealg.IndexByteString", "internal/bytealg.IndexString"], named := ["internal/bytealg.MaxLen"], apart := false }
def PartCutsSaid : Prop := partCutsRow.holds Try.pinned (OpenSpec.ofChange partCutsSpec)

/-- ITS FALSE NEIGHBOUR: 'it returns false'. Refute it at one input. -/
def partCutsWrong : ChangeSpec := { name := "partCuts", fn := fun _ => fun
  | [d1, d2, d3] => { results := [.lit (.bool false)], args := [d1, d2, d3] }
  | _ => none }
def PartCutsWrongFalsely : Prop := partCutsRow.holds Try.pinned (OpenSpec.ofChange partCutsWrong)

/-- 'stratumlaw07.PartMakes': WHATEVER THE INPUT: true; the input reads as it did. -/
def partMakesSpec : ChangeSpec := { name := "partMakes", fn := fun _ => fun
  | [d1, d2, d3] => { results := [.lit (.bool true)], args := [d1, d2, d3] }
  | _ => none }
def partMakesRow : OpenClaim := { program := "ythgkemkcepkkcaa", sum := "b83734f3b80acc69de55166cc6d00de6a0c08bf53cb4f35b92cd865419d1ad1a", func := "stratum/stratumlaw07.PartMakes", spec := "partMakes", inPlace := ["internal/abi.NoEscape", "internal/bytealg.IndexByteString", "internal/bytealg.IndexString"], named := ["internal/bytealg.MaxLen"], apart := false }
def PartMakesSaid : Prop := partMakesRow.holds Try.pinned (OpenSpec.ofChange partMakesSpec)

/-- ITS FALSE NEIGHBOUR: 'it returns false'. Refute it at one input. -/
def partMakesWrong : ChangeSpec := { name := "partMakes", fn := fun _ => fun
  | [d1, d2, d3] => { results := [.lit (.bool false)], args := [d1, d2, d3] }
  | _ => none }
def PartMakesWrongFalsely : Prop := partMakesRow.holds Try.pinned (OpenSpec.ofChange partMakesWrong)

/-- 'stratumlaw07.PartHalves': WHATEVER THE INPUT: true; the input reads as it did. -/
def partHalvesSpec : ChangeSpec := { name := "partHalves", fn := fun _ => fun
  | [d1, d2, d3] => { results := [.lit (.bool true)], args := [d1, d2, d3] }
  | _ => none }
def partHalvesRow : OpenClaim := { program := "ythgkemkcepkkcaa", sum := "b83734f3b80acc69de55166cc6d00de6a0c08bf53cb4f35b92cd865419d1ad1a", func := "stratum/stratumlaw07.PartHalves", spec := "partHalves", inPlace := ["internal/abi.NoEscape", "internal/bytealg.IndexByteString", "internal/bytealg.IndexString"], named := ["internal/bytealg.MaxLen"], apart := false }
def PartHalvesSaid : Prop := partHalvesRow.holds Try.pinned (OpenSpec.ofChange partHalvesSpec)

/-- ITS FALSE NEIGHBOUR: 'it returns false'. Refute it at one input. -/
def partHalvesWrong : ChangeSpec := { name := "partHalves", fn := fun _ => fun
  | [d1, d2, d3] => { results := [.lit (.bool false)], args := [d1, d2, d3] }
  | _ => none }
def PartHalvesWrongFalsely : Prop := partHalvesRow.holds Try.pinned (OpenSpec.ofChange partHalvesWrong)

/-- 'stratumlaw07.PartJoins': WHATEVER THE INPUT: true; the input reads as it did. -/
def partJoinsSpec : ChangeSpec := { name := "partJoins", fn := fun _ => fun
  | [d] => { results := [.lit (.bool true)], args := [d] }
  | _ => none }
def partJoinsRow : OpenClaim := { program := "ythgkemkcepkkcaa", sum := "b83734f3b80acc69de55166cc6d00de6a0c08bf53cb4f35b92cd865419d1ad1a", func := "stratum/stratumlaw07.PartJoins", spec := "partJoins", inPlace := ["internal/abi.NoEscape", "internal/bytealg.IndexByteString", "internal/bytealg.IndexString"], named := ["internal/bytealg.MaxLen"], apart := false }
def PartJoinsSaid : Prop := partJoinsRow.holds Try.pinned (OpenSpec.ofChange partJoinsSpec)

/-- ITS FALSE NEIGHBOUR: 'it returns false'. Refute it at one input. -/
def partJoinsWrong : ChangeSpec := { name := "partJoins", fn := fun _ => fun
  | [d] => { results := [.lit (.bool false)], args := [d] }
  | _ => none }
def PartJoinsWrongFalsely : Prop := partJoinsRow.holds Try.pinned (OpenSpec.ofChange partJoinsWrong)

/-- 'stratumlaw07.PartReps': WHATEVER THE INPUT: true; the input reads as it did. -/
def partRepsSpec : ChangeSpec := { name := "partReps", fn := fun _ => fun
  | [d1, d2, d3] => { results := [.lit (.bool true)], args := [d1, d2, d3] }
  | _ => none }
def partRepsRow : OpenClaim := { program := "ythgkemkcepkkcaa", sum := "b83734f3b80acc69de55166cc6d00de6a0c08bf53cb4f35b92cd865419d1ad1a", func := "stratum/stratumlaw07.PartReps", spec := "partReps", inPlace := ["internal/abi.NoEscape", "internal/bytealg.IndexByteString", "internal/bytealg.IndexString"], named := ["internal/bytealg.MaxLen"], apart := false }
def PartRepsSaid : Prop := partRepsRow.holds Try.pinned (OpenSpec.ofChange partRepsSpec)

/-- ITS FALSE NEIGHBOUR: 'it returns false'. Refute it at one input. -/
def partRepsWrong : ChangeSpec := { name := "partReps", fn := fun _ => fun
  | [d1, d2, d3] => { results := [.lit (.bool false)], args := [d1, d2, d3] }
  | _ => none }
def PartRepsWrongFalsely : Prop := partRepsRow.holds Try.pinned (OpenSpec.ofChange partRepsWrong)

/-- 'stratumlaw07.PartHexes': WHATEVER THE INPUT: true; the input reads as it did. -/
def partHexesSpec : ChangeSpec := { name := "partHexes", fn := fun _ => fun
  | [d1, d2, d3] => { results := [.lit (.bool true)], args := [d1, d2, d3] }
  | _ => none }
def partHexesRow : OpenClaim := { program := "ythgkemkcepkkcaa", sum := "b83734f3b80acc69de55166cc6d00de6a0c08bf53cb4f35b92cd865419d1ad1a", func := "stratum/stratumlaw07.PartHexes", spec := "partHexes", inPlace := ["internal/abi.NoEscape", "internal/bytealg.IndexByteString", "internal/bytealg.IndexString"], named := ["internal/bytealg.MaxLen"], apart := false }
def PartHexesSaid : Prop := partHexesRow.holds Try.pinned (OpenSpec.ofChange partHexesSpec)

/-- ITS FALSE NEIGHBOUR: 'it returns false'. Refute it at one input. -/
def partHexesWrong : ChangeSpec := { name := "partHexes", fn := fun _ => fun
  | [d1, d2, d3] => { results := [.lit (.bool false)], args := [d1, d2, d3] }
  | _ => none }
def PartHexesWrongFalsely : Prop := partHexesRow.holds Try.pinned (OpenSpec.ofChange partHexesWrong)

/- THE SECOND FORM. 'bulk': how many values and letters a reading holds, each counted each time it is reached (what is shared counts as often as it is met; a slice's spare places count too). A statement '..UptoSaid' is the law's where the arguments, and the package variables that the reading takes, are together of bulk at most 1048576: NARROWER than '..Said'. Prove '..Said' where nothing that the law and all that it calls make is longer than what came in: it says more and counts as full. Else prove '..UptoSaid'. A law counts once. -/
mutual
def uptoBulk {H : Type} : DataW H → Nat
  | .lit (.string bytes) => bytes.length + 1
  | .lit _ => 1
  | .nil => 1
  | .ptr d => uptoBulk d + 1
  | .slice elems spare => uptoBulkAll elems + uptoBulkAll spare + 1
  | .agg parts => uptoBulkAll parts + 1
  | .iface _ d => uptoBulk d + 1
  | .map entries => uptoBulkEntries entries + 1
  | .held _ => 1
def uptoBulkAll {H : Type} : List (DataW H) → Nat
  | [] => 0
  | d :: r => uptoBulk d + uptoBulkAll r
def uptoBulkEntries {H : Type} : List (Lit × DataW H) → Nat
  | [] => 0
  | x :: r => uptoBulkEntry x + uptoBulkEntries r
def uptoBulkEntry {H : Type} : Lit × DataW H → Nat
  | (.string bytes, d) => bytes.length + uptoBulk d + 1
  | (_, d) => uptoBulk d + 1
 end
def uptoSmall : (H : Type) → List (DataW H) → Bool := fun _ ds => decide (uptoBulkAll ds ≤ 1048576)
def OpenSpec.upto (s : _root_.Go.ChangeSpec) : _root_.Go.OpenSpec := { _root_.Go.OpenSpec.ofChange s with cond := some uptoSmall }

/-- 'stratumlaw07.PartCuts', WHERE WHAT IT READS IS OF BULK AT MOST 1048576: true; the input reads as it did. -/
def partCutsUptoRow : OpenClaim := { program := "ythgkemkcepkkcaa", sum := "b83734f3b80acc69de55166cc6d00de6a0c08bf53cb4f35b92cd865419d1ad1a", func := "stratum/stratumlaw07.PartCuts", spec := "partCuts", inPlace := ["internal/abi.NoEscape", "internal/bytealg.IndexByteString", "internal/bytealg.IndexString"], named := ["internal/bytealg.MaxLen"], apart := false, narrowed := true }
def PartCutsUptoSaid : Prop := partCutsUptoRow.holds Try.pinned (OpenSpec.upto partCutsSpec)

/-- 'stratumlaw07.PartMakes', WHERE WHAT IT READS IS OF BULK AT MOST 1048576: true; the input reads as it did. -/
def partMakesUptoRow : OpenClaim := { program := "ythgkemkcepkkcaa", sum := "b83734f3b80acc69de55166cc6d00de6a0c08bf53cb4f35b92cd865419d1ad1a", func := "stratum/stratumlaw07.PartMakes", spec := "partMakes", inPlace := ["internal/abi.NoEscape", "internal/bytealg.IndexByteString", "internal/bytealg.IndexString"], named := ["internal/bytealg.MaxLen"], apart := false, narrowed := true }
def PartMakesUptoSaid : Prop := partMakesUptoRow.holds Try.pinned (OpenSpec.upto partMakesSpec)

/-- 'stratumlaw07.PartHalves', WHERE WHAT IT READS IS OF BULK AT MOST 1048576: true; the input reads as it did. -/
def partHalvesUptoRow : OpenClaim := { program := "ythgkemkcepkkcaa", sum := "b83734f3b80acc69de55166cc6d00de6a0c08bf53cb4f35b92cd865419d1ad1a", func := "stratum/stratumlaw07.PartHalves", spec := "partHalves", inPlace := ["internal/abi.NoEscape", "internal/bytealg.IndexByteString", "internal/bytealg.IndexString"], named := ["internal/bytealg.MaxLen"], apart := false, narrowed := true }
def PartHalvesUptoSaid : Prop := partHalvesUptoRow.holds Try.pinned (OpenSpec.upto partHalvesSpec)

/-- 'stratumlaw07.PartJoins', WHERE WHAT IT READS IS OF BULK AT MOST 1048576: true; the input reads as it did. -/
def partJoinsUptoRow : OpenClaim := { program := "ythgkemkcepkkcaa", sum := "b83734f3b80acc69de55166cc6d00de6a0c08bf53cb4f35b92cd865419d1ad1a", func := "stratum/stratumlaw07.PartJoins", spec := "partJoins", inPlace := ["internal/abi.NoEscape", "internal/bytealg.IndexByteString", "internal/bytealg.IndexString"], named := ["internal/bytealg.MaxLen"], apart := false, narrowed := true }
def PartJoinsUptoSaid : Prop := partJoinsUptoRow.holds Try.pinned (OpenSpec.upto partJoinsSpec)

/-- 'stratumlaw07.PartReps', WHERE WHAT IT READS IS OF BULK AT MOST 1048576: true; the input reads as it did. -/
def partRepsUptoRow : OpenClaim := { program := "ythgkemkcepkkcaa", sum := "b83734f3b80acc69de55166cc6d00de6a0c08bf53cb4f35b92cd865419d1ad1a", func := "stratum/stratumlaw07.PartReps", spec := "partReps", inPlace := ["internal/abi.NoEscape", "internal/bytealg.IndexByteString", "internal/bytealg.IndexString"], named := ["internal/bytealg.MaxLen"], apart := false, narrowed := true }
def PartRepsUptoSaid : Prop := partRepsUptoRow.holds Try.pinned (OpenSpec.upto partRepsSpec)

/-- 'stratumlaw07.PartHexes', WHERE WHAT IT READS IS OF BULK AT MOST 1048576: true; the input reads as it did. -/
def partHexesUptoRow : OpenClaim := { program := "ythgkemkcepkkcaa", sum := "b83734f3b80acc69de55166cc6d00de6a0c08bf53cb4f35b92cd865419d1ad1a", func := "stratum/stratumlaw07.PartHexes", spec := "partHexes", inPlace := ["internal/abi.NoEscape", "internal/bytealg.IndexByteString", "internal/bytealg.IndexString"], named := ["internal/bytealg.MaxLen"], apart := false, narrowed := true }
def PartHexesUptoSaid : Prop := partHexesUptoRow.holds Try.pinned (OpenSpec.upto partHexesSpec)

end Rows
end Go.Proofs.Ythgkemkcepkkcaa
