/-
  No cell of these rows narrows 'for every input' (looked for: loops, veiled, ifaces, maps, wideKeys, modest, calm, conditions, laid).
  DERIVED. THE GIVEN ROWS OF THIS SEAT. 6 by the template 'for every input the law returns true; each argument reads behind the call as it read before'; 0 by the template 'total and deterministic' (their statements: YtjplkgkkokcgjaaTotals.lean).
  GIVEN WITH THE SEED: the statements are not yours to turn. If you find one false, say at which input.
  Laid BY PROGRAM, IN A SANDBOX (cutbox-rows.mjs): the forced cells as the released guide's own fill.sh prints them over the translation f91ceef4c4b17749… (all of the seat's roots in one cut). By AI agents, Wed Nov 11 2026. No macro, syntax, notation, axiom, sorry.
-/
import Derived.Test.YtjplkgkkokcgjaaChecked
import GoSem.Claim
import GoSem.ClaimJoined
import GoSem.ClaimMapViews
import Derived.JoinedTies
import Derived.KernelRfl
namespace Go.Proofs.Ytjplkgkkokcgjaa
/- THE CELL 'sum', in the pinned program and in every row, IS THE sha256 OF THE DUMP (.gsa) THAT YtjplkgkkokcgjaaProg.lean LOADS. Nothing in Lean hashes anything: it is a label: what it is worth is what the hold of that sum in a sandbox is worth. -/
noncomputable def Try.pinned : Pinned := { name := "ytjplkgkkokcgjaa", sum := "f91ceef4c4b17749edc727065f3c82bc38718ba9b97e26ff0d40924464199086", checked := Try.checked }
namespace Rows
def none {H : Type} : Left H := { results := [], args := [] }

/-- 'stratumlaw03.UtfAll': WHATEVER THE INPUT: true; the input reads as it did. -/
def utfAllSpec : ChangeSpec := { name := "utfAll", fn := fun _ => fun
  | [d] => { results := [.lit (.bool true)], args := [d] }
  | _ => none }
def utfAllRow : OpenClaim := { program := "ytjplkgkkokcgjaa", sum := "f91ceef4c4b17749edc727065f3c82bc38718ba9b97e26ff0d40924464199086", func := "stratum/stratumlaw03.UtfAll", spec := "utfAll", inPlace := ["internal/abi.NoEscape"], apart := false }
def UtfAllSaid : Prop := utfAllRow.holds Try.pinned (OpenSpec.ofChange utfAllSpec)

/-- ITS FALSE NEIGHBOUR: 'it returns false'. Refute it at one input. -/
def utfAllWrong : ChangeSpec := { name := "utfAll", fn := fun _ => fun
  | [d] => { results := [.lit (.bool false)], args := [d] }
  | _ => none }
def UtfAllWrongFalsely : Prop := utfAllRow.holds Try.pinned (OpenSpec.ofChange utfAllWrong)

/-- 'stratumlaw03.UtfBack': WHATEVER THE INPUT: true; the input reads as it did. -/
def utfBackSpec : ChangeSpec := { name := "utfBack", fn := fun _ => fun
  | [d1, d2] => { results := [.lit (.bool true)], args := [d1, d2] }
  | _ => none }
def utfBackRow : OpenClaim := { program := "ytjplkgkkokcgjaa", sum := "f91ceef4c4b17749edc727065f3c82bc38718ba9b97e26ff0d40924464199086", func := "stratum/stratumlaw03.UtfBack", spec := "utfBack", inPlace := ["internal/abi.NoEscape"], apart := false }
def UtfBackSaid : Prop := utfBackRow.holds Try.pinned (OpenSpec.ofChange utfBackSpec)

/-- ITS FALSE NEIGHBOUR: 'it returns false'. Refute it at one input. -/
def utfBackWrong : ChangeSpec := { name := "utfBack", fn := fun _ => fun
  | [d1, d2] => { results := [.lit (.bool false)], args := [d1, d2] }
  | _ => none }
def UtfBackWrongFalsely : Prop := utfBackRow.holds Try.pinned (OpenSpec.ofChange utfBackWrong)

/-- 'stratumlaw03.UtfThrough': WHATEVER THE INPUT: true; the input reads as it did. -/
def utfThroughSpec : ChangeSpec := { name := "utfThrough", fn := fun _ => fun
  | [d] => { results := [.lit (.bool true)], args := [d] }
  | _ => none }
def utfThroughRow : OpenClaim := { program := "ytjplkgkkokcgjaa", sum := "f91ceef4c4b17749edc727065f3c82bc38718ba9b97e26ff0d40924464199086", func := "stratum/stratumlaw03.UtfThrough", spec := "utfThrough", inPlace := ["internal/abi.NoEscape"], apart := false }
def UtfThroughSaid : Prop := utfThroughRow.holds Try.pinned (OpenSpec.ofChange utfThroughSpec)

/-- ITS FALSE NEIGHBOUR: 'it returns false'. Refute it at one input. -/
def utfThroughWrong : ChangeSpec := { name := "utfThrough", fn := fun _ => fun
  | [d] => { results := [.lit (.bool false)], args := [d] }
  | _ => none }
def UtfThroughWrongFalsely : Prop := utfThroughRow.holds Try.pinned (OpenSpec.ofChange utfThroughWrong)

/-- 'stratumlaw03.UtfJoins': WHATEVER THE INPUT: true; the input reads as it did. -/
def utfJoinsSpec : ChangeSpec := { name := "utfJoins", fn := fun _ => fun
  | [d1, d2] => { results := [.lit (.bool true)], args := [d1, d2] }
  | _ => none }
def utfJoinsRow : OpenClaim := { program := "ytjplkgkkokcgjaa", sum := "f91ceef4c4b17749edc727065f3c82bc38718ba9b97e26ff0d40924464199086", func := "stratum/stratumlaw03.UtfJoins", spec := "utfJoins", inPlace := ["internal/abi.NoEscape"], apart := false }
def UtfJoinsSaid : Prop := utfJoinsRow.holds Try.pinned (OpenSpec.ofChange utfJoinsSpec)

/-- ITS FALSE NEIGHBOUR: 'it returns false'. Refute it at one input. -/
def utfJoinsWrong : ChangeSpec := { name := "utfJoins", fn := fun _ => fun
  | [d1, d2] => { results := [.lit (.bool false)], args := [d1, d2] }
  | _ => none }
def UtfJoinsWrongFalsely : Prop := utfJoinsRow.holds Try.pinned (OpenSpec.ofChange utfJoinsWrong)

/-- 'stratumlaw03.UtfMends': WHATEVER THE INPUT: true; the input reads as it did. -/
def utfMendsSpec : ChangeSpec := { name := "utfMends", fn := fun _ => fun
  | [d] => { results := [.lit (.bool true)], args := [d] }
  | _ => none }
def utfMendsRow : OpenClaim := { program := "ytjplkgkkokcgjaa", sum := "f91ceef4c4b17749edc727065f3c82bc38718ba9b97e26ff0d40924464199086", func := "stratum/stratumlaw03.UtfMends", spec := "utfMends", inPlace := ["internal/abi.NoEscape"], apart := false }
def UtfMendsSaid : Prop := utfMendsRow.holds Try.pinned (OpenSpec.ofChange utfMendsSpec)

/-- ITS FALSE NEIGHBOUR: 'it returns false'. Refute it at one input. -/
def utfMendsWrong : ChangeSpec := { name := "utfMends", fn := fun _ => fun
  | [d] => { results := [.lit (.bool false)], args := [d] }
  | _ => none }
def UtfMendsWrongFalsely : Prop := utfMendsRow.holds Try.pinned (OpenSpec.ofChange utfMendsWrong)

/-- 'stratumlaw03.UtfRises': WHATEVER THE INPUT: true; the input reads as it did. -/
def utfRisesSpec : ChangeSpec := { name := "utfRises", fn := fun _ => fun
  | [d1, d2] => { results := [.lit (.bool true)], args := [d1, d2] }
  | _ => none }
def utfRisesRow : OpenClaim := { program := "ytjplkgkkokcgjaa", sum := "f91ceef4c4b17749edc727065f3c82bc38718ba9b97e26ff0d40924464199086", func := "stratum/stratumlaw03.UtfRises", spec := "utfRises", inPlace := ["internal/abi.NoEscape"], apart := false }
def UtfRisesSaid : Prop := utfRisesRow.holds Try.pinned (OpenSpec.ofChange utfRisesSpec)

/-- ITS FALSE NEIGHBOUR: 'it returns false'. Refute it at one input. -/
def utfRisesWrong : ChangeSpec := { name := "utfRises", fn := fun _ => fun
  | [d1, d2] => { results := [.lit (.bool false)], args := [d1, d2] }
  | _ => none }
def UtfRisesWrongFalsely : Prop := utfRisesRow.holds Try.pinned (OpenSpec.ofChange utfRisesWrong)

/- THE SECOND FORM. 'bulk': how many values and letters a reading holds, each counted each time it is reached (what is shared counts as often as it is met; a slice's spare places count too). A statement '..UptoSaid' is the law's where the arguments, and the package variables that the reading takes, are together of bulk at most 1048576: NARROWER than '..Said'. Prove '..Said' where nothing that the law and all that it calls make is longer than what came in: it says more and counts as full. Else prove '..UptoSaid'. A law counts once. -/
mutual
def uptoBulk {H : Type} : DataW H → Nat
  | .lit (.string bytes) => bytes.length + 1
  | .lit _ => 1
  | .nil => 1
  | .ptr d => uptoBulk d + 1
  | .slice elems spare => uptoBulkAll elems + uptoBulkAll spare + 1
  | .agg parts => uptoBulkAll parts + 1
  | .iface _ d => uptoBulk d + 1
  | .map entries => uptoBulkEntries entries + 1
  | .held _ => 1
def uptoBulkAll {H : Type} : List (DataW H) → Nat
  | [] => 0
  | d :: r => uptoBulk d + uptoBulkAll r
def uptoBulkEntries {H : Type} : List (Lit × DataW H) → Nat
  | [] => 0
  | x :: r => uptoBulkEntry x + uptoBulkEntries r
def uptoBulkEntry {H : Type} : Lit × DataW H → Nat
  | (.string bytes, d) => bytes.length + uptoBulk d + 1
  | (_, d) => uptoBulk d + 1
 end
def uptoSmall : (H : Type) → List (DataW H) → Bool := fun _ ds => decide (uptoBulkAll ds ≤ 1048576)
def OpenSpec.upto (s : _root_.Go.ChangeSpec) : _root_.Go.OpenSpec := { _root_.Go.OpenSpec.ofChange s with cond := some uptoSmall }

/-- 'stratumlaw03.UtfAll', WHERE WHAT IT READS IS OF BULK AT MOST 1048576: true; the input reads as it did. -/
def utfAllUptoRow : OpenClaim := { program := "ytjplkgkkokcgjaa", sum := "f91ceef4c4b17749edc727065f3c82bc38718ba9b97e26ff0d40924464199086", func := "stratum/stratumlaw03.UtfAll", spec := "utfAll", inPlace := ["internal/abi.NoEscape"], apart := false, narrowed := true }
def UtfAllUptoSaid : Prop := utfAllUptoRow.holds Try.pinned (OpenSpec.upto utfAllSpec)

/-- 'stratumlaw03.UtfBack', WHERE WHAT IT READS IS OF BULK AT MOST 1048576: true; the input reads as it did. -/
def utfBackUptoRow : OpenClaim := { program := "ytjplkgkkokcgjaa", sum := "f91ceef4c4b17749edc727065f3c82bc38718ba9b97e26ff0d40924464199086", func := "stratum/stratumlaw03.UtfBack", spec := "utfBack", inPlace := ["internal/abi.NoEscape"], apart := false, narrowed := true }
def UtfBackUptoSaid : Prop := utfBackUptoRow.holds Try.pinned (OpenSpec.upto utfBackSpec)

/-- 'stratumlaw03.UtfThrough', WHERE WHAT IT READS IS OF BULK AT MOST 1048576: true; the input reads as it did. -/
def utfThroughUptoRow : OpenClaim := { program := "ytjplkgkkokcgjaa", sum := "f91ceef4c4b17749edc727065f3c82bc38718ba9b97e26ff0d40924464199086", func := "stratum/stratumlaw03.UtfThrough", spec := "utfThrough", inPlace := ["internal/abi.NoEscape"], apart := false, narrowed := true }
def UtfThroughUptoSaid : Prop := utfThroughUptoRow.holds Try.pinned (OpenSpec.upto utfThroughSpec)

/-- 'stratumlaw03.UtfJoins', WHERE WHAT IT READS IS OF BULK AT MOST 1048576: true; the input reads as it did. -/
def utfJoinsUptoRow : OpenClaim := { program := "ytjplkgkkokcgjaa", sum := "f91ceef4c4b17749edc727065f3c82bc38718ba9b97e26ff0d40924464199086", func := "stratum/stratumlaw03.UtfJoins", spec := "utfJoins", inPlace := ["internal/abi.NoEscape"], apart := false, narrowed := true }
def UtfJoinsUptoSaid : Prop := utfJoinsUptoRow.holds Try.pinned (OpenSpec.upto utfJoinsSpec)

/-- 'stratumlaw03.UtfMends', WHERE WHAT IT READS IS OF BULK AT MOST 1048576: true; the input reads as it did. -/
def utfMendsUptoRow : OpenClaim := { program := "ytjplkgkkokcgjaa", sum := "f91ceef4c4b17749edc727065f3c82bc38718ba9b97e26ff0d40924464199086", func := "stratum/stratumlaw03.UtfMends", spec := "utfMends", inPlace := ["internal/abi.NoEscape"], apart := false, narrowed := true }
def UtfMendsUptoSaid : Prop := utfMendsUptoRow.holds Try.pinned (OpenSpec.upto utfMendsSpec)

/-- 'stratumlaw03.UtfRises', WHERE WHAT IT READS IS OF BULK AT MOST 1048576: true; the input reads as it did. -/
def utfRisesUptoRow : OpenClaim := { program := "ytjplkgkkokcgjaa", sum := "f91ceef4c4b17749edc727065f3c82bc38718ba9b97e26ff0d40924464199086", func := "stratum/stratumlaw03.UtfRises", spec := "utfRises", inPlace := ["internal/abi.NoEscape"], apart := false, narrowed := true }
def UtfRisesUptoSaid : Prop := utfRisesUptoRow.holds Try.pinned (OpenSpec.upto utfRisesSpec)

end Rows
end Go.Proofs.Ytjplkgkkokcgjaa
