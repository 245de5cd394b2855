/-
  NARROWER THAN 'FOR EVERY INPUT', by the rows' own cells (each row's printed sentence says how): FrameAll: laid · FrameChain: laid · FrameForth: laid · FrameCut: laid · FrameTurned: laid · FrameKeeps: laid.
  DERIVED. THE GIVEN ROWS OF THIS SEAT. 6 by the template 'for every input the law returns true; each argument reads behind the call as it read before'; 0 by the template 'total and deterministic' (their statements: YtoddldamekamoaaDoorTotals.lean).
  GIVEN WITH THE SEED: the statements are not yours to turn. If you find one false, say at which input.
  Laid BY PROGRAM, IN A SANDBOX (cutbox-rows.mjs): the forced cells as the released guide's own fill.sh prints them over the translation 0f119e043f8c5735… (all of the seat's roots in one cut). By AI agents, Wed Nov 11 2026. No macro, syntax, notation, axiom, sorry.
-/
import Derived.Test.YtoddldamekamoaaDoorChecked
import GoSem.Claim
import GoSem.ClaimJoined
import GoSem.ClaimMapViews
import Derived.JoinedTies
import Derived.KernelRfl
namespace Go.Proofs.YtoddldamekamoaaDoor
/- THE CELL 'sum', in the pinned program and in every row, IS THE sha256 OF THE DUMP (.gsa) THAT YtoddldamekamoaaDoorProg.lean LOADS. Nothing in Lean hashes anything: it is a label: what it is worth is what the hold of that sum in a sandbox is worth. -/
noncomputable def Tryd.pinned : Pinned := { name := "ytoddldamekamoaadoor", sum := "0f119e043f8c57350d20cd26e036be9dc997c514bf5c32f0481d79dfedc28ee1", checked := Tryd.checked }
namespace Rows
def none {H : Type} : Left H := { results := [], args := [] }

/- WHAT THE LISTED PACKAGE-LEVEL VARIABLES READ AS WHEN THE CALL BEGINS. Each datum BY PROGRAM (the guide's laid-datum.mjs) off the statement by which the dump's own 'gosem.cut.vars' lays the variable. In a bare row this is a premise. The card (YtoddldamekamoaaDoorCards.lean) ties it to the program's text. -/
def laid_stratum_frame_halves {H : Type} : DataW H := .agg [.lit (.int .u32 0), .lit (.int .u32 498536548), .lit (.int .u32 997073096), .lit (.int .u32 651767980), .lit (.int .u32 1994146192), .lit (.int .u32 1802195444), .lit (.int .u32 1303535960), .lit (.int .u32 1342533948), .lit (.int .u32 3988292384), .lit (.int .u32 4027552580), .lit (.int .u32 3604390888), .lit (.int .u32 3412177804), .lit (.int .u32 2607071920), .lit (.int .u32 2262029012), .lit (.int .u32 2685067896), .lit (.int .u32 3183342108)]

/-- 'stratumlaw21.FrameAll': WHATEVER THE INPUT: true; the input reads as it did. -/
def frameAllSpec : ChangeSpec := { name := "frameAll", fn := fun _ => fun
  | [d] => { results := [.lit (.bool true)], args := [d] }
  | _ => none }
def frameAllRow : OpenClaim := { program := "ytoddldamekamoaadoor", sum := "0f119e043f8c57350d20cd26e036be9dc997c514bf5c32f0481d79dfedc28ee1", func := "stratum/stratumlaw21.FrameAll", spec := "frameAll", named := ["stratum/frame.halves"], apart := false, laid := [("stratum/frame.halves", laid_stratum_frame_halves)] }
def FrameAllSaid : Prop := frameAllRow.holds Tryd.pinned (OpenSpec.ofChange frameAllSpec)

/-- ITS FALSE NEIGHBOUR: 'it returns false'. Refute it at one input. -/
def frameAllWrong : ChangeSpec := { name := "frameAll", fn := fun _ => fun
  | [d] => { results := [.lit (.bool false)], args := [d] }
  | _ => none }
def FrameAllWrongFalsely : Prop := frameAllRow.holds Tryd.pinned (OpenSpec.ofChange frameAllWrong)

/-- 'stratumlaw21.FrameChain': WHATEVER THE INPUT: true; the input reads as it did. -/
def frameChainSpec : ChangeSpec := { name := "frameChain", fn := fun _ => fun
  | [d1, d2] => { results := [.lit (.bool true)], args := [d1, d2] }
  | _ => none }
def frameChainRow : OpenClaim := { program := "ytoddldamekamoaadoor", sum := "0f119e043f8c57350d20cd26e036be9dc997c514bf5c32f0481d79dfedc28ee1", func := "stratum/stratumlaw21.FrameChain", spec := "frameChain", named := ["stratum/frame.halves"], apart := false, laid := [("stratum/frame.halves", laid_stratum_frame_halves)] }
def FrameChainSaid : Prop := frameChainRow.holds Tryd.pinned (OpenSpec.ofChange frameChainSpec)

/-- ITS FALSE NEIGHBOUR: 'it returns false'. Refute it at one input. -/
def frameChainWrong : ChangeSpec := { name := "frameChain", fn := fun _ => fun
  | [d1, d2] => { results := [.lit (.bool false)], args := [d1, d2] }
  | _ => none }
def FrameChainWrongFalsely : Prop := frameChainRow.holds Tryd.pinned (OpenSpec.ofChange frameChainWrong)

/-- 'stratumlaw21.FrameForth': WHATEVER THE INPUT: true; the input reads as it did. -/
def frameForthSpec : ChangeSpec := { name := "frameForth", fn := fun _ => fun
  | [d] => { results := [.lit (.bool true)], args := [d] }
  | _ => none }
def frameForthRow : OpenClaim := { program := "ytoddldamekamoaadoor", sum := "0f119e043f8c57350d20cd26e036be9dc997c514bf5c32f0481d79dfedc28ee1", func := "stratum/stratumlaw21.FrameForth", spec := "frameForth", named := ["stratum/frame.halves"], apart := false, laid := [("stratum/frame.halves", laid_stratum_frame_halves)] }
def FrameForthSaid : Prop := frameForthRow.holds Tryd.pinned (OpenSpec.ofChange frameForthSpec)

/-- ITS FALSE NEIGHBOUR: 'it returns false'. Refute it at one input. -/
def frameForthWrong : ChangeSpec := { name := "frameForth", fn := fun _ => fun
  | [d] => { results := [.lit (.bool false)], args := [d] }
  | _ => none }
def FrameForthWrongFalsely : Prop := frameForthRow.holds Tryd.pinned (OpenSpec.ofChange frameForthWrong)

/-- 'stratumlaw21.FrameCut': WHATEVER THE INPUT: true; the input reads as it did. -/
def frameCutSpec : ChangeSpec := { name := "frameCut", fn := fun _ => fun
  | [d1, d2] => { results := [.lit (.bool true)], args := [d1, d2] }
  | _ => none }
def frameCutRow : OpenClaim := { program := "ytoddldamekamoaadoor", sum := "0f119e043f8c57350d20cd26e036be9dc997c514bf5c32f0481d79dfedc28ee1", func := "stratum/stratumlaw21.FrameCut", spec := "frameCut", named := ["stratum/frame.halves"], apart := false, laid := [("stratum/frame.halves", laid_stratum_frame_halves)] }
def FrameCutSaid : Prop := frameCutRow.holds Tryd.pinned (OpenSpec.ofChange frameCutSpec)

/-- ITS FALSE NEIGHBOUR: 'it returns false'. Refute it at one input. -/
def frameCutWrong : ChangeSpec := { name := "frameCut", fn := fun _ => fun
  | [d1, d2] => { results := [.lit (.bool false)], args := [d1, d2] }
  | _ => none }
def FrameCutWrongFalsely : Prop := frameCutRow.holds Tryd.pinned (OpenSpec.ofChange frameCutWrong)

/-- 'stratumlaw21.FrameTurned': WHATEVER THE INPUT: true; the input reads as it did. -/
def frameTurnedSpec : ChangeSpec := { name := "frameTurned", fn := fun _ => fun
  | [d1, d2, d3] => { results := [.lit (.bool true)], args := [d1, d2, d3] }
  | _ => none }
def frameTurnedRow : OpenClaim := { program := "ytoddldamekamoaadoor", sum := "0f119e043f8c57350d20cd26e036be9dc997c514bf5c32f0481d79dfedc28ee1", func := "stratum/stratumlaw21.FrameTurned", spec := "frameTurned", named := ["stratum/frame.halves"], apart := false, laid := [("stratum/frame.halves", laid_stratum_frame_halves)] }
def FrameTurnedSaid : Prop := frameTurnedRow.holds Tryd.pinned (OpenSpec.ofChange frameTurnedSpec)

/-- ITS FALSE NEIGHBOUR: 'it returns false'. Refute it at one input. -/
def frameTurnedWrong : ChangeSpec := { name := "frameTurned", fn := fun _ => fun
  | [d1, d2, d3] => { results := [.lit (.bool false)], args := [d1, d2, d3] }
  | _ => none }
def FrameTurnedWrongFalsely : Prop := frameTurnedRow.holds Tryd.pinned (OpenSpec.ofChange frameTurnedWrong)

/-- 'stratumlaw21.FrameKeeps': WHATEVER THE INPUT: true; the input reads as it did. -/
def frameKeepsSpec : ChangeSpec := { name := "frameKeeps", fn := fun _ => fun
  | [d] => { results := [.lit (.bool true)], args := [d] }
  | _ => none }
def frameKeepsRow : OpenClaim := { program := "ytoddldamekamoaadoor", sum := "0f119e043f8c57350d20cd26e036be9dc997c514bf5c32f0481d79dfedc28ee1", func := "stratum/stratumlaw21.FrameKeeps", spec := "frameKeeps", named := ["stratum/frame.halves"], apart := false, laid := [("stratum/frame.halves", laid_stratum_frame_halves)] }
def FrameKeepsSaid : Prop := frameKeepsRow.holds Tryd.pinned (OpenSpec.ofChange frameKeepsSpec)

/-- ITS FALSE NEIGHBOUR: 'it returns false'. Refute it at one input. -/
def frameKeepsWrong : ChangeSpec := { name := "frameKeeps", fn := fun _ => fun
  | [d] => { results := [.lit (.bool false)], args := [d] }
  | _ => none }
def FrameKeepsWrongFalsely : Prop := frameKeepsRow.holds Tryd.pinned (OpenSpec.ofChange frameKeepsWrong)

/- THE SECOND FORM. 'bulk': how many values and letters a reading holds, each counted each time it is reached (what is shared counts as often as it is met; a slice's spare places count too). A statement '..UptoSaid' is the law's where the arguments, and the package variables that the reading takes, are together of bulk at most 1048576: NARROWER than '..Said'. Prove '..Said' where nothing that the law and all that it calls make is longer than what came in: it says more and counts as full. Else prove '..UptoSaid'. A law counts once. -/
mutual
def uptoBulk {H : Type} : DataW H → Nat
  | .lit (.string bytes) => bytes.length + 1
  | .lit _ => 1
  | .nil => 1
  | .ptr d => uptoBulk d + 1
  | .slice elems spare => uptoBulkAll elems + uptoBulkAll spare + 1
  | .agg parts => uptoBulkAll parts + 1
  | .iface _ d => uptoBulk d + 1
  | .map entries => uptoBulkEntries entries + 1
  | .held _ => 1
def uptoBulkAll {H : Type} : List (DataW H) → Nat
  | [] => 0
  | d :: r => uptoBulk d + uptoBulkAll r
def uptoBulkEntries {H : Type} : List (Lit × DataW H) → Nat
  | [] => 0
  | x :: r => uptoBulkEntry x + uptoBulkEntries r
def uptoBulkEntry {H : Type} : Lit × DataW H → Nat
  | (.string bytes, d) => bytes.length + uptoBulk d + 1
  | (_, d) => uptoBulk d + 1
 end
def uptoSmall : (H : Type) → List (DataW H) → Bool := fun _ ds => decide (uptoBulkAll ds ≤ 1048576)
def OpenSpec.upto (s : _root_.Go.ChangeSpec) : _root_.Go.OpenSpec := { _root_.Go.OpenSpec.ofChange s with cond := some uptoSmall }

/-- 'stratumlaw21.FrameAll', WHERE WHAT IT READS IS OF BULK AT MOST 1048576: true; the input reads as it did. -/
def frameAllUptoRow : OpenClaim := { program := "ytoddldamekamoaadoor", sum := "0f119e043f8c57350d20cd26e036be9dc997c514bf5c32f0481d79dfedc28ee1", func := "stratum/stratumlaw21.FrameAll", spec := "frameAll", named := ["stratum/frame.halves"], apart := false, laid := [("stratum/frame.halves", laid_stratum_frame_halves)], narrowed := true }
def FrameAllUptoSaid : Prop := frameAllUptoRow.holds Tryd.pinned (OpenSpec.upto frameAllSpec)

/-- 'stratumlaw21.FrameChain', WHERE WHAT IT READS IS OF BULK AT MOST 1048576: true; the input reads as it did. -/
def frameChainUptoRow : OpenClaim := { program := "ytoddldamekamoaadoor", sum := "0f119e043f8c57350d20cd26e036be9dc997c514bf5c32f0481d79dfedc28ee1", func := "stratum/stratumlaw21.FrameChain", spec := "frameChain", named := ["stratum/frame.halves"], apart := false, laid := [("stratum/frame.halves", laid_stratum_frame_halves)], narrowed := true }
def FrameChainUptoSaid : Prop := frameChainUptoRow.holds Tryd.pinned (OpenSpec.upto frameChainSpec)

/-- 'stratumlaw21.FrameForth', WHERE WHAT IT READS IS OF BULK AT MOST 1048576: true; the input reads as it did. -/
def frameForthUptoRow : OpenClaim := { program := "ytoddldamekamoaadoor", sum := "0f119e043f8c57350d20cd26e036be9dc997c514bf5c32f0481d79dfedc28ee1", func := "stratum/stratumlaw21.FrameForth", spec := "frameForth", named := ["stratum/frame.halves"], apart := false, laid := [("stratum/frame.halves", laid_stratum_frame_halves)], narrowed := true }
def FrameForthUptoSaid : Prop := frameForthUptoRow.holds Tryd.pinned (OpenSpec.upto frameForthSpec)

/-- 'stratumlaw21.FrameCut', WHERE WHAT IT READS IS OF BULK AT MOST 1048576: true; the input reads as it did. -/
def frameCutUptoRow : OpenClaim := { program := "ytoddldamekamoaadoor", sum := "0f119e043f8c57350d20cd26e036be9dc997c514bf5c32f0481d79dfedc28ee1", func := "stratum/stratumlaw21.FrameCut", spec := "frameCut", named := ["stratum/frame.halves"], apart := false, laid := [("stratum/frame.halves", laid_stratum_frame_halves)], narrowed := true }
def FrameCutUptoSaid : Prop := frameCutUptoRow.holds Tryd.pinned (OpenSpec.upto frameCutSpec)

/-- 'stratumlaw21.FrameTurned', WHERE WHAT IT READS IS OF BULK AT MOST 1048576: true; the input reads as it did. -/
def frameTurnedUptoRow : OpenClaim := { program := "ytoddldamekamoaadoor", sum := "0f119e043f8c57350d20cd26e036be9dc997c514bf5c32f0481d79dfedc28ee1", func := "stratum/stratumlaw21.FrameTurned", spec := "frameTurned", named := ["stratum/frame.halves"], apart := false, laid := [("stratum/frame.halves", laid_stratum_frame_halves)], narrowed := true }
def FrameTurnedUptoSaid : Prop := frameTurnedUptoRow.holds Tryd.pinned (OpenSpec.upto frameTurnedSpec)

/-- 'stratumlaw21.FrameKeeps', WHERE WHAT IT READS IS OF BULK AT MOST 1048576: true; the input reads as it did. -/
def frameKeepsUptoRow : OpenClaim := { program := "ytoddldamekamoaadoor", sum := "0f119e043f8c57350d20cd26e036be9dc997c514bf5c32f0481d79dfedc28ee1", func := "stratum/stratumlaw21.FrameKeeps", spec := "frameKeeps", named := ["stratum/frame.halves"], apart := false, laid := [("stratum/frame.halves", laid_stratum_frame_halves)], narrowed := true }
def FrameKeepsUptoSaid : Prop := frameKeepsUptoRow.holds Tryd.pinned (OpenSpec.upto frameKeepsSpec)

end Rows
end Go.Proofs.YtoddldamekamoaaDoor
