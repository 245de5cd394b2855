/- A script argument read as a row of calls. No condition but those in the theorems. -/
import Derived.Test.YthadfkpibnhcgaaRows
import Derived.Test.YthadfkpibnhcgaaD0
import Derived.Test.YthadfkpibnhcgaaQ
import Derived.WalkKit
import Derived.ProofKit
import Derived.OpenShut
import Derived.ChangeOld
import Derived.ChangeSame
import Derived.Below
import Derived.SizedLaws
set_option linter.unusedVariables false
namespace Go.Proofs.Ythadfkpibnhcgaa.R
open Go.ChangeShapes Go.WideShapes Go.ChangeAt Go.RowKit Go.Proofs.Ythadfkpibnhcgaa.B Go.Proofs.YthadfkpibnhcgaaW.PrintWords
theorem own : ownKnob Try.prog.godebug = none := by kernel_rfl
theorem laidOut : laidOutB Try.prog = true := by kernel_rfl
section
variable {H : Type} {enc : TypeId × Value → H} {P : Program} {w : World} {base : Nat} {spare : Nat → Bool} {held : Bool}
theorem trod_struct5 {t : TypeId} {f0 f1 f2 f3 f4 : Field} {fuel : Nat} {cs : List Value} {x : DataW H × List MemPlace} (ht : P.underlying t = some (.struct #[f0, f1, f2, f3, f4])) (h : DataW.trod enc P w base spare held fuel t cs = some x) :
    ∃ y0 y1 y2 y3 y4 n, x.1 = .agg [y0.1, y1.1, y2.1, y3.1, y4.1] ∧ cs.length = P.cellsOf t ∧ DataW.trod enc P w base spare held n f0.type ((cs.drop f0.offset).take (P.cellsOf f0.type)) = some y0 ∧
      DataW.trod enc P w base spare held n f1.type ((cs.drop f1.offset).take (P.cellsOf f1.type)) = some y1 ∧ DataW.trod enc P w base spare held n f2.type ((cs.drop f2.offset).take (P.cellsOf f2.type)) = some y2 ∧
      DataW.trod enc P w base spare held n f3.type ((cs.drop f3.offset).take (P.cellsOf f3.type)) = some y3 ∧ DataW.trod enc P w base spare held n f4.type ((cs.drop f4.offset).take (P.cellsOf f4.type)) = some y4 := by
  obtain ⟨xs, n, _, rfl, hl, hlen, hf⟩ := DataW.trod_struct ht h
  match xs, hlen with
  | [y0, y1, y2, y3, y4], _ => exact ⟨y0, y1, y2, y3, y4, n, by simp, hl, by simpa using hf 0 f0 rfl, by simpa using hf 1 f1 rfl, by simpa using hf 2 f2 rfl, by simpa using hf 3 f3 rfl, by simpa using hf 4 f4 rfl⟩
end
theorem op_elem {H : Type} {enc : TypeId × Value → H} {W : World} {base : Nat} {spare : Nat → Bool} {held : Bool} (n : Nat) (cs : List Value) (y : DataW H × List MemPlace)
    (h : DataW.trod enc Try.prog W base spare held n 27 cs = some y) : ∃ x : S27, k27.K W x cs := by
  obtain ⟨y0, y1, y2, y3, y4, m, _, hl, h0, h1, h2, h3, h4⟩ := trod_struct5 Try.underlying27 h
  rw [show Try.prog.cellsOf 27 = 5 from by kernel_rfl] at hl
  match cs, hl with
  | [c0, c1, c2, c3, c4], _ =>
    have zi : Try.prog.cellsOf 3 = 1 := by kernel_rfl
    have zs : Try.prog.cellsOf 9 = 1 := by kernel_rfl
    have h0' : DataW.trod enc Try.prog W base spare held m 3 ([c0, c1, c2, c3, c4].take (Try.prog.cellsOf 3)) = some y0 := h0
    have h1' : DataW.trod enc Try.prog W base spare held m 3 ([c1, c2, c3, c4].take (Try.prog.cellsOf 3)) = some y1 := h1
    have h2' : DataW.trod enc Try.prog W base spare held m 3 ([c2, c3, c4].take (Try.prog.cellsOf 3)) = some y2 := h2
    have h3' : DataW.trod enc Try.prog W base spare held m 9 ([c3, c4].take (Try.prog.cellsOf 9)) = some y3 := h3
    have h4' : DataW.trod enc Try.prog W base spare held m 3 ([c4].take (Try.prog.cellsOf 3)) = some y4 := h4
    rw [zi] at h0' h1' h2' h4'
    rw [zs] at h3'
    obtain ⟨i0, e0, _, _⟩ := DataW.trod_int Try.underlying3 h0'
    obtain ⟨i1, e1, _, _⟩ := DataW.trod_int Try.underlying3 h1'
    obtain ⟨i2, e2, _, _⟩ := DataW.trod_int Try.underlying3 h2'
    obtain ⟨s3, e3, _, _⟩ := DataW.trod_string Try.underlying9 h3'
    obtain ⟨i4, e4, _, _⟩ := DataW.trod_int Try.underlying3 h4'
    obtain rfl : c0 = .int .i64 i0 := by simpa using e0
    obtain rfl : c1 = .int .i64 i1 := by simpa using e1
    obtain rfl : c2 = .int .i64 i2 := by simpa using e2
    obtain rfl : c3 = .string s3 := by simpa using e3
    obtain rfl : c4 = .int .i64 i4 := by simpa using e4
    exact ⟨⟨i0, i1, i2, s3, i4⟩, k27_mk W ⟨i0, i1, i2, s3, i4⟩⟩
theorem ops_of {H : Type} {enc : TypeId × Value → H} {W : World} {base : Nat} {spare : Nat → Bool} {held : Bool} {a : Option Addr} {len cap : Nat} {d : DataW H} {ps : List MemPlace}
    (hw : ∀ m ∈ d.weights Try.prog 22, m ≤ reachBytes) (h : DataW.Trod enc Try.prog W base spare held 22 (.slice a len cap) d ps) :
    ∃ l : List S27, Kd.C k27 W a l.length l ∧ len = l.length ∧ l.length ≤ 4611686018427387903 := by
  obtain ⟨l0, hr0, hn0, hc0, _, hb0⟩ := Q.rows_of k27 z27 Try.underlying22 (e := 27) (show Try.prog.cellsOf 27 = 5 by kernel_rfl) (fun _ => True) (fun n cs y h _ => by obtain ⟨x, hx⟩ := op_elem n cs y h; exact ⟨x, hx, trivial⟩) hw h
  refine ⟨l0, hr0, hn0, ?_⟩
  rw [show Try.prog.bytesOf 27 = 48 from by kernel_rfl, show reachBytes = 140737488351232 from rfl, hn0] at hb0
  omega
end Go.Proofs.Ythadfkpibnhcgaa.R
