/- The argument of RollClosed, read. No condition but those in the theorem. -/
import Derived.Test.YthadfkpibnhcgaaR0
set_option linter.unusedVariables false
set_option linter.unusedSimpArgs false
namespace Go.Proofs.Ythadfkpibnhcgaa.R
open Go.ChangeShapes Go.WideShapes Go.ChangeAt Go.RowKit Go.Proofs.Ythadfkpibnhcgaa.B Go.Proofs.YthadfkpibnhcgaaW.PrintWords
theorem closed_of {H : Type} {enc : TypeId × Value → H} {W : World} {base : Nat} {v : Value} {d : DataW H} {ps : List MemPlace} (hv : Value.okWide Try.prog W .any base 50 v)
    (hw : ∀ m ∈ d.weights Try.prog 50, m ≤ reachBytes) (h : DataW.Trod enc Try.prog W 0 (fun _ => true) true 50 v d ps) :
    ∃ (a : Option Addr) (c : Nat) (l : List S27) (F : Int) (nm : ByteArray) (num sz : Int), v = .agg #[.slice a l.length c, .int .i64 F, .string nm, .int .i64 num, .int .i64 sz] ∧ Kd.C k27 W a l.length l ∧ l.length ≤ 4611686018427387903 := by
  obtain ⟨cs, rfl, hcs⟩ := okWide_struct Try.underlying50 hv
  rw [show Try.prog.cellsOf 50 = 5 from by kernel_rfl] at hcs
  obtain ⟨fuel, hf⟩ := h
  obtain ⟨y0, y1, y2, y3, y4, m, hd, hl, h0, h1, h2, h3, h4⟩ := trod_struct5 Try.underlying50 hf
  have hd' : d = .agg [y0.1, y1.1, y2.1, y3.1, y4.1] := hd
  obtain ⟨cl⟩ := cs
  match cl, hcs with
  | [c0, c1, c2, c3, c4], _ =>
    have zi : Try.prog.cellsOf 3 = 1 := by kernel_rfl
    have zs : Try.prog.cellsOf 9 = 1 := by kernel_rfl
    have zl : Try.prog.cellsOf 22 = 1 := by kernel_rfl
    have h0' : DataW.trod enc Try.prog W 0 (fun _ => true) true m 22 ([c0, c1, c2, c3, c4].take (Try.prog.cellsOf 22)) = some y0 := h0
    have h1' : DataW.trod enc Try.prog W 0 (fun _ => true) true m 3 ([c1, c2, c3, c4].take (Try.prog.cellsOf 3)) = some y1 := h1
    have h2' : DataW.trod enc Try.prog W 0 (fun _ => true) true m 9 ([c2, c3, c4].take (Try.prog.cellsOf 9)) = some y2 := h2
    have h3' : DataW.trod enc Try.prog W 0 (fun _ => true) true m 3 ([c3, c4].take (Try.prog.cellsOf 3)) = some y3 := h3
    have h4' : DataW.trod enc Try.prog W 0 (fun _ => true) true m 3 ([c4].take (Try.prog.cellsOf 3)) = some y4 := h4
    rw [zi] at h1' h3' h4'
    rw [zs] at h2'
    rw [zl] at h0'
    obtain ⟨i1, e1, _, _⟩ := DataW.trod_int Try.underlying3 h1'
    obtain ⟨s2, e2, _, _⟩ := DataW.trod_string Try.underlying9 h2'
    obtain ⟨i3, e3, _, _⟩ := DataW.trod_int Try.underlying3 h3'
    obtain ⟨i4, e4, _, _⟩ := DataW.trod_int Try.underlying3 h4'
    obtain rfl : c1 = .int .i64 i1 := by simpa using e1
    obtain rfl : c2 = .string s2 := by simpa using e2
    obtain rfl : c3 = .int .i64 i3 := by simpa using e3
    obtain rfl : c4 = .int .i64 i4 := by simpa using e4
    have h0'' : DataW.trod enc Try.prog W 0 (fun _ => true) true m 22 [c0] = some y0 := h0'
    obtain ⟨a, len, cap, rfl⟩ : ∃ a len cap, c0 = .slice a len cap := by
      rcases Go.Deep.open_slice Try.underlying22 h0'' with ⟨hc, _⟩ | ⟨ad, l, c, _, _, _, _, hc, _⟩
      · exact ⟨_, _, _, by simpa using hc⟩
      · exact ⟨_, _, _, by simpa using hc⟩
    have hw0 : ∀ q ∈ y0.1.weights Try.prog 22, q ≤ reachBytes := by
      intro q hq
      refine hw q ?_
      rw [hd']
      simp only [DataW.weights, Try.underlying50]
      simp only [DataW.weightsEach, List.toList_toArray, Array.toList_map, List.map_cons, List.map_nil]
      exact List.mem_append_left _ hq
    obtain ⟨l, hC, hlen, hn⟩ := ops_of hw0 (⟨m, h0''⟩ : DataW.Trod enc Try.prog W 0 (fun _ => true) true 22 (.slice a len cap) y0.1 y0.2)
    subst hlen
    exact ⟨a, cap, l, i1, s2, i3, i4, rfl, hC, hn⟩
end Go.Proofs.Ythadfkpibnhcgaa.R
