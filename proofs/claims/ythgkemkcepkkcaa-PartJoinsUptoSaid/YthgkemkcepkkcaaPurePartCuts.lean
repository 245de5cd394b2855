/- Index, Head, Tail and Join are the document's. Stated over the printed functions; condition: texts up to 2^20 bytes. -/
import Derived.Test.YthgkemkcepkkcaaS0
set_option linter.unusedVariables false
set_option linter.unusedSimpArgs false
namespace Go.Proofs.Ythgkemkcepkkcaa.Pure
open Go.RowKit Go.Proofs.Ythgkemkcepkkcaa.X Go.Proofs.Ythgkemkcepkkcaa.S Go.Proofs.YthgkemkcepkkcaaW.PrintWords Go.Proofs.YthgkemkcepkkcaaW.PrintLast Go.Proofs.YthgkemkcepkkcaaW.PrintMore

theorem idx_range (s sub : List UInt8) : -1 ≤ idx s sub ∧ (0 ≤ idx s sub → idx s sub + sub.length ≤ s.length) := by
  unfold idx
  split
  · exact ⟨Int.le_refl _, fun h => by omega⟩
  · exact ⟨Lib.index_ge _ _, Lib.index_room _ _⟩
def headOf (s sub : ByteArray) : ByteArray := if idx s.data.toList sub.data.toList < 0 then s else s.extract 0 (idx s.data.toList sub.data.toList).toNat
def tailOf (s sub : ByteArray) : ByteArray := if idx s.data.toList sub.data.toList < 0 then ⟨#[]⟩ else s.extract (idx s.data.toList sub.data.toList + sub.size).toNat s.size
theorem head_eq {a0 a1 : ByteArray} {m : Int} (h : a0.size ≤ 1048576) : part_Head.f a0 a1 [m] = some (headOf a0 a1) := by
  unfold part_Head.f headOf
  rw [index_eq (by omega), Option.bind_some]
  obtain ⟨h1, h2⟩ := idx_range a0.data.toList a1.data.toList
  rw [← size_len, ← size_len] at h2
  by_cases c : idx a0.data.toList a1.data.toList < 0
  · rw [if_pos c, if_pos c]
  · have := h2 (by omega)
    rw [if_neg c, if_neg c, if_pos (by omega), if_pos (by omega)]
theorem tail_eq {a0 a1 : ByteArray} {m : Int} (h : a0.size ≤ 1048576) (h' : a1.size ≤ 1048576) : part_Tail.f a0 a1 [m] = some (tailOf a0 a1) := by
  unfold part_Tail.f tailOf
  rw [index_eq (by omega), Option.bind_some]
  obtain ⟨h1, h2⟩ := idx_range a0.data.toList a1.data.toList
  rw [← size_len, ← size_len] at h2
  by_cases c : idx a0.data.toList a1.data.toList < 0
  · rw [if_pos c, if_pos c]
  · have := h2 (by omega)
    rw [if_neg c, if_neg c, w64 (by omega) (by omega), if_pos (by omega), if_pos (by omega)]
theorem refhead_ev {a0 a1 : ByteArray} (h : a0.size ≤ 1048576) (h' : a1.size ≤ 1048576) : Ev (fun k => stratumref07_Head.f k a0 a1) (headOf a0 a1) := by
  unfold stratumref07_Head.f headOf
  refine Ev.bind (refindex_ev (by omega) (by omega)) ?_
  obtain ⟨h1, h2⟩ := idx_range a0.data.toList a1.data.toList
  rw [← size_len, ← size_len] at h2
  by_cases c : idx a0.data.toList a1.data.toList < 0
  · simp only [if_pos c]; exact Ev.now _
  · have := h2 (by omega)
    simp only [if_neg c, if_pos (show 0 ≤ idx a0.data.toList a1.data.toList by omega), if_pos (show idx a0.data.toList a1.data.toList ≤ (a0.size : Int) by omega)]
    exact Ev.now _
theorem reftail_ev {a0 a1 : ByteArray} (h : a0.size ≤ 1048576) (h' : a1.size ≤ 1048576) : Ev (fun k => stratumref07_Tail.f k a0 a1) (tailOf a0 a1) := by
  unfold stratumref07_Tail.f tailOf
  refine Ev.bind (refindex_ev (by omega) (by omega)) ?_
  obtain ⟨h1, h2⟩ := idx_range a0.data.toList a1.data.toList
  rw [← size_len, ← size_len] at h2
  by_cases c : idx a0.data.toList a1.data.toList < 0
  · simp only [if_pos c]; exact Ev.now _
  · have := h2 (by omega)
    have hw := w64 (x := idx a0.data.toList a1.data.toList + (a1.size : Int)) (by omega) (by omega)
    have g1 : 0 ≤ idx a0.data.toList a1.data.toList + (a1.size : Int) := by omega
    have g2 : idx a0.data.toList a1.data.toList + (a1.size : Int) ≤ (a0.size : Int) := by omega
    simp only [if_neg c, hw, if_pos g1, if_pos g2]
    exact Ev.now _
theorem PartCuts (a0 a1 a2 : ByteArray) (m : Int) (hb : a0.size + a1.size + a2.size ≤ 1048576) : ∃ k, stratumlaw07_PartCuts.f k a0 a1 a2 [m] = some true := by
  refine Ev.rounds ?_
  unfold stratumlaw07_PartCuts.f
  refine Ev.bind (awake_ev m) ?_
  simp only [if_true]
  have hj : ∀ b : Bool, Ev (fun k => stratumlaw07_PartCuts.j0 k a0 a1 a2 b [m]) true := by
    intro b
    refine Ev.step (fun k => by simp only [stratumlaw07_PartCuts.j0]; rfl) ?_
    cases b with
    | true => simp only [if_true]; exact Ev.now _
    | false =>
      have hi : part_Index.f a0 a1 [m] = some (idx a0.data.toList a1.data.toList) := index_eq (by omega)
      have hh : part_Head.f a0 a1 [m] = some (headOf a0 a1) := head_eq (by omega)
      have ht : part_Tail.f a0 a1 [m] = some (tailOf a0 a1) := tail_eq (by omega) (by omega)
      have hjn := join_eq (a := a0) (b := a1) (c := a2) (by omega)
      have hjr := refjoin_eq (a := a0) (b := a1) (c := a2) (by omega)
      simp only [Bool.false_eq_true, if_false, hi, hh, ht, hjn, hjr, Option.bind_some, beq_self_eq_true]
      refine Ev.bind (refindex_ev (by omega) (by omega)) ?_
      simp only [if_true]
      refine Ev.bind (refhead_ev (by omega) (by omega)) ?_
      simp only [if_true]
      refine Ev.bind (reftail_ev (by omega) (by omega)) ?_
      simp only [if_true]
      exact Ev.now _
  by_cases c : (a1.size : Int) > 0
  · simp only [if_pos c, if_neg (show ¬ (a1.size : Int) = 0 by omega)]
    exact hj _
  · simp only [if_neg c]
    exact hj _
end Go.Proofs.Ythgkemkcepkkcaa.Pure
