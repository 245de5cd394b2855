/- What is mended is valid, has the same count, and is itself if it is valid. Stated over the printed functions; no condition but the row's. -/
import Derived.Test.YtjplkgkkokcgjaaT0
import Derived.Test.YtjplkgkkokcgjaaT1
import Derived.Test.YtjplkgkkokcgjaaX4
set_option linter.unusedVariables false
set_option linter.unusedSimpArgs false
namespace Go.Proofs.Ytjplkgkkokcgjaa.Pure
open Go.RowKit Go.Proofs.Ytjplkgkkokcgjaa.X Go.Proofs.Ytjplkgkkokcgjaa.U Go.Proofs.Ytjplkgkkokcgjaa.T Go.Proofs.YtjplkgkkokcgjaaW.PrintWords Go.Proofs.YtjplkgkkokcgjaaW.PrintLast Go.Proofs.YtjplkgkkokcgjaaW.PrintMore

theorem UtfMends : stratumlaw03_UtfMends.Pure := by
  intro s hs
  refine Ev.rounds ?_
  unfold stratumlaw03_UtfMends.f
  refine Ev.bind awake_ev ?_
  simp only [if_true]
  refine Ev.step (fun k => by simp only [stratumlaw03_UtfMends.j0]; rfl) ?_
  by_cases h1 : (s.size : Int) > 16777216
  · simp only [decide_eq_true h1, if_true]
    exact Ev.now _
  · obtain ⟨hv, hc⟩ := umend_facts _ _ (Nat.le_refl s.data.toList.length)
    have hml := umend_len _ _ (Nat.le_refl s.data.toList.length)
    rw [← size_len] at hml
    obtain ⟨t, htd⟩ : ∃ t : ByteArray, t = ⟨(umend s.data.toList).toArray⟩ := ⟨_, rfl⟩
    have htl : t.data.toList = umend s.data.toList := by rw [htd]
    have htsz : t.size ≤ 50331648 := by rw [size_len, htl]; omega
    have hmt : (⟨(umend t.data.toList).toArray⟩ : ByteArray) = t := by rw [htl, umend_valid hv, htd]
    simp only [decide_eq_false h1, Bool.false_eq_true, if_false, mend_eq s (by omega), Option.bind_some, ← htd]
    rw [← htl] at hv hc
    refine Ev.bind (valid_ev t (by omega)) ?_
    simp only [hv, decide_true, if_true]
    refine Ev.bind (count_ev t (by omega)) ?_
    refine Ev.bind (count_ev s (by omega)) ?_
    simp only [hc, if_true, mend_eq t (by omega), hmt, Option.bind_some, beq_self_eq_true]
    by_cases he : t.toList = s.toList
    · simp only [if_pos he]
      exact Ev.now _
    · simp only [if_neg he]
      refine Ev.bind (valid_ev s (by omega)) ?_
      by_cases hvs : fault s.data.toList = s.data.toList.length
      · exact absurd (by rw [toList_eq, toList_eq, htl, umend_valid hvs]) he
      · simp only [decide_eq_false hvs, Bool.false_eq_true, if_false]
        exact Ev.now _
end Go.Proofs.Ytjplkgkkokcgjaa.Pure
