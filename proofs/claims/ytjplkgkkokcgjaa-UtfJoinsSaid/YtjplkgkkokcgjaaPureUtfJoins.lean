/- Behind a valid text another one is gone through as by itself. Stated over the printed functions; no condition but the row's. -/
import Derived.Test.YtjplkgkkokcgjaaT0
import Derived.Test.YtjplkgkkokcgjaaT1
import Derived.Test.YtjplkgkkokcgjaaX4
set_option linter.unusedVariables false
set_option linter.unusedSimpArgs false
namespace Go.Proofs.Ytjplkgkkokcgjaa.Pure
open Go.RowKit Go.Proofs.Ytjplkgkkokcgjaa.X Go.Proofs.Ytjplkgkkokcgjaa.U Go.Proofs.Ytjplkgkkokcgjaa.T Go.Proofs.YtjplkgkkokcgjaaW.PrintWords Go.Proofs.YtjplkgkkokcgjaaW.PrintLast Go.Proofs.YtjplkgkkokcgjaaW.PrintMore

theorem UtfJoins : stratumlaw03_UtfJoins.Pure := by
  intro s t hs ht
  refine Ev.rounds ?_
  unfold stratumlaw03_UtfJoins.f
  refine Ev.bind awake_ev ?_
  simp only [if_true]
  have hj : ∀ b : Bool, (b = false → s.size ≤ 16777216 ∧ t.size ≤ 16777216) → Ev (fun k => stratumlaw03_UtfJoins.j0 k s t true b) true := by
    intro b hb
    refine Ev.step (fun k => by simp only [stratumlaw03_UtfJoins.j0]; rfl) ?_
    cases b with
    | true => simp only [if_true]; exact Ev.now _
    | false =>
      obtain ⟨hs2, ht2⟩ := hb rfl
      simp only [Bool.false_eq_true, if_false]
      refine Ev.bind (fault_ev s (by omega)) ?_
      have hfl := fault_le s.data.toList
      rw [← size_len] at hfl
      have hmm : mn (mx ((fault s.data.toList : Nat) : Int) 0) (s.size : Int) = ((fault s.data.toList : Nat) : Int) := by unfold mn mx; rw [if_neg (by omega), if_neg (by omega)]
      simp only [hmm, Int.toNat_natCast, if_pos (show (0 : Int) ≤ ((fault s.data.toList : Nat) : Int) by omega), if_pos (show ((fault s.data.toList : Nat) : Int) ≤ (s.size : Int) by omega)]
      obtain ⟨a, ha⟩ : ∃ a : ByteArray, a = s.extract 0 (fault s.data.toList) := ⟨_, rfl⟩
      simp only [← ha]
      have hal : a.data.toList = s.data.toList.take (fault s.data.toList) := by rw [ha, ext_take]
      have hv : fault a.data.toList = a.data.toList.length := by rw [hal]; exact take_fault_valid _
      have hasz : a.size ≤ 16777216 := by rw [ha, ByteArray.size_extract]; omega
      have hapsz : (a ++ t).size = a.size + t.size := ByteArray.size_append
      have haml := umend_len _ _ (Nat.le_refl t.data.toList.length)
      have hc1 := ucount_le _ _ (Nat.le_refl a.data.toList.length)
      have hc2 := ucount_le _ _ (Nat.le_refl t.data.toList.length)
      have hf2 := fault_le t.data.toList
      rw [← size_len] at haml hc1 hc2 hf2
      refine Ev.bind (valid_ev a (by omega)) ?_
      simp only [hv, decide_true, if_true, if_pos (show a.size + t.size ≤ 9223372036854775807 by omega)]
      refine Ev.bind (fault_ev (a ++ t) (by omega)) ?_
      refine Ev.bind (fault_ev t (by omega)) ?_
      rw [app_list, fault_app _ hv, ← size_len]
      simp only [if_pos (show ((a.size + fault t.data.toList : Nat) : Int) = wrap64 ((a.size : Int) + ((fault t.data.toList : Nat) : Int)) by unfold wrap64; omega)]
      refine Ev.bind (count_ev (a ++ t) (by omega)) ?_
      refine Ev.bind (count_ev a (by omega)) ?_
      refine Ev.bind (count_ev t (by omega)) ?_
      rw [app_list, ucount_app _ hv]
      simp only [if_pos (show ((ucount a.data.toList + ucount t.data.toList : Nat) : Int) = wrap64 (((ucount a.data.toList : Nat) : Int) + ((ucount t.data.toList : Nat) : Int)) by unfold wrap64; omega)]
      have hm : (⟨(umend t.data.toList).toArray⟩ : ByteArray).size = (umend t.data.toList).length := by rw [size_len]
      simp only [mend_eq (a ++ t) (by omega), mend_eq t (by omega), Option.bind_some, hm, if_pos (show a.size + (umend t.data.toList).length ≤ 9223372036854775807 by omega), toList_eq, app_list, umend_app _ hv, beq_self_eq_true]
      exact Ev.now _
  by_cases c1 : (s.size : Int) > 16777216
  · simp only [if_pos c1]
    exact hj true (fun h => by cases h)
  · simp only [if_neg c1]
    refine hj _ (fun h => ?_)
    rw [decide_eq_false_iff_not] at h
    omega
end Go.Proofs.Ytjplkgkkokcgjaa.Pure
