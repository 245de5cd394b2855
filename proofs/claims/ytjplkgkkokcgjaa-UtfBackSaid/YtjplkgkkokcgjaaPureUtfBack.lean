/- A character's bytes, with anything behind them, are read as it. Stated over the printed functions; no condition but the row's. -/
import Derived.Test.YtjplkgkkokcgjaaT0
import Derived.Test.YtjplkgkkokcgjaaT1
import Derived.Test.YtjplkgkkokcgjaaX2
set_option linter.unusedVariables false
set_option linter.unusedSimpArgs false
namespace Go.Proofs.Ytjplkgkkokcgjaa.Pure
open Go.RowKit Go.Proofs.Ytjplkgkkokcgjaa.X Go.Proofs.Ytjplkgkkokcgjaa.U Go.Proofs.Ytjplkgkkokcgjaa.T Go.Proofs.YtjplkgkkokcgjaaW.PrintWords Go.Proofs.YtjplkgkkokcgjaaW.PrintLast Go.Proofs.YtjplkgkkokcgjaaW.PrintMore

theorem UtfBack : stratumlaw03_UtfBack.Pure := by
  intro c s hw hs
  refine Ev.rounds ?_
  unfold stratumlaw03_UtfBack.f
  refine Ev.bind awake_ev ?_
  simp only [if_true]
  refine Ev.step (fun k => by simp only [stratumlaw03_UtfBack.j0]; rfl) ?_
  by_cases h1 : (s.size : Int) > 16777216
  · simp only [decide_eq_true h1, if_true]
    exact Ev.now _
  · simp only [decide_eq_false h1, Bool.false_eq_true, if_false, put_eq, Option.bind_some]
    have hj : ∀ b : Bool, (b = true ↔ ¬ (0 ≤ c ∧ isch c.toNat = true)) → Ev (fun k => stratumlaw03_UtfBack.j1 k c s ⟨(iput c).toArray⟩ b) true := by
      intro b hb
      refine Ev.step (fun k => by simp only [stratumlaw03_UtfBack.j1]; rfl) ?_
      by_cases hc : 0 ≤ c ∧ isch c.toNat = true
      · have : b = false := by cases b with | false => rfl | true => exact absurd hc (hb.1 rfl)
        subst this
        have e : iput c = put c.toNat := by unfold iput; rw [if_pos hc]
        have hl1 := put_len_pos c.toNat
        have hl4 := put_len_le c.toNat
        have hsz : (⟨(put c.toNat).toArray⟩ : ByteArray).size = (put c.toNat).length := by rw [size_len]
        have hlist : (⟨(put c.toNat).toArray⟩ : ByteArray).data.toList = put c.toNat := rfl
        have hv := put_valid hc.2
        simp only [Bool.false_eq_true, if_false, e, hsz, if_pos (show (put c.toNat).length + s.size ≤ 9223372036854775807 by omega), next_eq, app_list, hlist, Option.bind_some, unext_some (dec_put hc.2 s.data.toList), if_pos (show ((put c.toNat).length : Int) ≥ 1 by omega), if_pos (show ((put c.toNat).length : Int) ≤ 4 by omega), if_pos (show ((c.toNat : Nat) : Int) = c by omega), if_true]
        refine Ev.bind (valid_ev _ (by rw [hsz]; omega)) ?_
        simp only [hlist, hv.1, decide_true, if_true]
        refine Ev.bind (count_ev _ (by rw [hsz]; omega)) ?_
        simp only [hlist, hv.2]
        exact Ev.now _
      · have : b = true := hb.2 hc
        subst this
        have e : iput c = [] := by unfold iput; rw [if_neg hc]
        simp only [if_true, e, toList_eq]
        exact Ev.now _
    by_cases a1 : c < 0
    · simp only [if_pos a1]
      exact hj true ⟨fun _ h => by omega, fun _ => rfl⟩
    · simp only [if_neg a1]
      by_cases a2 : c > 1114111
      · simp only [if_pos a2]
        exact hj true ⟨fun _ h => by have := (isch_iff _).1 h.2; omega, fun _ => rfl⟩
      · simp only [if_neg a2]
        by_cases a3 : c ≥ 55296
        · simp only [if_pos a3]
          refine hj _ ?_
          rw [decide_eq_true_iff, isch_iff]
          omega
        · simp only [if_neg a3]
          refine hj false ⟨fun h => by (cases h), fun h => absurd (show 0 ≤ c ∧ isch c.toNat = true from ⟨by omega, (isch_iff _).2 (by omega)⟩) h⟩
end Go.Proofs.Ytjplkgkkokcgjaa.Pure
