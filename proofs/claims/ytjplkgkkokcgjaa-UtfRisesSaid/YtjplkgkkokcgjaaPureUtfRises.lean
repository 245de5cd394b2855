/- Of two characters the greater one's bytes come behind. Stated over the printed functions; no condition but the row's. -/
import Derived.Test.YtjplkgkkokcgjaaT0
import Derived.Test.YtjplkgkkokcgjaaT1
import Derived.Test.YtjplkgkkokcgjaaX4
set_option linter.unusedVariables false
set_option linter.unusedSimpArgs false
namespace Go.Proofs.Ytjplkgkkokcgjaa.Pure
open Go.RowKit Go.Proofs.Ytjplkgkkokcgjaa.X Go.Proofs.Ytjplkgkkokcgjaa.U Go.Proofs.Ytjplkgkkokcgjaa.T Go.Proofs.YtjplkgkkokcgjaaW.PrintWords Go.Proofs.YtjplkgkkokcgjaaW.PrintLast Go.Proofs.YtjplkgkkokcgjaaW.PrintMore

theorem UtfRises : stratumlaw03_UtfRises.Pure := by
  intro c d hw1 hw2
  refine Ev.rounds ?_
  unfold stratumlaw03_UtfRises.f
  refine Ev.bind awake_ev ?_
  simp only [if_true]
  refine Ev.step (fun k => by simp only [stratumlaw03_UtfRises.j0]; rfl) ?_
  by_cases h1 : c ≥ d
  · simp only [decide_eq_true h1, if_true]
    exact Ev.now _
  · simp only [decide_eq_false h1, Bool.false_eq_true, if_false, put_eq, Option.bind_some, toList_eq]
    by_cases hc : 0 ≤ c ∧ isch c.toNat = true
    · by_cases hd : 0 ≤ d ∧ isch d.toNat = true
      · have e1 : iput c = put c.toNat := by unfold iput; rw [if_pos hc]
        have e2 : iput d = put d.toNat := by unfold iput; rw [if_pos hd]
        have b1 := (isch_iff _).1 hc.2
        have b2 := (isch_iff _).1 hd.2
        have hl := put_less b1.1 b2.1 (show c.toNat < d.toNat by omega)
        have hs : ∀ n, (⟨(put n).toArray⟩ : ByteArray).size = (put n).length := fun n => by rw [size_len]
        simp only [e1, e2, if_neg (put_ne c.toNat), if_neg (put_ne d.toNat), hl, if_true, hs, ext_take]
        by_cases hlt : ((put d.toNat).length : Int) < ((put c.toNat).length : Int)
        · simp only [if_pos hlt]
          exact Ev.now _
        · have hp := put_prefix hc.2 hd.2 (show c.toNat ≠ d.toNat by omega) (by omega)
          have hb : ((put d.toNat).take (put c.toNat).length != put c.toNat) = true := bne_iff_ne.mpr hp
          simp only [if_neg hlt, if_pos (show (0 : Int) ≤ ((put c.toNat).length : Int) by omega), if_pos (show ((put c.toNat).length : Int) ≤ ((put d.toNat).length : Int) by omega), hb]
          exact Ev.now _
      · have e2 : iput d = [] := by unfold iput; rw [if_neg hd]
        have e1 : iput c = put c.toNat := by unfold iput; rw [if_pos hc]
        simp only [e1, e2, if_neg (put_ne c.toNat), if_true]
        exact Ev.now _
    · have e1 : iput c = [] := by unfold iput; rw [if_neg hc]
      simp only [e1, if_true]
      exact Ev.now _
end Go.Proofs.Ytjplkgkkokcgjaa.Pure
