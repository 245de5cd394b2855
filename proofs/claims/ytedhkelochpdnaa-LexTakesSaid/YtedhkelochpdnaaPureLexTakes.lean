/- The tokens of every text, or the place of the first fault, are the reference's. Stated over the printed functions. No condition but the law's own. -/
import Derived.Test.YtedhkelochpdnaaT3
import Derived.Test.YtedhkelochpdnaaX8
set_option linter.unusedVariables false
set_option linter.unusedSimpArgs false
namespace Go.Proofs.Ytedhkelochpdnaa.Pure
open Go.RowKit Go.Proofs.Ytedhkelochpdnaa Go.Proofs.Ytedhkelochpdnaa.X Go.Proofs.Ytedhkelochpdnaa.L Go.Proofs.Ytedhkelochpdnaa.T Go.Proofs.YtedhkelochpdnaaW.PrintWords Go.Proofs.YtedhkelochpdnaaW.PrintLast Go.Proofs.YtedhkelochpdnaaW.PrintMore

theorem LexTakes : stratumlaw08_LexTakes.Pure := by
  intro a0 h0
  refine Ev.rounds ?_
  unfold stratumlaw08_LexTakes.f
  refine Ev.bind lives_ev ?_
  simp only [if_true]
  refine Ev.bind (rlexes_ev a0) (Ev.bind (lexes_ev a0) (Ev.bind (same_ev _ (by have := out_count a0.data.toList; omega)) ?_))
  simp only [if_true, beq_self_eq_true]
  exact Ev.now _
end Go.Proofs.Ytedhkelochpdnaa.Pure
