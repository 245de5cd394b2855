/- Name and Quote of every text are the reference's. Stated over the printed functions. No condition but the law's own. -/
import Derived.Test.YtedhkelochpdnaaT4
import Derived.Test.YtedhkelochpdnaaX10
set_option linter.unusedVariables false
set_option linter.unusedSimpArgs false
namespace Go.Proofs.Ytedhkelochpdnaa.Pure
open Go.RowKit Go.Proofs.Ytedhkelochpdnaa Go.Proofs.Ytedhkelochpdnaa.X Go.Proofs.Ytedhkelochpdnaa.L Go.Proofs.Ytedhkelochpdnaa.T Go.Proofs.YtedhkelochpdnaaW.PrintWords Go.Proofs.YtedhkelochpdnaaW.PrintLast Go.Proofs.YtedhkelochpdnaaW.PrintMore

theorem LexWords : stratumlaw08_LexWords.Pure := by
  intro a0 h0
  refine Ev.rounds ?_
  unfold stratumlaw08_LexWords.f
  refine Ev.bind lives_ev ?_
  simp only [if_true, name_eq, Option.bind_some]
  refine Ev.bind (rname_ev a0) ?_
  simp only [bne_self_eq_false, Bool.false_eq_true, if_false]
  by_cases h : (a0.size : Int) > 4194304
  · simp only [if_pos h]; exact Ev.now _
  · simp only [if_neg h]
    refine Ev.bind (quote_ev a0 (by omega)) (Ev.bind (rquote_ev a0 (by omega)) ?_)
    simp only [beq_self_eq_true]
    exact Ev.now _
end Go.Proofs.Ytedhkelochpdnaa.Pure
