/- A name is what Lex reads as one, whole. Stated over the printed functions. No condition but the law's own. -/
import Derived.Test.YtedhkelochpdnaaT2
import Derived.Test.YtedhkelochpdnaaX14
set_option linter.unusedVariables false
set_option linter.unusedSimpArgs false
namespace Go.Proofs.Ytedhkelochpdnaa.Pure
open Go.RowKit Go.Proofs.Ytedhkelochpdnaa Go.Proofs.Ytedhkelochpdnaa.X Go.Proofs.Ytedhkelochpdnaa.L Go.Proofs.Ytedhkelochpdnaa.T Go.Proofs.YtedhkelochpdnaaW.PrintWords Go.Proofs.YtedhkelochpdnaaW.PrintLast Go.Proofs.YtedhkelochpdnaaW.PrintMore

theorem LexNames : stratumlaw08_LexNames.Pure := by
  intro a0 h0
  refine Ev.rounds ?_
  unfold stratumlaw08_LexNames.f
  refine Ev.bind lives_ev ?_
  simp only [if_true, name_eq, Option.bind_some]
  refine Ev.bind (lexes_ev a0) ?_
  have hsz := size_len a0
  have no : ∀ (h : L.Name a0.data.toList = true), a0.data.toList.length ≤ 64 ∧ L.Lex a0.data.toList = .toks [⟨1, a0.data.toList, 0, 0, a0.data.toList.length⟩, ⟨0, [], 0, a0.data.toList.length, a0.data.toList.length⟩] := by
    intro h
    have h64 : a0.data.toList.length ≤ 64 := by
      obtain ⟨b, t, e, h1, _⟩ := (Name_iff _).1 h; exact h1
    exact ⟨h64, by rw [Lex_small (by omega), lx_name h]⟩
  cases hN : L.Name a0.data.toList with
  | true =>
    obtain ⟨h64, e⟩ := no hN
    rw [e]
    simp only [outL, List.nil_append, List.map_cons, List.map_nil, List.length_cons, List.length_nil, toS, rd_T32, Int.toNat_zero, List.getD_cons_zero]
    simp only [if_true, ← hsz, beq_self_eq_true, toList_data, ba_list, decide_eq_true (show (a0.size : Int) ≤ 64 by omega)]
    exact Ev.congr (fun k => rfl) (Ev.now true)
  | false =>
    have noT : ∀ ts, L.Lex a0.data.toList = .toks ts → ∀ t e, ts = [t, e] → t.kind = 1 → t.at' = 0 → ¬ t.fin = a0.size := by
      intro ts hts t e he h1 h2 h3
      subst he
      have := (name_lx (Lex_toks hts).2.1 h1 h2 (by rw [h3, hsz])).1
      rw [hN] at this; cases this
    cases hx : L.Lex a0.data.toList with
    | bad a e =>
      have : e ≠ 0 := by rcases Lex_bad hx with h | h <;> omega
      simp only [outL, if_neg (show ¬ (e : Int) = 0 by omega), beq_self_eq_true, if_true]
      exact Ev.now _
    | toks ts =>
      have hno := noT ts hx
      simp only [outL, List.nil_append, if_true, List.length_map]
      by_cases h2 : ts.length = 2
      · obtain ⟨t, e, rfl⟩ : ∃ t e, ts = [t, e] := by
          match ts, h2 with
          | [t, e], _ => exact ⟨t, e, rfl⟩
        simp only [List.length_cons, List.length_nil, List.map_cons, List.map_nil, rd_T32, Int.toNat_zero, List.getD_cons_zero, toS]
        simp only [if_pos (show (((0 + 1 + 1 : Nat)) : Int) = 2 by omega), if_pos (show (0 : Int) < (((0 + 1 + 1 : Nat)) : Int) by omega)]
        by_cases h3 : t.kind = 1
        · simp only [if_pos (show (t.kind : Int) = 1 by omega)]
          by_cases h4 : t.at' = 0
          · have h5 := hno t e rfl h3 h4
            have h6 : ((t.fin : Int) == (a0.size : Int)) = false := by rw [beq_eq_false_iff_ne]; omega
            simp only [if_pos (show (t.at' : Int) = 0 by omega), h6, beq_self_eq_true, if_true, if_neg (show ¬ (t.fin : Int) = (a0.size : Int) by omega)]
            exact Ev.now _
          · simp only [if_neg (show ¬ (t.at' : Int) = 0 by omega), beq_self_eq_true, if_true]; exact Ev.now _
        · simp only [if_neg (show ¬ (t.kind : Int) = 1 by omega), beq_self_eq_true, if_true]; exact Ev.now _
      · simp only [if_neg (show ¬ (ts.length : Int) = 2 by omega), beq_self_eq_true, if_true]
        exact Ev.now _
end Go.Proofs.Ytedhkelochpdnaa.Pure
