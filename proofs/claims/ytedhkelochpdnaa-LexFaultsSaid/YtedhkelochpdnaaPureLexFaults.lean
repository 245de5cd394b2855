/- A fault hangs on the bytes up to it and what belongs to its token alone. Stated over the printed functions. No condition but the law's own. -/
import Derived.Test.YtedhkelochpdnaaT2
import Derived.Test.YtedhkelochpdnaaX14
set_option linter.unusedVariables false
set_option linter.unusedSimpArgs false
namespace Go.Proofs.Ytedhkelochpdnaa.Pure
open Go.RowKit Go.Proofs.Ytedhkelochpdnaa Go.Proofs.Ytedhkelochpdnaa.X Go.Proofs.Ytedhkelochpdnaa.L Go.Proofs.Ytedhkelochpdnaa.T Go.Proofs.YtedhkelochpdnaaW.PrintWords Go.Proofs.YtedhkelochpdnaaW.PrintLast Go.Proofs.YtedhkelochpdnaaW.PrintMore

theorem LexFaults : stratumlaw08_LexFaults.Pure := by
  intro a0 a1 h0 h1
  refine Ev.rounds ?_
  unfold stratumlaw08_LexFaults.f
  refine Ev.bind lives_ev ?_
  simp only [if_true]
  have jT : Ev (fun k => stratumlaw08_LexFaults.j0 k a0 a1 true) true := by
    refine Ev.step (fun k => by simp only [stratumlaw08_LexFaults.j0]; rfl) ?_
    simp only [if_true]; exact Ev.now _
  have W : Aside0 (wrap64 ((wrap64 ((a0.size : Int) + 1)) + (a1.size : Int)) = ((a0.size + 1 + a1.size : Nat) : Int)) := ⟨by rw [w64s (x := (a0.size : Int) + 1) (by omega) (by omega), w64s (by omega) (by omega)]; omega⟩
  by_cases c0 : (a0.size : Int) > 1048576
  · simp only [if_pos c0]; exact jT
  by_cases c1 : (a1.size : Int) > 1048576
  · simp only [if_neg c0, if_pos c1]; exact jT
  by_cases c2 : ((a0.size + 1 + a1.size : Nat) : Int) > 1048576
  · simp only [if_neg c0, if_neg c1, W.out, decide_eq_true c2]; exact jT
  simp only [if_neg c0, if_neg c1, W.out, decide_eq_false c2]
  clear W
  refine Ev.step (fun k => by simp only [stratumlaw08_LexFaults.j0]; rfl) ?_
  simp only [Bool.false_eq_true, if_false]
  refine Ev.bind (lexes_ev a0) ?_
  have hsz := size_len a0
  have hsz1 := size_len a1
  cases hx : L.Lex a0.data.toList with
  | toks ts => simp only [outL, if_true]; exact Ev.now _
  | bad a e =>
    rcases Lex_bad hx with h | ⟨hl, hb, ha, he⟩
    · omega
    obtain ⟨f1, f2, f3, f4, f5, f6⟩ := lx_faults a1.data.toList _ _ _ _ _ (Nat.le_refl _) hb
    have hcat : ((a0 ++ (⟨#[10]⟩ : ByteArray)) ++ a1).data.toList = a0.data.toList ++ 10 :: a1.data.toList := by
      rw [ByteArray.data_append, Array.toList_append, ByteArray.data_append, Array.toList_append, List.append_assoc]; rfl
    have hlen : (a0 ++ (⟨#[10]⟩ : ByteArray)).size = a0.size + 1 := by rw [ByteArray.size_append]; rfl
    have hl2 : L.Lex (a0.data.toList ++ 10 :: a1.data.toList) = .bad a e := by
      rw [Lex_small (by simp only [List.length_append, List.length_cons]; omega)]; exact f1
    simp only [outL, if_neg (show ¬ (e : Int) = 0 by omega), hlen, if_pos (show a0.size + 1 ≤ 9223372036854775807 by omega), if_pos (show a0.size + 1 + a1.size ≤ 9223372036854775807 by omega)]
    have hev := lexes_ev ((a0 ++ (⟨#[10]⟩ : ByteArray)) ++ a1)
    rw [hcat, hl2] at hev
    refine Ev.bind hev ?_
    simp only [outL, if_true, bne_self_eq_false]
    refine Ev.step (fun k => by simp only [stratumlaw08_LexFaults.j1]; rfl) ?_
    simp only [Bool.false_eq_true, if_false, if_pos (show (0 : Int) ≤ (a : Int) by omega), if_pos (show (a : Int) ≤ (a0.size : Int) by omega), Int.toNat_natCast]
    have hev2 := lexes_ev (a0.extract 0 a)
    rw [ext_list, List.drop_zero, Nat.sub_zero, Lex_small (by rw [List.length_take]; omega)] at hev2
    rw [Nat.sub_zero] at f5 f6
    by_cases h82 : e = 82
    · obtain ⟨j, hj1, hj2⟩ := f5 h82
      rw [hj1] at hev2
      have hev3 : Ev (fun k => lex_Lex.f k (a0.extract 0 a)) (([] : List S32), (j : Int), (81 : Int)) := hev2
      refine Ev.bind hev3 ?_
      simp only [if_pos (show (e : Int) = 82 by omega), if_true, decide_eq_true (show (j : Int) < (a : Int) by omega)]
      exact Ev.now _
    · obtain ⟨ts, hts⟩ := f6 h82
      rw [hts] at hev2
      refine Ev.bind hev2 ?_
      simp only [outL, if_neg (show ¬ (e : Int) = 82 by omega), beq_self_eq_true]
      exact Ev.now _
end Go.Proofs.Ytedhkelochpdnaa.Pure
