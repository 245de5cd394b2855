/- The reference's Lex answers what the plain one says. No condition but the sizes. -/
import Derived.Test.YtedhkelochpdnaaX8
import Derived.Test.YtedhkelochpdnaaT1
import Derived.Test.YtedhkelochpdnaaT2
set_option linter.unusedVariables false
set_option linter.unusedSimpArgs false
namespace Go.Proofs.Ytedhkelochpdnaa.T
open Go.RowKit Go.Proofs.Ytedhkelochpdnaa Go.Proofs.Ytedhkelochpdnaa.X Go.Proofs.Ytedhkelochpdnaa.L Go.Proofs.YtedhkelochpdnaaW.PrintWords Go.Proofs.YtedhkelochpdnaaW.PrintLast Go.Proofs.YtedhkelochpdnaaW.PrintMore

theorem rloop_ev (s : ByteArray) (hs : s.size ≤ 1048576) : ∀ (d off : Nat) (acc : List S32), s.size - off ≤ d → off ≤ s.size → acc.length ≤ off →
    Ev (fun k => stratumref08_Lex.l0 k s acc ((off + sk false (s.data.toList.drop off) : Nat) : Int)) (outL acc (lx off (s.data.toList.drop off))) := by
  intro d
  induction d with
  | zero =>
    intro off acc hd hi ha
    have e : s.data.toList.drop off = [] := List.drop_of_length_le (by rw [← size_len]; omega)
    refine Ev.step (fun k => by simp only [stratumref08_Lex.l0]; rfl) ?_
    rw [e, lx_end rfl]
    simp only [sk, Nat.add_zero, if_neg (show ¬ (off : Int) < (s.size : Int) by omega), if_pos (show acc.length < 2932031007402 by omega), List.length_nil]
    obtain rfl : off = s.size := by omega
    exact Ev.now _
  | succ d ih =>
    intro off acc hd hi ha
    have hlen : (s.data.toList.drop off).length = s.size - off := by rw [List.length_drop, ← size_len]
    have hsk := sk_le false (s.data.toList.drop off)
    by_cases hz : sk false (s.data.toList.drop off) = (s.data.toList.drop off).length
    · refine Ev.step (fun k => by simp only [stratumref08_Lex.l0]; rfl) ?_
      rw [lx_end hz, hz, hlen, show off + (s.size - off) = s.size by omega]
      simp only [Int.lt_irrefl, if_false, if_pos (show acc.length < 2932031007402 by omega)]
      exact Ev.now _
    · obtain ⟨i, hi2⟩ : ∃ i, i = off + sk false (s.data.toList.drop off) := ⟨_, rfl⟩
      have hdr : (s.data.toList.drop off).drop (sk false (s.data.toList.drop off)) = s.data.toList.drop i := by rw [List.drop_drop, hi2]
      have hil : i < s.size := by omega
      cases hl : s.data.toList.drop i with
      | nil => have := drop_len hl (by omega); simp only [List.length_nil] at this; omega
      | cons b t =>
        obtain ⟨p, hp1, hp2⟩ := rtoken_ev s (by omega) i b t hl
        refine Ev.step (fun k => by simp only [stratumref08_Lex.l0]; rfl) ?_
        simp only [← hi2, if_pos (show (i : Int) < (s.size : Int) by omega)]
        refine Ev.bind hp1 ?_
        cases ht : L.tok (s.data.toList.drop i) with
        | bad a e =>
          rw [ht] at hp2
          obtain ⟨h1, h2, h3⟩ := hp2
          rw [lx_bad (a := a) (e := e) hz (by rw [hdr]; exact ht), ← hi2]
          simp only [h1, h2, if_neg (show ¬ (e : Int) = 0 by omega)]
          exact Ev.now _
        | ok t' =>
          rw [ht] at hp2
          have hp2' : p = ((t'.kind : Int), ba t'.text, (t'.num : Int), (i : Int), ((i + t'.len : Nat) : Int), 0, 0) := hp2
          have htl := tok_len ht
          rw [List.length_drop, ← size_len] at htl
          subst hp2'
          rw [lx_ok (t := t') hz (by rw [hdr]; exact ht), ← hi2]
          simp only [if_true, if_pos (show acc.length < 2932031007402 by omega)]
          have hsk2 := (rskip_ev s (by omega) _ (i + t'.len) (Nat.le_refl _) (by omega))
          have hnx := ih (i + t'.len) (acc ++ [toS (t'.at_ i)]) (by omega) (by omega) (by simp only [List.length_append, List.length_cons, List.length_nil]; omega)
          rw [outL_push, show (s.data.toList.drop off).drop (sk false (s.data.toList.drop off) + t'.len) = s.data.toList.drop (i + t'.len) by rw [← List.drop_drop, hdr, List.drop_drop]]
          refine Ev.bind (g := fun k => stratumref08_skip.f k s ((i + t'.len : Nat) : Int)) hsk2.1 ?_
          exact hnx
theorem rlexes_ev (s : ByteArray) : Ev (fun k => stratumref08_Lex.f k s) (outL [] (L.Lex s.data.toList)) := by
  unfold L.Lex
  rw [← size_len]
  by_cases h : s.size > 1048576
  · rw [if_pos h]
    refine Ev.congr (fun k => ?_) (Ev.now _)
    unfold stratumref08_Lex.f
    rw [if_pos (by omega)]; rfl
  · rw [if_neg h]
    have h1 := rskip_ev s (by omega) _ 0 (Nat.le_refl _) (by omega)
    have h2 := rloop_ev s (by omega) _ 0 [] (Nat.le_refl _) (by omega) (Nat.le_refl _)
    rw [List.drop_zero] at h1 h2
    refine Ev.congr (f := fun k => (stratumref08_skip.f k s 0).bind fun t132 => stratumref08_Lex.l0 k s [] t132) (fun k => ?_) (Ev.bind (g := fun k => stratumref08_skip.f k s 0) h1.1 h2)
    unfold stratumref08_Lex.f
    rw [if_neg (by omega)]
end Go.Proofs.Ytedhkelochpdnaa.T
