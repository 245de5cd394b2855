/- Lex reads what Quote writes of any bytes as one text of just these bytes. Stated over the printed functions. No condition but the law's own. -/
import Derived.Test.YtedhkelochpdnaaT2
import Derived.Test.YtedhkelochpdnaaX11
set_option linter.unusedVariables false
set_option linter.unusedSimpArgs false
namespace Go.Proofs.Ytedhkelochpdnaa.Pure
open Go.RowKit Go.Proofs.Ytedhkelochpdnaa Go.Proofs.Ytedhkelochpdnaa.X Go.Proofs.Ytedhkelochpdnaa.L Go.Proofs.Ytedhkelochpdnaa.T Go.Proofs.YtedhkelochpdnaaW.PrintWords Go.Proofs.YtedhkelochpdnaaW.PrintLast Go.Proofs.YtedhkelochpdnaaW.PrintMore

theorem back_ev (s : ByteArray) (hs : s.size ≤ 4194304) : ∀ (d i : Nat), (ba (L.Quote s.data.toList)).size - i ≤ d → i ≤ (ba (L.Quote s.data.toList)).size →
    Ev (fun k => stratumlaw08_LexBack.l0 k s (ba (L.Quote s.data.toList)) (i : Int)) true := by
  have hq := qs_len s.data.toList
  have hln : (L.Quote s.data.toList).length = (qs s.data.toList).length + 2 := by unfold L.Quote; simp
  have hsz := size_len s
  have hbs : (ba (L.Quote s.data.toList)).size = (qs s.data.toList).length + 2 := by rw [ba_size, hln]
  have last : Ev (fun k => stratumlaw08_LexBack.l0 k s (ba (L.Quote s.data.toList)) (((ba (L.Quote s.data.toList)).size : Nat) : Int)) true := by
    refine Ev.step (fun k => by simp only [stratumlaw08_LexBack.l0]; rfl) ?_
    simp only [Int.lt_irrefl, if_false]
    refine Ev.bind (lexes_ev _) ?_
    rw [ba_list]
    by_cases h : (L.Quote s.data.toList).length > 1048576
    · have e : L.Lex (L.Quote s.data.toList) = .bad 0 2 := by unfold L.Lex; rw [if_pos h]
      rw [e]
      simp only [outL, if_pos (show ((ba (L.Quote s.data.toList)).size : Int) > 1048576 by rw [ba_size]; omega), List.length_nil]
      exact Ev.now _
    · have e : L.Lex (L.Quote s.data.toList) = .toks [⟨3, s.data.toList, 0, 0, (L.Quote s.data.toList).length⟩, ⟨0, [], 0, (L.Quote s.data.toList).length, (L.Quote s.data.toList).length⟩] := by
        rw [Lex_small (by omega), lx_quote]
      rw [e]
      simp only [if_neg (show ¬ ((ba (L.Quote s.data.toList)).size : Int) > 1048576 by rw [ba_size]; omega)]
      have hsame := same_ev [(⟨3, s, 0, 0, ((ba (L.Quote s.data.toList)).size : Int)⟩ : S32), (⟨0, (⟨#[]⟩ : ByteArray), 0, ((ba (L.Quote s.data.toList)).size : Int), ((ba (L.Quote s.data.toList)).size : Int)⟩ : S32)] (by simp)
      have ho : outL [] (.toks [⟨3, s.data.toList, 0, 0, (L.Quote s.data.toList).length⟩, ⟨0, [], 0, (L.Quote s.data.toList).length, (L.Quote s.data.toList).length⟩]) = ([(⟨3, s, 0, 0, ((ba (L.Quote s.data.toList)).size : Int)⟩ : S32), (⟨0, (⟨#[]⟩ : ByteArray), 0, ((ba (L.Quote s.data.toList)).size : Int), ((ba (L.Quote s.data.toList)).size : Int)⟩ : S32)], 0, 0) := by
        rw [ba_size]; rfl
      rw [ho]
      refine Ev.bind hsame ?_
      simp only [if_true, beq_self_eq_true]
      exact Ev.now _
  intro d
  induction d with
  | zero =>
    intro i hd hi
    obtain rfl : i = (ba (L.Quote s.data.toList)).size := by omega
    exact last
  | succ d ih =>
    intro i hd hi
    cases hl : (ba (L.Quote s.data.toList)).data.toList.drop i with
    | nil =>
      have := drop_len hl hi
      simp only [List.length_nil] at this
      exact ih i (by omega) hi
    | cons b t =>
      have hlt := drop_lt hl
      have hbt := bt_drop hl
      have hm : b ∈ L.Quote s.data.toList := by
        have : b ∈ (ba (L.Quote s.data.toList)).data.toList.drop i := by rw [hl]; exact List.mem_cons_self ..
        exact List.mem_of_mem_drop this
      have hr := qs_rng s.data.toList b hm
      have ihn := ih (i + 1) (by omega) (by omega)
      refine Ev.step (fun k => by simp only [stratumlaw08_LexBack.l0]; rfl) ?_
      have W : Aside0 (wrap64 ((i : Int) + 1) = ((i + 1 : Nat) : Int)) := ⟨w1 1 (by omega)⟩
      simp only [if_pos (show (i : Int) < ((ba (L.Quote s.data.toList)).size : Int) by omega), if_pos (show (0 : Int) ≤ (i : Int) by omega), hbt, if_neg (show ¬ (b.toNat : Int) < 32 by omega), if_neg (show ¬ (b.toNat : Int) > 126 by omega), W.out]
      exact ihn
theorem LexBack : stratumlaw08_LexBack.Pure := by
  intro a0 h0
  refine Ev.rounds ?_
  unfold stratumlaw08_LexBack.f
  refine Ev.bind lives_ev ?_
  simp only [if_true]
  by_cases h : (a0.size : Int) > 4194304
  · simp only [if_pos h]; exact Ev.now _
  · simp only [if_neg h]
    refine Ev.bind (quote_ev a0 (by omega)) ?_
    have hq := qs_len a0.data.toList
    have hln : (L.Quote a0.data.toList).length = (qs a0.data.toList).length + 2 := by unfold L.Quote; simp
    have hsz := size_len a0
    have hbs := ba_size (L.Quote a0.data.toList)
    have W : Aside0 (wrap64 ((a0.size : Int) + 2) = ((a0.size + 2 : Nat) : Int)) := ⟨w1 2 (by omega)⟩
    simp only [W.out, if_neg (show ¬ ((ba (L.Quote a0.data.toList)).size : Int) < ((a0.size + 2 : Nat) : Int) by omega)]
    exact back_ev a0 (by omega) _ 0 (Nat.le_refl _) (by omega)
end Go.Proofs.Ytedhkelochpdnaa.Pure
