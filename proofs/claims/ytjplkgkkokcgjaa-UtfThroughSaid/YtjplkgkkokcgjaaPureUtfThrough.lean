/- Going through a text by Next takes all of it. Stated over the printed functions; no condition but the row's. -/
import Derived.Test.YtjplkgkkokcgjaaT0
import Derived.Test.YtjplkgkkokcgjaaT1
import Derived.Test.YtjplkgkkokcgjaaX3
set_option linter.unusedVariables false
set_option linter.unusedSimpArgs false
namespace Go.Proofs.Ytjplkgkkokcgjaa.Pure
open Go.RowKit Go.Proofs.Ytjplkgkkokcgjaa.X Go.Proofs.Ytjplkgkkokcgjaa.U Go.Proofs.Ytjplkgkkokcgjaa.T Go.Proofs.YtjplkgkkokcgjaaW.PrintWords Go.Proofs.YtjplkgkkokcgjaaW.PrintLast Go.Proofs.YtjplkgkkokcgjaaW.PrintMore

theorem w64 {x : Int} (h0 : 0 ≤ x) (h1 : x ≤ 4611686018427387904) : wrap64 x = x := by unfold wrap64; omega
theorem UtfThrough : stratumlaw03_UtfThrough.Pure := by
  intro s hs
  refine Ev.rounds ?_
  unfold stratumlaw03_UtfThrough.f
  refine Ev.bind awake_ev ?_
  simp only [if_true]
  refine Ev.step (fun k => by simp only [stratumlaw03_UtfThrough.j0]; rfl) ?_
  by_cases h1 : (s.size : Int) > 16777216
  · simp only [decide_eq_true h1, if_true]
    exact Ev.now _
  · simp only [decide_eq_false h1, Bool.false_eq_true, if_false]
    have hS : s.size ≤ 16777216 := by omega
    clear h1
    have hsz := size_len s
    have hfl := fault_le s.data.toList
    have hend : s.data.toList.drop s.size = [] := List.drop_of_length_le (by omega)
    have hun : unext [] = (-1, 0) := by unfold unext; rfl
    -- the end
    have hj4 : Ev (fun k => stratumlaw03_UtfThrough.j4 k s (s.size : Int) ((ucount s.data.toList : Nat) : Int) ((fault s.data.toList : Nat) : Int)) true := by
      refine Ev.step (fun k => by simp only [stratumlaw03_UtfThrough.j4]; rfl) ?_
      simp only [if_pos (show (0 : Int) ≤ (s.size : Int) by omega), if_pos (show (s.size : Int) ≤ (s.size : Int) by omega), next_eq, Int.toNat_natCast, ext_drop, hend, Option.bind_some, hun, if_true]
      refine Ev.bind (count_ev s (by omega)) ?_
      simp only [if_true]
      refine Ev.bind (fault_ev s (by omega)) ?_
      simp only [if_true]
      refine Ev.bind (valid_ev s (by omega)) ?_
      have e : (decide (fault s.data.toList = s.data.toList.length) == (((fault s.data.toList : Nat) : Int) == (s.size : Int))) = true := by
        rw [beq_iff_eq, Bool.eq_iff_iff, decide_eq_true_iff, beq_iff_eq]; omega
      rw [e]
      exact Ev.now _
    have key : ∀ (d i cnt : Nat) (x6 : Int), s.size - i ≤ d → i ≤ s.size → cnt ≤ i → ucount s.data.toList = cnt + ucount (s.data.toList.drop i) →
        ((x6 = -1 ∧ fault s.data.toList = i + fault (s.data.toList.drop i)) ∨ x6 = ((fault s.data.toList : Nat) : Int)) →
        Ev (fun k => stratumlaw03_UtfThrough.l0 k s (i : Int) (cnt : Int) x6) true := by
      intro d
      induction d with
      | zero =>
        intro i cnt x6 hd hi hci hcnt hx
        obtain rfl : i = s.size := by omega
        refine Ev.step (fun k => by simp only [stratumlaw03_UtfThrough.l0]; rfl) ?_
        rw [hend, ucount_nil] at hcnt
        rw [hend, fault_nil] at hx
        obtain rfl : ucount s.data.toList = cnt := by omega
        simp only [Int.lt_irrefl, if_false]
        rcases hx with ⟨rfl, hx⟩ | rfl
        · simp only [if_pos (show (-1 : Int) < 0 by omega)]
          rw [show fault s.data.toList = s.size by omega] at hj4
          exact hj4
        · simp only [if_neg (show ¬ ((fault s.data.toList : Nat) : Int) < 0 by omega)]
          exact hj4
      | succ d ih =>
        intro i cnt x6 hd hi hci hcnt hx
        by_cases hlt : i < s.size
        · refine Ev.step (fun k => by simp only [stratumlaw03_UtfThrough.l0]; rfl) ?_
          have hne : s.data.toList.drop i ≠ [] := by
            intro h; have := congrArg List.length h; rw [List.length_drop] at this; simp at this; omega
          have a1 := adv_pos (l := s.data.toList.drop i)
          have a2 := adv_le hne
          have a4 := adv_le4 (l := s.data.toList.drop i)
          rw [List.length_drop] at a2
          rw [ucount_step hne, List.drop_drop] at hcnt
          have hstep : ∀ x6' : Int, ((x6' = -1 ∧ fault s.data.toList = (i + adv (s.data.toList.drop i)) + fault (s.data.toList.drop (i + adv (s.data.toList.drop i)))) ∨ x6' = ((fault s.data.toList : Nat) : Int)) → Ev (fun k => stratumlaw03_UtfThrough.l0 k s (wrap64 ((i : Int) + ((adv (s.data.toList.drop i) : Nat) : Int))) (wrap64 ((cnt : Int) + 1)) x6') true := by
            intro x6' hx'
            rw [show wrap64 ((i : Int) + ((adv (s.data.toList.drop i) : Nat) : Int)) = ((i + adv (s.data.toList.drop i) : Nat) : Int) by unfold wrap64; omega, show wrap64 ((cnt : Int) + 1) = ((cnt + 1 : Nat) : Int) by unfold wrap64; omega]
            exact ih _ _ _ (by omega) (by omega) (by omega) (by omega) hx'
          simp only [if_pos (show (i : Int) < (s.size : Int) by omega), if_pos (show (0 : Int) ≤ (i : Int) by omega), if_pos (show (i : Int) ≤ (s.size : Int) by omega), next_eq, Int.toNat_natCast, ext_drop, Option.bind_some]
          cases hd2 : dec (s.data.toList.drop i) with
          | none =>
            rw [adv_none hd2] at hstep a2
            rw [show ((1 : Nat) : Int) = (1 : Int) from rfl] at hstep
            rw [unext_none hne hd2]
            rw [fault_none hd2] at hx
            have hw : wrap64 ((i : Int) + 1) = (i : Int) + 1 := w64 (by omega) (by omega)
            have hw2 : ¬ wrap64 ((i : Int) + 1) > (s.size : Int) := by rw [hw]; exact Int.not_lt.2 (Int.ofNat_lt.2 hlt)
            simp only [if_neg (show ¬ (1 : Int) < 1 by omega), if_neg (show ¬ (1 : Int) > 4 by omega), if_neg hw2, if_pos (show (-1 : Int) < 0 by omega), bne_self_eq_false]
            refine Ev.step (fun k => by simp only [stratumlaw03_UtfThrough.j2]; rfl) ?_
            simp only [Bool.false_eq_true, if_false, if_pos (show (-1 : Int) < 0 by omega)]
            refine Ev.step (fun k => by simp only [stratumlaw03_UtfThrough.j3]; rfl) ?_
            simp only [if_neg (show ¬ (-1 : Int) ≥ 0 by omega)]
            by_cases h6 : x6 < 0
            · simp only [decide_eq_true h6, if_true]
              refine hstep (i : Int) (.inr ?_)
              clear hw hw2   -- omega does not end beside them
              rcases hx with ⟨_, hx⟩ | hx <;> omega
            · simp only [decide_eq_false h6, Bool.false_eq_true, if_false]
              refine hstep x6 (.inr ?_)
              clear hw hw2
              rcases hx with ⟨hx, _⟩ | hx <;> omega
          | some p =>
            obtain ⟨c, n⟩ := p
            rw [adv_some hd2] at hstep a1 a2 a4
            rw [unext_some hd2]
            rw [fault_some hd2, List.drop_drop] at hx
            obtain ⟨hc, hn, a', hsp⟩ := put_dec hd2
            have hcut : (s.extract i (i + n)).data.toList = put c := by
              rw [ext_list, hsp, show i + n - i = n by omega, hn, List.take_left]
            have hip : iput (c : Int) = put c := by unfold iput; rw [Int.toNat_natCast, if_pos ⟨by omega, hc⟩]
            have g1 : ¬ (n : Int) < 1 := by omega
            have g2 : ¬ (n : Int) > 4 := by omega
            have g3 : ¬ (c : Int) < 0 := by omega
            have g4 : (c : Int) ≥ 0 := by omega
            have g5 : (0 : Int) ≤ (i : Int) := by omega
            have g6 : (i : Int) ≤ ((i + n : Nat) : Int) := by omega
            have g7 : ((i + n : Nat) : Int) ≤ (s.size : Int) := by omega
            have hst := hstep x6 (by
              rcases hx with ⟨h, hx⟩ | hx
              · exact .inl ⟨h, by omega⟩
              · exact .inr hx)
            have hw : wrap64 ((i : Int) + (n : Int)) = ((i + n : Nat) : Int) := by rw [w64 (by omega) (by omega)]; rfl
            have hw2 : ¬ wrap64 ((i : Int) + (n : Int)) > (s.size : Int) := by rw [hw]; exact Int.not_lt.2 g7
            simp only [if_neg g1, if_neg g2, if_neg hw2, if_neg g3]
            refine Ev.step (fun k => by simp only [stratumlaw03_UtfThrough.j2]; rfl) ?_
            simp only [Bool.false_eq_true, if_false, if_neg g3]
            refine Ev.step (fun k => by simp only [stratumlaw03_UtfThrough.j3]; rfl) ?_
            rw [hw] at hst
            simp only [Bool.false_eq_true, if_false, if_pos g4, put_eq, Option.bind_some, if_pos g5, hw, if_pos g6, if_pos g7, Int.toNat_natCast, toList_eq, hcut, hip, if_true]
            exact hst
        · obtain rfl : i = s.size := by omega
          refine Ev.step (fun k => by simp only [stratumlaw03_UtfThrough.l0]; rfl) ?_
          rw [hend, ucount_nil] at hcnt
          rw [hend, fault_nil] at hx
          obtain rfl : ucount s.data.toList = cnt := by omega
          simp only [Int.lt_irrefl, if_false]
          rcases hx with ⟨rfl, hx⟩ | rfl
          · simp only [if_pos (show (-1 : Int) < 0 by omega)]
            rw [show fault s.data.toList = s.size by omega] at hj4
            exact hj4
          · simp only [if_neg (show ¬ ((fault s.data.toList : Nat) : Int) < 0 by omega)]
            exact hj4
    have h := key s.size 0 0 (-1) (by omega) (by omega) (by omega) (by simp) (.inl ⟨rfl, by simp⟩)
    rw [show ((0 : Nat) : Int) = (0 : Int) from rfl] at h
    exact h
end Go.Proofs.Ytjplkgkkokcgjaa.Pure
