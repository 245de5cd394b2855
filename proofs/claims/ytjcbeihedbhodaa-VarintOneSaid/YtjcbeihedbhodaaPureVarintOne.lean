/- Where Take answers a number, its bytes are just what Put makes of it; where it is short, more bytes may make one of it and fewer are short too; where it is malformed, no bytes behind change that. Stated over the printed functions; no condition but the row's. -/
import Derived.Test.YtjcbeihedbhodaaV2
import Derived.Test.YtjcbeihedbhodaaX5
namespace Go.Proofs.Ytjcbeihedbhodaa.Pure
open Go.RowKit Go.Proofs.Ytjcbeihedbhodaa.X Go.Proofs.YtjcbeihedbhodaaW.PrintWords Go.Proofs.YtjcbeihedbhodaaW.PrintLast
set_option linter.unusedVariables false
set_option linter.unusedSimpArgs false

theorem tk_cases : ∀ (l : List Int) (i : Nat) (acc : Int), Bytes l → i ≤ 9 →
    (∃ (n y : Nat), tk i acc l = (acc + (y : Int) * (128 ^ i : Nat), ((i + n : Nat) : Int), 0) ∧ 1 ≤ n ∧ n ≤ l.length ∧ i + n ≤ 10 ∧ venc y = l.take n ∧ (0 < i → 0 < y) ∧ (y : Int) * (128 ^ i : Nat) < 18446744073709551616 ∧ ∀ more, tk i acc (l ++ more) = tk i acc l) ∨
    (tk i acc l = (0, 0, 3) ∧ 2 ≤ i + l.length ∧ ∀ more, tk i acc (l ++ more) = (0, 0, 3)) ∨
    (tk i acc l = (0, 0, 5) ∧ i + l.length ≤ 9 ∧ (∀ j, j ≤ l.length → tk i acc (l.take j) = (0, 0, 5)) ∧ (∀ j : Nat, j < l.length → 128 ≤ rd l (j : Int)) ∧ ∃ x, tk i acc (l ++ [1]) = (x, ((i + l.length + 1 : Nat) : Int), 0)) := by
  intro l
  induction l with
  | nil =>
    intro i acc _ hi
    right; right
    refine ⟨rfl, by simpa using hi, fun j _ => by simp [tk], fun j h => by simp at h, acc + 1 * (128 ^ i : Nat), ?_⟩
    simp only [List.nil_append, tk]
    rw [if_neg (by omega), if_pos (by omega)]
    simp
  | cons c t ih =>
    intro i acc hb hi
    obtain ⟨c0, c1⟩ := hb c List.mem_cons_self
    have hbt : Bytes t := fun x hx => hb x (List.mem_cons_of_mem _ hx)
    by_cases m : (0 < i ∧ c = 0) ∨ (i = 9 ∧ 1 < c)
    · right; left
      refine ⟨by simp only [tk]; rw [if_pos m], by rw [List.length_cons]; omega, fun more => by simp only [List.cons_append, tk]; rw [if_pos m]⟩
    · by_cases s : c < 128
      · left
        refine ⟨1, c.toNat, ?_, Nat.le_refl _, by simp, by omega, ?_, by omega, ?_, fun more => ?_⟩
        · simp only [tk]; rw [if_neg m, if_pos s, Int.toNat_of_nonneg c0]; simp
        · rw [venc_lt (by omega), Int.toNat_of_nonneg c0]; simp
        · rw [Int.toNat_of_nonneg c0]
          rcases pow9 hi with rfl | rfl | rfl | rfl | rfl | rfl | rfl | rfl | rfl | rfl <;> simp only [Nat.reducePow] <;> omega
        · simp only [List.cons_append, tk]; rw [if_neg m, if_pos s, if_neg m, if_pos s]
      · have hstep : ∀ r, tk i acc (c :: r) = tk (i + 1) (acc + (c - 128) * (128 ^ i : Nat)) r := fun r => by simp only [tk]; rw [if_neg m, if_neg s]
        have hi8 : i ≤ 8 := by omega
        have hpw : ((128 ^ (i + 1) : Nat) : Int) = 128 * (128 ^ i : Nat) := by rw [Nat.pow_succ]; push_cast; omega
        rcases ih (i + 1) (acc + (c - 128) * (128 ^ i : Nat)) hbt (by omega) with ⟨n, y, h1, h2, h3, h4, h5, h6, h7, h8⟩ | ⟨h1, h2, h3⟩ | ⟨h1, h2, h3, h4, x, h5⟩
        · left
          have hy := h6 (by omega)
          have ed : (128 * y + (c - 128).toNat) / 128 = y := by omega
          have em : (128 * y + (c - 128).toNat) % 128 = (c - 128).toNat := by omega
          have ec : ((128 * y + (c - 128).toNat : Nat) : Int) = (c - 128) + 128 * (y : Int) := by omega
          refine ⟨n + 1, 128 * y + (c - 128).toNat, ?_, by omega, by rw [List.length_cons]; omega, by omega, ?_, by omega, ?_, fun more => ?_⟩
          · rw [hstep, h1, ec, hpw, Int.add_mul, ← Int.mul_assoc, ← Int.add_assoc, Int.mul_comm (y : Int) 128]
            congr 2; omega
          · rw [venc_ge (by omega), ed, em, h5, List.take_succ_cons]
            congr 1; omega
          · rw [ec]
            rcases pow9 (show i ≤ 9 by omega) with rfl | rfl | rfl | rfl | rfl | rfl | rfl | rfl | rfl | rfl <;> simp only [Nat.reducePow, Nat.reduceAdd] at h7 ⊢ <;> omega
          · rw [List.cons_append, hstep, hstep, h8]
        · right; left
          exact ⟨by rw [hstep]; exact h1, by rw [List.length_cons]; omega, fun more => by rw [List.cons_append, hstep]; exact h3 more⟩
        · right; right
          refine ⟨by rw [hstep]; exact h1, by rw [List.length_cons]; omega, fun j hj => ?_, fun j hj => ?_, x, ?_⟩
          · cases j with
            | zero => simp [tk]
            | succ j => rw [List.take_succ_cons, hstep]; exact h3 j (by rw [List.length_cons] at hj; omega)
          · cases j with
            | zero => simp only [rd]; simp; omega
            | succ j =>
              have := h4 j (by rw [List.length_cons] at hj; omega)
              simp only [rd, Int.toNat_natCast] at this ⊢
              simpa using this
          · rw [List.cons_append, hstep, h5, List.length_cons]
            congr 2; omega
theorem VarintOne : stratumlaw02_VarintOne.Pure := by
  intro l0 l1 hm0 hl0 hw0 hm1 hl1 hw1
  have hb0 : Bytes l0 := fun x h => u8b (hw0 x h)
  have hb1 : Bytes l1 := fun x h => u8b (hw1 x h)
  refine Ev.rounds ?_
  unfold stratumlaw02_VarintOne.f
  refine Ev.bind lives_ev ?_
  simp only [if_true]
  have hj : ∀ b : Bool, (b = false → l0.length ≤ 1048576 ∧ l1.length ≤ 1048576) → Ev (fun k => stratumlaw02_VarintOne.j0 k l0 l1 b) true := by
    intro b hb
    refine Ev.step (fun k => by simp only [stratumlaw02_VarintOne.j0]; rfl) ?_
    cases b with
    | true => simp only [if_true]; exact Ev.now _
    | false =>
      obtain ⟨n0, n1⟩ := hb rfl
      simp only [Bool.false_eq_true, if_false, List.length_nil, Nat.zero_add, List.nil_append, if_pos (show l0.length < 140737488355328 by omega), if_pos (show l0.length + l1.length < 140737488355328 by omega), Option.bind_some]
      refine Ev.bind (take_ev hb0 (by omega)) ?_
      refine Ev.bind (take_ev (bytes_app hb0 hb1) (by rw [List.length_append]; omega)) ?_
      rcases tk_cases l0 0 0 hb0 (by omega) with ⟨n, y, h1, h2, h3, h4, h5, h6, h7, h8⟩ | ⟨h1, h2, h3⟩ | ⟨h1, h2, h3, h4, x, h5⟩
      · rw [h8, h1]
        simp only [Nat.pow_zero, Nat.zero_add] at h4 h7 ⊢
        simp only [Int.natCast_one, Int.mul_one, Int.zero_add, if_true, if_pos (show ((n : Nat) : Int) ≥ 1 by omega), if_pos (show ((n : Nat) : Int) ≤ 10 by omega), if_pos (show ((n : Nat) : Int) ≤ (l0.length : Int) by omega), if_pos (show (0 : Int) ≤ (n : Int) by omega)] at h7 ⊢
        rw [put_eq (l := []) (by simp) (by omega) (by omega)]
        simp only [Option.bind_some, List.nil_append, Int.toNat_natCast, h5, alike_self, if_true, beq_self_eq_true]
        exact Ev.now _
      · rw [h3, h1]
        simp only [if_neg (show ¬ (3 : Int) = 0 by omega), if_true, if_pos (show (l0.length : Int) ≥ 2 by omega), beq_self_eq_true]
        exact Ev.now _
      · rw [h1]
        simp only [if_neg (show ¬ (5 : Int) = 0 by omega), if_neg (show ¬ (5 : Int) = 3 by omega), if_true, decide_eq_false (show ¬ (l0.length : Int) > 9 by omega)]
        refine Ev.step (fun k => by simp only [stratumlaw02_VarintOne.j1]; rfl) ?_
        simp only [Bool.false_eq_true, if_false]
        have key : ∀ (d i : Nat), l0.length - i = d → i ≤ l0.length → Ev (fun k => stratumlaw02_VarintOne.l0 k l0 (i : Int)) true := by
          intro d
          induction d with
          | zero =>
            intro i hd hi
            obtain rfl : i = l0.length := by omega
            refine Ev.step (fun k => by simp only [stratumlaw02_VarintOne.l0]; rfl) ?_
            simp only [Int.lt_irrefl, if_false, Option.bind_some, List.length_nil, Nat.zero_add, List.nil_append, if_pos (show l0.length < 140737488355328 by omega)]
            refine Ev.bind (take_ev (bytes_app hb0 (fun x hx => by simp at hx; omega)) (by rw [List.length_append, List.length_singleton]; omega)) ?_
            rw [h5]
            simp only [if_true, Nat.zero_add, show wrap64 ((l0.length : Int) + 1) = ((l0.length + 1 : Nat) : Int) by unfold wrap64; omega, beq_self_eq_true]
            exact Ev.now _
          | succ d ih =>
            intro i hd hi
            refine Ev.step (fun k => by simp only [stratumlaw02_VarintOne.l0]; rfl) ?_
            simp only [if_pos (show (i : Int) < (l0.length : Int) by omega), if_pos (show (0 : Int) ≤ (i : Int) by omega), if_pos (show (i : Int) ≤ (l0.length : Int) by omega), Int.toNat_natCast]
            refine Ev.bind (take_ev (bytes_take hb0 i) (by rw [List.length_take]; omega)) ?_
            rw [h3 i (by omega)]
            simp only [if_neg (show ¬ rd l0 (i : Int) < 128 by have := h4 i (by omega); omega), if_true, show wrap64 ((i : Int) + 1) = ((i + 1 : Nat) : Int) by unfold wrap64; omega]
            exact ih (i + 1) (by omega) (by omega)
        exact key l0.length 0 (by omega) (by omega)
  by_cases c : (l0.length : Int) > 1048576
  · simp only [if_pos c]
    exact hj true (fun h => by cases h)
  · simp only [if_neg c]
    refine hj _ (fun h => ?_)
    have := of_decide_eq_false h
    omega
end Go.Proofs.Ytjcbeihedbhodaa.Pure
