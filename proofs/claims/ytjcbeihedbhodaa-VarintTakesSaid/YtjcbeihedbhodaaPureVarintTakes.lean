/- Of every b, and of each of its ends, Take answers what the reference's Take answers. Stated over the printed functions; no condition but the row's. -/
import Derived.Test.YtjcbeihedbhodaaV1
import Derived.Test.YtjcbeihedbhodaaX3
namespace Go.Proofs.Ytjcbeihedbhodaa.Pure
open Go.RowKit Go.Proofs.Ytjcbeihedbhodaa.X Go.Proofs.YtjcbeihedbhodaaW.PrintWords Go.Proofs.YtjcbeihedbhodaaW.PrintLast
set_option linter.unusedVariables false
set_option linter.unusedSimpArgs false

/-- Horner's sum of the low seven bits of the first n bytes. -/
def hs (l : List Int) : Nat → Int
  | 0 => 0
  | n + 1 => hs l n + (rd l (n : Int) % 128) * (128 ^ n : Nat)
theorem hs_bd {l : List Int} (hl : Bytes l) : ∀ n, 0 ≤ hs l n ∧ hs l n < (128 ^ n : Nat)
  | 0 => by simp [hs]
  | n + 1 => by
    obtain ⟨h0, h1⟩ := hs_bd hl n
    have hpw : ((128 ^ (n + 1) : Nat) : Int) = 128 * (128 ^ n : Nat) := by rw [Nat.pow_succ]; push_cast; omega
    have hpp : (0 : Int) < (128 ^ n : Nat) := by have := Nat.pow_pos (n := n) (show 0 < 128 by omega); omega
    have hm : (rd l (n : Int) % 128) * ((128 ^ n : Nat) : Int) ≤ 127 * ((128 ^ n : Nat) : Int) := Int.mul_le_mul_of_nonneg_right (by omega) (by omega)
    have hm0 : 0 ≤ (rd l (n : Int) % 128) * ((128 ^ n : Nat) : Int) := Int.mul_nonneg (by omega) (by omega)
    rw [hpw]
    exact ⟨by simp only [hs]; omega, by simp only [hs]; omega⟩
theorem mul_pow_le {a : Int} {j n : Nat} (h : j ≤ n) (ha : 0 ≤ a) : a * (128 ^ j : Nat) ≤ a * (128 ^ n : Nat) :=
  Int.mul_le_mul_of_nonneg_left (by have := Nat.pow_le_pow_right (show 0 < 128 by omega) h; omega) ha
/-- The second loop: from the last group back. -/
theorem ref_l1 {l : List Int} (hl : Bytes l) (n : Nat) (hn : n ≤ l.length) (hn10 : n ≤ 10) (h9 : n = 10 → rd l 9 ≤ 1) (hx : hs l n < 18446744073709551616) :
    ∀ (j : Nat) (x : Int), j ≤ n → 0 ≤ x → x * (128 ^ j : Nat) + hs l j = hs l n → Ev (fun k => stratumref02_Take.l1 k l (n : Int) x ((j : Int) - 1)) (hs l n, (n : Int), 0) := by
  intro j
  induction j with
  | zero =>
    intro x hj h0 he
    refine Ev.step (fun k => by simp only [stratumref02_Take.l1]; rfl) ?_
    simp only [Int.natCast_zero, Int.zero_sub, show ¬ (-1 : Int) ≥ 0 by omega, if_false]
    simp [hs] at he
    rw [he]
    exact Ev.now _
  | succ j ih =>
    intro x hj h0 he
    refine Ev.step (fun k => by simp only [stratumref02_Take.l1]; rfl) ?_
    have ej : ((j + 1 : Nat) : Int) - 1 = (j : Int) := by omega
    obtain ⟨c0, c1⟩ := bytes_rd hl (j : Int)
    obtain ⟨b0, b1⟩ := hs_bd hl j
    simp only [hs] at he
    have hpw : ((128 ^ (j + 1) : Nat) : Int) = 128 * (128 ^ j : Nat) := by rw [Nat.pow_succ]; push_cast; omega
    have hpp : (1 : Int) ≤ (128 ^ j : Nat) := by have := Nat.pow_pos (n := j) (show 0 < 128 by omega); omega
    have he2 : (x * 128 + rd l (j : Int) % 128) * (128 ^ j : Nat) + hs l j = hs l n := by
      rw [← he, hpw, Int.add_mul, Int.mul_assoc]; omega
    have hy0 : 0 ≤ x * 128 + rd l (j : Int) % 128 := by omega
    have hy1 : x * 128 + rd l (j : Int) % 128 < 18446744073709551616 := by
      have := Int.mul_le_mul_of_nonneg_left hpp hy0
      omega
    simp only [ej, if_pos (show (j : Int) ≥ 0 by omega), if_pos (show (0 : Int) ≤ (j : Int) by omega), if_pos (show (j : Int) < (l.length : Int) by omega), IntKind.wrap_u64, Int.tmod_eq_emod_of_nonneg c0]
    rw [show (x * 128 % 18446744073709551616 + rd l (j : Int) % 128 % 18446744073709551616) % 18446744073709551616 = x * 128 + rd l (j : Int) % 128 by omega, show wrap64 ((j : Int) - 1) = (j : Int) - 1 by unfold wrap64; omega]
    exact ih _ (by omega) hy0 he2
theorem reftake_ev {l : List Int} (hl : Bytes l) (hn : l.length ≤ 9223372036854775806) : Ev (fun k => stratumref02_Take.f k l) (tk 0 0 l) := by
  have key : ∀ (d i : Nat), l.length - i = d → i ≤ l.length → i ≠ 10 → i ≤ 10 → (∀ j, j < i → 128 ≤ rd l (j : Int)) → Ev (fun k => stratumref02_Take.l0 k l (i : Int)) (tk i (hs l i) (l.drop i)) := by
    intro d
    induction d with
    | zero =>
      intro i hd hi h10 h11 hc
      obtain rfl : i = l.length := by omega
      refine Ev.step (fun k => by simp only [stratumref02_Take.l0]; rfl) ?_
      simp only [Int.lt_irrefl, if_false, List.drop_length, tk]
      refine Ev.step (fun k => by simp only [stratumref02_Take.j1]; rfl) ?_
      simp only [Bool.false_eq_true, if_false]
      exact Ev.now _
    | succ d ih =>
      intro i hd hi h10 h11 hc
      have hlt : i < l.length := by omega
      have hi9 : i ≤ 9 := by omega
      obtain ⟨c0, c1⟩ := bytes_rd hl (i : Int)
      rw [drop_rd hlt]
      have b0 : (0 : Int) ≤ (i : Int) := by omega
      have b1 : (i : Int) < (l.length : Int) := by omega
      refine Ev.step (fun k => by simp only [stratumref02_Take.l0]; rfl) ?_
      simp only [if_pos b1, decide_eq_true (show (i : Int) < 10 by omega)]
      refine Ev.step (fun k => by simp only [stratumref02_Take.j1]; rfl) ?_
      simp only [if_true, if_pos b0, if_pos b1]
      have hj3 : ∀ b : Bool, b = decide ((0 < i ∧ rd l (i : Int) = 0) ∨ (i = 9 ∧ 1 < rd l (i : Int))) → Ev (fun k => stratumref02_Take.j3 k l (i : Int) b) (tk i (hs l i) (rd l (i : Int) :: l.drop (i + 1))) := by
        intro b hb
        refine Ev.step (fun k => by simp only [stratumref02_Take.j3]; rfl) ?_
        by_cases c : (0 < i ∧ rd l (i : Int) = 0) ∨ (i = 9 ∧ 1 < rd l (i : Int))
        · rw [decide_eq_true c] at hb
          subst hb
          simp only [if_true, tk, if_pos c]
          exact Ev.now _
        · rw [decide_eq_false c] at hb
          subst hb
          have w1 : wrap64 ((i : Int) + 1) = ((i + 1 : Nat) : Int) := by unfold wrap64; omega
          have w2 : wrap64 (((i + 1 : Nat) : Int) - 1) = (i : Int) := by unfold wrap64; omega
          simp only [Bool.false_eq_true, if_false, w1, w2, if_pos b0, if_pos b1, tk, if_neg c]
          by_cases c3 : rd l (i : Int) < 128
          · simp only [if_pos c3]
            have e : hs l i + rd l (i : Int) * (128 ^ i : Nat) = hs l (i + 1) := by simp only [hs]; rw [show rd l (i : Int) % 128 = rd l (i : Int) by omega]
            obtain ⟨s0, s1⟩ := hs_bd hl i
            have hx : hs l (i + 1) < 18446744073709551616 := by
              rw [← e]
              have hpp : (0 : Int) < (128 ^ i : Nat) := by have := Nat.pow_pos (n := i) (show 0 < 128 by omega); omega
              rcases pow9 hi9 with rfl | rfl | rfl | rfl | rfl | rfl | rfl | rfl | rfl | rfl <;> simp only [Nat.reducePow] at s1 ⊢ <;> omega
            rw [e]
            have h9' : i + 1 = 10 → rd l 9 ≤ 1 := by
              intro h
              obtain rfl : i = 9 := by omega
              have e9 : ((9 : Nat) : Int) = 9 := rfl
              rw [← e9]; omega
            have := ref_l1 hl (i + 1) (by omega) (by omega) h9' hx (i + 1) 0 (Nat.le_refl _) (by omega) (by simp)
            rw [show ((i + 1 : Nat) : Int) - 1 = (i : Int) by omega] at this
            rw [show (i : Int) + 1 = ((i + 1 : Nat) : Int) by omega]
            exact this
          · simp only [if_neg c3]
            have e : hs l i + (rd l (i : Int) - 128) * (128 ^ i : Nat) = hs l (i + 1) := by simp only [hs]; rw [show rd l (i : Int) % 128 = rd l (i : Int) - 128 by omega]
            rw [e]
            refine ih (i + 1) (by omega) (by omega) (by omega) (by omega) (fun j hj => ?_)
            by_cases h : j = i
            · subst h; omega
            · exact hc j (by omega)
      have hj2 : ∀ b : Bool, b = decide (0 < i ∧ rd l (i : Int) = 0) → Ev (fun k => stratumref02_Take.j2 k l (i : Int) b) (tk i (hs l i) (rd l (i : Int) :: l.drop (i + 1))) := by
        intro b hb
        refine Ev.step (fun k => by simp only [stratumref02_Take.j2]; rfl) ?_
        by_cases c : 0 < i ∧ rd l (i : Int) = 0
        · rw [decide_eq_true c] at hb
          subst hb
          simp only [if_true, tk, if_pos (show (0 < i ∧ rd l (i : Int) = 0) ∨ (i = 9 ∧ 1 < rd l (i : Int)) from .inl c)]
          exact Ev.now _
        · rw [decide_eq_false c] at hb
          subst hb
          simp only [Bool.false_eq_true, if_false, if_pos b0, if_pos b1]
          by_cases n9 : (i : Int) = 9
          · simp only [if_pos n9]
            refine hj3 _ ?_
            rw [decide_eq_decide]; omega
          · simp only [if_neg n9]
            exact hj3 false (by rw [decide_eq_false]; omega)
      by_cases p : (i : Int) > 0
      · simp only [if_pos p]
        refine hj2 _ ?_
        by_cases z : rd l (i : Int) = 0
        · rw [decide_eq_true (show 0 < i ∧ rd l (i : Int) = 0 from ⟨by omega, z⟩), beq_iff_eq]; exact z
        · rw [decide_eq_false (show ¬ (0 < i ∧ rd l (i : Int) = 0) from fun h => z h.2), beq_eq_false_iff_ne]; exact z
      · simp only [if_neg p]
        exact hj2 false (by rw [decide_eq_false]; omega)
  have := key l.length 0 (by omega) (by omega) (by omega) (by omega) (fun j h => by omega)
  exact Ev.congr (fun k => by simp only [stratumref02_Take.f]; rfl) this
theorem VarintTakes : stratumlaw02_VarintTakes.Pure := by
  intro l hm hl hw
  have hb : Bytes l := fun x hx => u8b (hw x hx)
  refine Ev.rounds ?_
  unfold stratumlaw02_VarintTakes.f
  refine Ev.bind lives_ev ?_
  simp only [if_true]
  have key : ∀ (d i : Nat), l.length + 1 - i = d → i ≤ l.length + 1 → Ev (fun k => stratumlaw02_VarintTakes.l0 k l (i : Int)) true := by
    intro d
    induction d with
    | zero =>
      intro i hd hi
      refine Ev.step (fun k => by simp only [stratumlaw02_VarintTakes.l0]; rfl) ?_
      simp only [if_neg (show ¬ (i : Int) ≤ (l.length : Int) by omega)]
      exact Ev.now _
    | succ d ih =>
      intro i hd hi
      refine Ev.step (fun k => by simp only [stratumlaw02_VarintTakes.l0]; rfl) ?_
      simp only [if_pos (show (i : Int) ≤ (l.length : Int) by omega), if_pos (show (0 : Int) ≤ (i : Int) by omega), Int.toNat_natCast]
      refine Ev.bind (reftake_ev (bytes_drop hb i) (by rw [List.length_drop]; omega)) ?_
      refine Ev.bind (take_ev (bytes_drop hb i) (by rw [List.length_drop]; omega)) ?_
      simp only [if_true, show wrap64 ((i : Int) + 1) = ((i + 1 : Nat) : Int) by unfold wrap64; omega]
      exact ih (i + 1) (by omega) (by omega)
  exact key (l.length + 1) 0 (by omega) (by omega)
end Go.Proofs.Ytjcbeihedbhodaa.Pure
