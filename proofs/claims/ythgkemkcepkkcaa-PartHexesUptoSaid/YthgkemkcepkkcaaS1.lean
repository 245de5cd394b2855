/- Plain facts: repeated texts and digits of the reference; bytes as digits. Conditions: sizes alone. -/
import Derived.Test.YthgkemkcepkkcaaS0
import Derived.Test.YthgkemkcepkkcaaX3
set_option linter.unusedVariables false
set_option linter.unusedSimpArgs false
namespace Go.Proofs.Ythgkemkcepkkcaa.S
open Go.RowKit Go.Proofs.Ythgkemkcepkkcaa.X Go.Proofs.Ythgkemkcepkkcaa.G Go.Proofs.YthgkemkcepkkcaaW.PrintWords Go.Proofs.YthgkemkcepkkcaaW.PrintLast Go.Proofs.YthgkemkcepkkcaaW.PrintMore

theorem bnums (l : List UInt8) : strOfNums (l.map fun b => (b.toNat : Int)) = ⟨l.toArray⟩ := by
  unfold strOfNums
  congr 2
  rw [List.map_map]
  conv => rhs; rw [← List.map_id l]
  refine List.map_congr_left (fun b _ => ?_)
  show UInt8.ofNat ((b.toNat : Int)).toNat = b
  rw [Int.toNat_natCast, UInt8.ofNat_toNat]
theorem refrep_ev (s : ByteArray) (n : Nat) (hs : s.size ≤ 4611686018427387904) (hn : n < 18446744073709551616) : Ev (fun k => stratumref07_Rep.f k s (n : Int)) (repOut s n) := by
  have hz := size_len s
  have hw64 : ∀ x : Nat, x < 18446744073709551616 → IntKind.u64.wrap (x : Int) = (x : Int) := fun x hx => by rw [IntKind.wrap_u64]; omega
  have key : ∀ (d i : Nat), n - i = d → i ≤ n → n ≤ 4096 → n * s.data.toList.length ≤ 4096 → Ev (fun k => stratumref07_Rep.l0 k s (n : Int) ((List.replicate i s.data.toList).flatten.map fun b => (b.toNat : Int)) (i : Int)) (rep s n, 0) := by
    intro d
    induction d with
    | zero =>
      intro i hd hi hn2 hl
      obtain rfl : i = n := by omega
      refine Ev.step (fun k => by simp only [stratumref07_Rep.l0]; rfl) ?_
      simp only [Int.lt_irrefl, if_false, bnums]
      exact Ev.now _
    | succ d ih =>
      intro i hd hi hn2 hl
      refine Ev.step (fun k => by simp only [stratumref07_Rep.l0]; rfl) ?_
      have e : (List.replicate i s.data.toList).flatten.map (fun b => (b.toNat : Int)) ++ bytesOf s = (List.replicate (i + 1) s.data.toList).flatten.map fun b => (b.toNat : Int) := by
        unfold bytesOf
        rw [← List.map_append, List.replicate_succ', List.flatten_append]
        simp
      have hlen : ((List.replicate i s.data.toList).flatten.map fun b => (b.toNat : Int)).length = i * s.data.toList.length := by rw [List.length_map, flat_len]
      have hle : i * s.data.toList.length ≤ n * s.data.toList.length := Nat.mul_le_mul_right _ hi
      have hle1 : 1 * s.data.toList.length ≤ n * s.data.toList.length := Nat.mul_le_mul_right _ (by omega)
      have hw : IntKind.u64.wrap ((i : Int) + 1) = ((i + 1 : Nat) : Int) := by rw [← hw64 (i + 1) (by omega)]; rfl
      have g : ((List.replicate i s.data.toList).flatten.map fun b => (b.toNat : Int)).length + s.size < 140737488355328 := by rw [hlen]; omega
      simp only [if_pos (show (i : Int) < (n : Int) by omega), if_pos g, e, hw]
      exact ih (i + 1) (by omega) (by omega) hn2 hl
  have hj1 : s.data.toList ≠ [] → n ≠ 0 → ∀ b : Bool, b = decide (4096 / s.size < n) → Ev (fun k => stratumref07_Rep.j1 k s (n : Int) b) (repOut s n) := by
    intro hne hn0 b hb
    refine Ev.step (fun k => by simp only [stratumref07_Rep.j1]; rfl) ?_
    unfold repOut
    rw [if_neg (show ¬ (s.data.toList = [] ∨ n = 0) from fun h => h.elim hne hn0)]
    by_cases c : 4096 / s.size < n
    · rw [decide_eq_true c] at hb
      subst hb
      simp only [if_true, if_pos c]
      exact Ev.now _
    · rw [decide_eq_false c] at hb
      subst hb
      have hp : 0 < s.data.toList.length := List.length_pos_iff.2 hne
      have hmul : n * s.size ≤ 4096 := Nat.le_trans (Nat.mul_le_mul_right _ (Nat.le_of_not_lt c)) (Nat.div_mul_le_self _ _)
      have hn2 : n ≤ 4096 := Nat.le_trans (Nat.le_mul_of_pos_right _ (by omega)) hmul
      simp only [Bool.false_eq_true, if_false, if_neg c]
      exact key n 0 (by omega) (by omega) hn2 (by rw [← hz]; exact hmul)
  have hj0 : ∀ b : Bool, b = decide (s.data.toList = [] ∨ n = 0) → Ev (fun k => stratumref07_Rep.j0 k s (n : Int) b) (repOut s n) := by
    intro b hb
    refine Ev.step (fun k => by simp only [stratumref07_Rep.j0]; rfl) ?_
    by_cases c : s.data.toList = [] ∨ n = 0
    · rw [decide_eq_true c] at hb
      subst hb
      unfold repOut
      simp only [if_true, if_pos c]
      exact Ev.now _
    · rw [decide_eq_false c] at hb
      subst hb
      have hne : s.data.toList ≠ [] := fun h => c (.inl h)
      have hn0 : n ≠ 0 := fun h => c (.inr h)
      have hp : 0 < s.data.toList.length := List.length_pos_iff.2 hne
      have hdiv : 4096 / s.size < n ↔ 4096 < n * s.size := Nat.div_lt_iff_lt_mul (by omega)
      simp only [Bool.false_eq_true, if_false]
      by_cases c2 : n > 4096
      · simp only [if_pos (show (n : Int) > 4096 by omega)]
        refine hj1 hne hn0 true ?_
        rw [decide_eq_true]
        rw [hdiv]
        exact Nat.lt_of_lt_of_le c2 (Nat.le_mul_of_pos_right _ (by omega))
      · simp only [if_neg (show ¬ (n : Int) > 4096 by omega), if_neg (show ¬ (n : Int) = 0 by omega)]
        refine hj1 hne hn0 _ ?_
        have e : (4096 : Int) / (n : Int) = ((4096 / n : Nat) : Int) := by simp
        have hq : 4096 / n ≤ 4096 := Nat.div_le_self _ _
        rw [e, hw64 _ (by omega), hw64 _ (by omega), Bool.eq_iff_iff, decide_eq_true_iff, decide_eq_true_iff, hdiv]
        have h2 : 4096 / n < s.size ↔ 4096 < s.size * n := Nat.div_lt_iff_lt_mul (by omega)
        rw [Nat.mul_comm n, ← h2]
        omega
  unfold stratumref07_Rep.f
  rw [toList_eq]
  by_cases c : s.data.toList = []
  · simp only [if_pos c]
    exact hj0 true (by rw [decide_eq_true (.inl c)])
  · simp only [if_neg c]
    refine hj0 _ ?_
    rw [Bool.eq_iff_iff, beq_iff_eq, decide_eq_true_iff]
    constructor
    · intro h; exact .inr (by omega)
    · rintro (h | h)
      · exact absurd h c
      · omega

/-! ### digits -/
def hexv (c : Int) : Int := if 48 ≤ c ∧ c ≤ 57 then c - 48 else if 97 ≤ c ∧ c ≤ 102 then c - 87 else if 65 ≤ c ∧ c ≤ 70 then c - 55 else 16
theorem hexv_range (c : Int) : 0 ≤ hexv c ∧ hexv c ≤ 16 := by unfold hexv; split <;> (try split) <;> (try split) <;> omega
theorem digit_ev (c : Int) (h0 : 0 ≤ c) (h1 : c < 256) : Ev (fun k => part_digit.f k c) (if hexv c = 16 then (0, false) else (hexv c, true)) := by
  have hj1 : ∀ b : Bool, ¬ (48 ≤ c ∧ c ≤ 57) → b = decide (97 ≤ c ∧ c ≤ 102) → Ev (fun k => part_digit.j1 k c b) (if hexv c = 16 then (0, false) else (hexv c, true)) := by
    intro b hn hb
    refine Ev.step (fun k => by simp only [part_digit.j1]; rfl) ?_
    by_cases c2 : 97 ≤ c ∧ c ≤ 102
    · rw [decide_eq_true c2] at hb
      subst hb
      have e : hexv c = c - 87 := by unfold hexv; rw [if_neg hn, if_pos c2]
      simp only [if_true, e, if_neg (show ¬ c - 87 = 16 by omega)]
      have e2 : (c - 97 + 10) % 256 = c - 87 := by omega
      have e3 : ((c - 97) % 256 + 10) % 256 = c - 87 := by omega
      simp only [e2, e3]
      exact Ev.now _
    · rw [decide_eq_false c2] at hb
      subst hb
      simp only [Bool.false_eq_true, if_false]
      by_cases c3 : c ≥ 65
      · by_cases c4 : c ≤ 70
        · have e : hexv c = c - 55 := by unfold hexv; rw [if_neg hn, if_neg c2, if_pos ⟨c3, c4⟩]
          have e2 : (c - 65 + 10) % 256 = c - 55 := by omega
          have e3 : ((c - 65) % 256 + 10) % 256 = c - 55 := by omega
          simp only [if_pos c3, if_pos c4, e, if_neg (show ¬ c - 55 = 16 by omega), e2, e3]
          exact Ev.now _
        · have e : hexv c = 16 := by unfold hexv; rw [if_neg hn, if_neg c2, if_neg (fun h => c4 h.2)]
          simp only [if_pos c3, if_neg c4, e, if_true]
          exact Ev.now _
      · have e : hexv c = 16 := by unfold hexv; rw [if_neg hn, if_neg c2, if_neg (fun h => c3 h.1)]
        simp only [if_neg c3, e, if_true]
        exact Ev.now _
  have hj0 : ∀ b : Bool, b = decide (48 ≤ c ∧ c ≤ 57) → Ev (fun k => part_digit.j0 k c b) (if hexv c = 16 then (0, false) else (hexv c, true)) := by
    intro b hb
    refine Ev.step (fun k => by simp only [part_digit.j0]; rfl) ?_
    by_cases c1 : 48 ≤ c ∧ c ≤ 57
    · rw [decide_eq_true c1] at hb
      subst hb
      have e : hexv c = c - 48 := by unfold hexv; rw [if_pos c1]
      simp only [if_true, e, if_neg (show ¬ c - 48 = 16 by omega), show (c - 48) % 256 = c - 48 by omega]
      exact Ev.now _
    · rw [decide_eq_false c1] at hb
      subst hb
      simp only [Bool.false_eq_true, if_false]
      by_cases c2 : c ≥ 97
      · simp only [if_pos c2]
        exact hj1 _ c1 (by rw [Bool.eq_iff_iff, decide_eq_true_iff, decide_eq_true_iff]; omega)
      · simp only [if_neg c2]
        exact hj1 false c1 (by rw [decide_eq_false]; omega)
  unfold part_digit.f
  by_cases c1 : c ≥ 48
  · simp only [if_pos c1]
    exact hj0 _ (by rw [Bool.eq_iff_iff, decide_eq_true_iff, decide_eq_true_iff]; omega)
  · simp only [if_neg c1]
    exact hj0 false (by rw [decide_eq_false]; omega)
theorem refdigit_ev (c : Int) (h0 : 0 ≤ c) (h1 : c < 256) : Ev (fun k => stratumref07_digit.f k c) (hexv c) := by
  have hj1 : ∀ b : Bool, ¬ (48 ≤ c ∧ c ≤ 57) → b = decide (97 ≤ c ∧ c ≤ 102) → Ev (fun k => stratumref07_digit.j1 k c b) (hexv c) := by
    intro b hn hb
    refine Ev.step (fun k => by simp only [stratumref07_digit.j1]; rfl) ?_
    by_cases c2 : 97 ≤ c ∧ c ≤ 102
    · rw [decide_eq_true c2] at hb
      subst hb
      have e : hexv c = c - 87 := by unfold hexv; rw [if_neg hn, if_pos c2]
      have e2 : (c - 97 + 10) % 256 = c - 87 := by omega
      have e3 : ((c - 97) % 256 + 10) % 256 = c - 87 := by omega
      simp only [if_true, e, e2, e3]
      exact Ev.now _
    · rw [decide_eq_false c2] at hb
      subst hb
      simp only [Bool.false_eq_true, if_false]
      by_cases c3 : c ≥ 65
      · by_cases c4 : c ≤ 70
        · have e : hexv c = c - 55 := by unfold hexv; rw [if_neg hn, if_neg c2, if_pos ⟨c3, c4⟩]
          have e2 : (c - 65 + 10) % 256 = c - 55 := by omega
          have e3 : ((c - 65) % 256 + 10) % 256 = c - 55 := by omega
          simp only [if_pos c3, if_pos c4, e, e2, e3]
          exact Ev.now _
        · have e : hexv c = 16 := by unfold hexv; rw [if_neg hn, if_neg c2, if_neg (fun h => c4 h.2)]
          simp only [if_pos c3, if_neg c4, e]
          exact Ev.now _
      · have e : hexv c = 16 := by unfold hexv; rw [if_neg hn, if_neg c2, if_neg (fun h => c3 h.1)]
        simp only [if_neg c3, e]
        exact Ev.now _
  have hj0 : ∀ b : Bool, b = decide (48 ≤ c ∧ c ≤ 57) → Ev (fun k => stratumref07_digit.j0 k c b) (hexv c) := by
    intro b hb
    refine Ev.step (fun k => by simp only [stratumref07_digit.j0]; rfl) ?_
    by_cases c1 : 48 ≤ c ∧ c ≤ 57
    · rw [decide_eq_true c1] at hb
      subst hb
      have e : hexv c = c - 48 := by unfold hexv; rw [if_pos c1]
      simp only [if_true, e, show (c - 48) % 256 = c - 48 by omega]
      exact Ev.now _
    · rw [decide_eq_false c1] at hb
      subst hb
      simp only [Bool.false_eq_true, if_false]
      by_cases c2 : c ≥ 97
      · simp only [if_pos c2]
        exact hj1 _ c1 (by rw [Bool.eq_iff_iff, decide_eq_true_iff, decide_eq_true_iff]; omega)
      · simp only [if_neg c2]
        exact hj1 false c1 (by rw [decide_eq_false]; omega)
  unfold stratumref07_digit.f
  by_cases c1 : c ≥ 48
  · simp only [if_pos c1]
    exact hj0 _ (by rw [Bool.eq_iff_iff, decide_eq_true_iff, decide_eq_true_iff]; omega)
  · simp only [if_neg c1]
    exact hj0 false (by rw [decide_eq_false]; omega)
end Go.Proofs.Ythgkemkcepkkcaa.S
