/- n times and m times, one behind the other, are n + m times. Stated over the printed functions; condition: texts up to 2^20 bytes. -/
import Derived.Test.YthgkemkcepkkcaaS1
import Derived.Test.YthgkemkcepkkcaaX5
import Derived.OpenShut
set_option linter.unusedVariables false
set_option linter.unusedSimpArgs false
namespace Go.Proofs.Ythgkemkcepkkcaa.Pure
open Go.RowKit Go.Proofs.Ythgkemkcepkkcaa.X Go.Proofs.Ythgkemkcepkkcaa.S Go.Proofs.YthgkemkcepkkcaaW.PrintWords Go.Proofs.YthgkemkcepkkcaaW.PrintLast Go.Proofs.YthgkemkcepkkcaaW.PrintMore

theorem rep_zero (s : ByteArray) : rep s 0 = ⟨#[]⟩ := by unfold rep; simp
theorem rep_list (s : ByteArray) (n : Nat) : (rep s n).data.toList = (List.replicate n s.data.toList).flatten := rfl
theorem rep_size (s : ByteArray) (n : Nat) : (rep s n).size = n * s.size := by rw [size_len, rep_list, flat_len, size_len s]
theorem rep_app (s : ByteArray) (n m : Nat) : (rep s (n + m)).data.toList = (rep s n ++ rep s m).data.toList := by
  rw [app_list, rep_list, rep_list, rep_list, ← List.replicate_append_replicate, List.flatten_append]
theorem repOut_nil {s : ByteArray} (n : Nat) (h : s.data.toList = []) : repOut s n = (⟨#[]⟩, 0) := by unfold repOut; rw [if_pos (.inl h)]
theorem repOut_eq {s : ByteArray} (n : Nat) (h : s.data.toList ≠ []) : repOut s n = if 4096 < n * s.size then (⟨#[]⟩, 2) else (rep s n, 0) := by
  have hp : 0 < s.data.toList.length := List.length_pos_iff.2 h
  have hz := size_len s
  unfold repOut
  by_cases c : n = 0
  · subst c
    rw [if_pos (.inr rfl), if_neg (by omega), rep_zero]
  · have hd : 4096 / s.size < n ↔ 4096 < n * s.size := Nat.div_lt_iff_lt_mul (by omega)
    rw [if_neg (show ¬ (s.data.toList = [] ∨ n = 0) from fun x => x.elim h c)]
    by_cases c2 : 4096 < n * s.size
    · rw [if_pos (hd.2 c2), if_pos c2]
    · rw [if_neg (fun x => c2 (hd.1 x)), if_neg c2]
theorem PartReps (a0 : ByteArray) (a1 a2 : Int) (m : Int) (hb : a0.size ≤ 1048576) (y1 : (Lit.int .u64 a1).wf = true) (y2 : (Lit.int .u64 a2).wf = true) : ∃ k, stratumlaw07_PartReps.f k a0 a1 a2 [m] = some true := by
  have hbd1 := Go.bounds_u64 y1
  have hbd2 := Go.bounds_u64 y2
  obtain ⟨n1, rfl⟩ := Int.eq_ofNat_of_zero_le (show 0 ≤ a1 by omega)
  obtain ⟨n2, rfl⟩ := Int.eq_ofNat_of_zero_le (show 0 ≤ a2 by omega)
  have hw64 : ∀ x : Nat, x < 18446744073709551616 → IntKind.u64.wrap (x : Int) = (x : Int) := fun x hx => by rw [IntKind.wrap_u64]; omega
  have hz := size_len a0
  refine Ev.rounds ?_
  unfold stratumlaw07_PartReps.f
  refine Ev.bind (awake_ev m) ?_
  simp only [if_true]
  refine Ev.bind (rep_ev a0 n1 (by omega) (by omega)) ?_
  refine Ev.bind (rep_ev a0 n2 (by omega) (by omega)) ?_
  have hrw : ∃ n3 : Nat, IntKind.u64.wrap ((n1 : Int) + (n2 : Int)) = (n3 : Int) ∧ n3 < 18446744073709551616 ∧ (n1 + n2 < 18446744073709551616 → n3 = n1 + n2) := by
    refine ⟨(n1 + n2) % 18446744073709551616, ?_, ?_, ?_⟩
    · rw [IntKind.wrap_u64]; omega
    · omega
    · intro h; omega
  obtain ⟨n3, hn3, hn3b, hn3s⟩ := hrw
  have hrep3 := rep_ev a0 n3 (by omega) hn3b
  by_cases he : a0.data.toList = []
  · -- nothing to repeat
    have hs0 : a0.size = 0 := by rw [hz, he]; rfl
    rw [repOut_nil n1 he, repOut_nil n2 he]
    rw [repOut_nil n3 he] at hrep3
    have he2 : (a0.toList = ([] : List UInt8)) := by rw [toList_eq]; exact he
    simp only [if_pos he2]
    refine Ev.step (fun k => by simp only [stratumlaw07_PartReps.j0]; rfl) ?_
    simp only [beq_self_eq_true, bne_self_eq_false, Bool.false_eq_true, if_false, if_true]
    refine Ev.step (fun k => by simp only [stratumlaw07_PartReps.j1]; rfl) ?_
    simp only [bne_self_eq_false, Bool.false_eq_true, if_false, if_true]
    refine Ev.step (fun k => by simp only [stratumlaw07_PartReps.j2]; rfl) ?_
    simp only [Bool.false_eq_true, if_false, hn3]
    refine Ev.bind hrep3 ?_
    have e1 : (⟨#[]⟩ : ByteArray).size = 0 := rfl
    have e2 : wrap64 (((0 : Nat) : Int) + ((0 : Nat) : Int)) = 0 := by rw [w64 (by omega) (by omega)]; rfl
    have e3 : (⟨#[]⟩ : ByteArray).toList = ((⟨#[]⟩ : ByteArray) ++ (⟨#[]⟩ : ByteArray)).toList := by rw [toList_eq, toList_eq, app_list]; rfl
    simp only [e1, e2, if_neg (show ¬ (0 : Int) > 4096 by omega), if_true, if_pos (show 0 + 0 ≤ 9223372036854775807 by omega), if_pos e3]
    exact Ev.now _
  · have he2 : ¬ (a0.toList = ([] : List UInt8)) := by rw [toList_eq]; exact he
    have hp : 0 < a0.data.toList.length := List.length_pos_iff.2 he
    rw [repOut_eq n1 he, repOut_eq n2 he]
    rw [repOut_eq n3 he] at hrep3
    simp only [if_neg he2]
    -- whatever the law's own test of size answers, it is that the first fits
    have hj0 : ∀ b : Bool, b = decide (¬ 4096 < n1 * a0.size) → Ev (fun k => stratumlaw07_PartReps.j0 k a0 (n1 : Int) (n2 : Int) (if 4096 < n1 * a0.size then ((⟨#[]⟩ : ByteArray), (2 : Int)) else (rep a0 n1, 0)).1 (if 4096 < n1 * a0.size then ((⟨#[]⟩ : ByteArray), (2 : Int)) else (rep a0 n1, 0)).2 (if 4096 < n2 * a0.size then ((⟨#[]⟩ : ByteArray), (2 : Int)) else (rep a0 n2, 0)).1 (if 4096 < n2 * a0.size then ((⟨#[]⟩ : ByteArray), (2 : Int)) else (rep a0 n2, 0)).2 b) true := by
      intro b hbb
      refine Ev.step (fun k => by simp only [stratumlaw07_PartReps.j0]; rfl) ?_
      by_cases c1 : 4096 < n1 * a0.size
      · rw [decide_eq_false (fun h => h c1)] at hbb
        subst hbb
        have e1 : ((2 : Int) == 0) = false := by decide
        have e5 : ((⟨#[]⟩ : ByteArray).toList != ([] : List UInt8)) = false := by rw [toList_eq]; rfl
        simp only [if_pos c1, e1, bne_self_eq_false, Bool.false_eq_true, if_false, if_neg (show ¬ (2 : Int) = 0 by omega), if_true, e5]
        refine Ev.step (fun k => by simp only [stratumlaw07_PartReps.j1]; rfl) ?_
        simp only [Bool.false_eq_true, if_false, if_neg (show ¬ (2 : Int) = 0 by omega)]
        refine Ev.step (fun k => by simp only [stratumlaw07_PartReps.j2]; rfl) ?_
        simp only [if_true]
        exact Ev.now _
      · rw [decide_eq_true c1] at hbb
        subst hbb
        simp only [if_neg c1, beq_self_eq_true, bne_self_eq_false, Bool.false_eq_true, if_false, if_true]
        refine Ev.step (fun k => by simp only [stratumlaw07_PartReps.j1]; rfl) ?_
        simp only [Bool.false_eq_true, if_false, if_true]
        by_cases c2 : 4096 < n2 * a0.size
        · have e1 : ((2 : Int) != 0) = true := by decide
          simp only [if_pos c2, e1]
          refine Ev.step (fun k => by simp only [stratumlaw07_PartReps.j2]; rfl) ?_
          simp only [if_true]
          exact Ev.now _
        · have m1 : n1 ≤ n1 * a0.size := Nat.le_mul_of_pos_right _ (by omega)
          have m2 : n2 ≤ n2 * a0.size := Nat.le_mul_of_pos_right _ (by omega)
          have h3 : n3 = n1 + n2 := hn3s (by omega)
          subst h3
          have hm : (n1 + n2) * a0.size = n1 * a0.size + n2 * a0.size := Nat.add_mul _ _ _
          have e1 : ((0 : Int) != 0) = false := by decide
          simp only [if_neg c2, e1]
          refine Ev.step (fun k => by simp only [stratumlaw07_PartReps.j2]; rfl) ?_
          have hw : wrap64 (((n1 * a0.size : Nat) : Int) + ((n2 * a0.size : Nat) : Int)) = ((n1 * a0.size + n2 * a0.size : Nat) : Int) := by rw [w64 (by omega) (by omega)]; rfl
          simp only [Bool.false_eq_true, if_false, hn3, rep_size, hw]
          refine Ev.bind hrep3 ?_
          by_cases c3 : 4096 < (n1 + n2) * a0.size
          · have e5 : ((⟨#[]⟩ : ByteArray).toList == ([] : List UInt8)) = true := by rw [toList_eq]; rfl
            simp only [if_pos c3, if_pos (show ((n1 * a0.size + n2 * a0.size : Nat) : Int) > 4096 by omega), if_true, e5]
            exact Ev.now _
          · have e6 : (rep a0 (n1 + n2)).toList = (rep a0 n1 ++ rep a0 n2).toList := by rw [toList_eq, toList_eq]; exact rep_app _ _ _
            simp only [if_neg c3, if_neg (show ¬ ((n1 * a0.size + n2 * a0.size : Nat) : Int) > 4096 by omega), if_true, if_pos (show n1 * a0.size + n2 * a0.size ≤ 9223372036854775807 by omega), if_pos e6]
            exact Ev.now _
    by_cases z1 : n1 = 0
    · subst z1
      simp only [if_pos (show ((0 : Nat) : Int) = 0 from rfl)]
      exact hj0 true (by rw [decide_eq_true (by omega)])
    · simp only [if_neg (show ¬ (n1 : Int) = 0 by omega)]
      by_cases z2 : n1 ≤ 4096
      · have e : (4096 : Int) / (n1 : Int) = ((4096 / n1 : Nat) : Int) := by simp
        have hq : 4096 / n1 ≤ 4096 := Nat.div_le_self _ _
        simp only [if_pos (show (n1 : Int) ≤ 4096 by omega), e, hw64 a0.size (by omega), hw64 (4096 / n1) (by omega)]
        refine hj0 _ ?_
        have h2 : 4096 / n1 < a0.size ↔ 4096 < a0.size * n1 := Nat.div_lt_iff_lt_mul (by omega)
        rw [Bool.eq_iff_iff, decide_eq_true_iff, decide_eq_true_iff, Nat.mul_comm n1, ← h2]
        omega
      · simp only [if_neg (show ¬ (n1 : Int) ≤ 4096 by omega)]
        have m1 : n1 ≤ n1 * a0.size := Nat.le_mul_of_pos_right _ (by omega)
        exact hj0 false (by rw [decide_eq_false (by omega)])
end Go.Proofs.Ythgkemkcepkkcaa.Pure
