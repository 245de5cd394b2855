/- The two halves. Stated over the printed functions; condition: texts up to 2^20 bytes. -/
import Derived.Test.YthgkemkcepkkcaaPurePartCuts
import Derived.Test.YthgkemkcepkkcaaX4
import Derived.OpenShut
set_option linter.unusedVariables false
set_option linter.unusedSimpArgs false
namespace Go.Proofs.Ythgkemkcepkkcaa.Pure
open Go.RowKit Go.Proofs.Ythgkemkcepkkcaa.X Go.Proofs.Ythgkemkcepkkcaa.S Go.Proofs.YthgkemkcepkkcaaW.PrintWords Go.Proofs.YthgkemkcepkkcaaW.PrintLast Go.Proofs.YthgkemkcepkkcaaW.PrintMore

theorem tm_nat (x : Int) (n : Nat) (h0 : 0 < n) (h1 : n ≤ 4294967296) : ∃ k : Nat, wrap64 (Int.tmod (IntKind.u64.wrap x) (IntKind.u64.wrap (n : Int))) = (k : Int) ∧ k < n := by
  rw [IntKind.wrap_u64, IntKind.wrap_u64, show ((n : Int)) % 18446744073709551616 = (n : Int) by omega, Int.tmod_eq_emod_of_nonneg (by omega)]
  have a := Int.emod_nonneg (x % 18446744073709551616) (show (n : Int) ≠ 0 by omega)
  have b := Int.emod_lt_of_pos (x % 18446744073709551616) (show (0 : Int) < (n : Int) by omega)
  exact ⟨((x % 18446744073709551616) % (n : Int)).toNat, by rw [w64 a (by omega)]; omega, by omega⟩
theorem cut_ne {s sub : ByteArray} {k : Nat} (h : k + sub.size ≤ s.size) (ho : Lib.occAt s.data.toList sub.data.toList k = false) : ((s.extract k (k + sub.size)).toList != sub.toList) = true := by
  unfold Lib.occAt at ho
  rw [pre_take, decide_eq_false_iff_not] at ho
  rw [bne_iff_ne, toList_eq, toList_eq, ext_list, show k + sub.size - k = sub.data.toList.length by rw [← size_len]; omega]
  exact ho
theorem PartHalves (a0 a1 : ByteArray) (a2 : Int) (m : Int) (hb : a0.size + a1.size ≤ 1048576) (y2 : (Lit.int .i64 a2).wf = true) : ∃ k, stratumlaw07_PartHalves.f k a0 a1 a2 [m] = some true := by
  have hi : part_Index.f a0 a1 [m] = some (idx a0.data.toList a1.data.toList) := index_eq (by omega)
  have hh : part_Head.f a0 a1 [m] = some (headOf a0 a1) := head_eq (by omega)
  have ht : part_Tail.f a0 a1 [m] = some (tailOf a0 a1) := tail_eq (by omega) (by omega)
  have hz0 := size_len a0
  have hz1 := size_len a1
  refine Ev.rounds ?_
  unfold stratumlaw07_PartHalves.f
  refine Ev.bind (awake_ev m) ?_
  simp only [if_true, hi, hh, ht, Option.bind_some]
  by_cases c : idx a0.data.toList a1.data.toList = -1
  · have e1 : headOf a0 a1 = a0 := by unfold headOf; rw [if_pos (by omega)]
    have e2 : tailOf a0 a1 = ⟨#[]⟩ := by unfold tailOf; rw [if_pos (by omega)]
    have e3 : Aside0 (wrap64 ((a0.size : Int) + 1) = ((a0.size + 1 : Nat) : Int)) := ⟨by rw [w64 (by omega) (by omega)]; rfl⟩
    have e4 : IntKind.u64.wrap ((a0.size + 1 : Nat) : Int) = ((a0.size + 1 : Nat) : Int) := by rw [IntKind.wrap_u64]; omega
    have e5 : (⟨#[]⟩ : ByteArray).toList = ([] : List UInt8) := by rw [toList_eq]
    obtain ⟨k, hk0, hkl⟩ := tm_nat a2 (a0.size + 1) (by omega) (by omega)
    have hk := Aside0.mk hk0
    clear hk0
    have g0 : ¬ ((a0.size + 1 : Nat) : Int) = 0 := by omega
    simp only [if_pos c, e1, e2, e3.out, hk.out, if_true, e5]
    simp only [e4, if_neg g0]
    by_cases c1 : a1.toList = ([] : List UInt8)
    · simp only [if_pos c1]
      exact Ev.now _
    · have hne : a1.data.toList ≠ [] := by rw [← toList_eq]; exact c1
      have hw : Aside0 (wrap64 ((k : Int) + (a1.size : Int)) = ((k + a1.size : Nat) : Int)) := ⟨by rw [w64 (by omega) (by omega)]; rfl⟩
      simp only [if_neg c1, hw.out, Int.toNat_natCast]
      by_cases c2 : k + a1.size ≤ a0.size
      · have hx : Lib.index a0.data.toList a1.data.toList = -1 := by unfold idx at c; rwa [if_neg hne] at c
        have ho : Lib.occAt a0.data.toList a1.data.toList k = false := by
          rcases Lib.index_spec a0.data.toList a1.data.toList with ⟨_, h⟩ | ⟨i, h, _⟩
          · exact h k (by omega)
          · rw [h] at hx; omega
        simp only [if_neg (show ¬ ((k + a1.size : Nat) : Int) > (a0.size : Int) by omega), if_pos (show (0 : Int) ≤ (k : Int) by omega), if_pos (show (k : Int) ≤ ((k + a1.size : Nat) : Int) by omega), if_pos (show ((k + a1.size : Nat) : Int) ≤ (a0.size : Int) by omega), cut_ne c2 ho]
        exact Ev.now _
      · simp only [if_pos (show ((k + a1.size : Nat) : Int) > (a0.size : Int) by omega)]
        exact Ev.now _
  · have hne : a1.data.toList ≠ [] := by
      intro h; exact c (by unfold idx; rw [if_pos h])
    have hix : idx a0.data.toList a1.data.toList = Lib.index a0.data.toList a1.data.toList := by unfold idx; rw [if_neg hne]
    rcases Lib.index_spec a0.data.toList a1.data.toList with ⟨h, _⟩ | ⟨i, hi2, hle, hocc, hno⟩
    · exact absurd (hix.trans h) c
    · have hroom := Lib.index_room a0.data.toList a1.data.toList (by omega)
      rw [hi2, ← hz0, ← hz1] at hroom
      rw [hi2] at hix
      have c1 : ¬ (a1.toList = ([] : List UInt8)) := by rw [toList_eq]; exact hne
      have hw : Aside0 (wrap64 ((i : Int) + (a1.size : Int)) = ((i + a1.size : Nat) : Int)) := ⟨by rw [w64 (by omega) (by omega)]; rfl⟩
      have e1 : headOf a0 a1 = a0.extract 0 i := by unfold headOf; rw [hix, if_neg (by omega), Int.toNat_natCast]
      have e2 : tailOf a0 a1 = a0.extract (i + a1.size) a0.size := by unfold tailOf; rw [hix, if_neg (by omega)]; rfl
      have hp : 0 < a1.data.toList.length := List.length_pos_iff.2 hne
      have hsz1 : (a0.extract 0 i).size = i := by rw [ByteArray.size_extract]; omega
      have hsz2 : (a0.extract (i + a1.size) a0.size).size = a0.size - (i + a1.size) := by rw [ByteArray.size_extract]; omega
      have hjn := join_eq (a := a0.extract 0 i) (b := a1) (c := a0.extract (i + a1.size) a0.size) (by omega)
      have hall : (a0.extract 0 i).data.toList ++ (a1.data.toList ++ (a0.extract (i + a1.size) a0.size).data.toList) = a0.data.toList := by
        rw [ext_take, ext_drop]
        have hpre : a1.data.toList = (a0.data.toList.drop i).take a1.data.toList.length := by
          unfold Lib.occAt at hocc
          rw [pre_take, decide_eq_true_iff] at hocc
          exact hocc.symm
        conv => lhs; rw [hpre]
        rw [← hz1, ← List.drop_drop, List.take_append_drop, List.take_append_drop]
      have hbne : ((⟨((a0.extract 0 i).data.toList ++ (a1.data.toList ++ (a0.extract (i + a1.size) a0.size).data.toList)).toArray⟩ : ByteArray).toList != a0.toList) = false := by
        rw [bne_eq_false_iff_eq, toList_eq, toList_eq]; exact hall
      simp only [hix, if_neg (show ¬ (i : Int) = -1 by omega), if_neg (show ¬ (i : Int) < 0 by omega), if_neg c1, hw.out, if_neg (show ¬ ((i + a1.size : Nat) : Int) > (a0.size : Int) by omega), if_pos (show (0 : Int) ≤ (i : Int) by omega), if_pos (show (i : Int) ≤ (a0.size : Int) by omega), e1, e2, Int.toNat_natCast, if_true, hjn, Option.bind_some, hbne]
      refine Ev.step (fun k => by simp only [stratumlaw07_PartHalves.j0]; rfl) ?_
      simp only [Bool.false_eq_true, if_false]
      by_cases z : i = 0
      · subst z
        simp only [if_neg (show ¬ ((0 : Nat) : Int) > 0 by omega), if_pos (show (0 : Int) = ((0 : Nat) : Int) from rfl)]
        exact Ev.now _
      · obtain ⟨k, hk0, hkl⟩ := tm_nat a2 i (by omega) (by omega)
        have hk := Aside0.mk hk0
        clear hk0
        have e4 : IntKind.u64.wrap (i : Int) = (i : Int) := by rw [IntKind.wrap_u64]; omega
        have hw2 : Aside0 (wrap64 ((k : Int) + (a1.size : Int)) = ((k + a1.size : Nat) : Int)) := ⟨by rw [w64 (by omega) (by omega)]; rfl⟩
        have g0 : ¬ (i : Int) = 0 := by omega
        simp only [if_pos (show (i : Int) > 0 by omega), hk.out, if_neg (show ¬ (k : Int) = (i : Int) by omega), hw2.out, Int.toNat_natCast]
        simp only [e4, if_neg g0]
        simp only [if_neg (show ¬ ((k + a1.size : Nat) : Int) > (a0.size : Int) by omega), if_pos (show (0 : Int) ≤ (k : Int) by omega), if_pos (show (k : Int) ≤ ((k + a1.size : Nat) : Int) by omega), if_pos (show ((k + a1.size : Nat) : Int) ≤ (a0.size : Int) by omega), cut_ne (show k + a1.size ≤ a0.size by omega) (hno k hkl)]
        exact Ev.now _
end Go.Proofs.Ythgkemkcepkkcaa.Pure
