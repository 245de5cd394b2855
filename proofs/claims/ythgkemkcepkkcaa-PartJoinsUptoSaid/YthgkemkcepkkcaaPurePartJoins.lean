/- What was joined is cut again. Stated over the printed functions; condition: texts up to 2^20 bytes. -/
import Derived.Test.YthgkemkcepkkcaaPurePartHalves
import Derived.Test.YthgkemkcepkkcaaX4
set_option linter.unusedVariables false
set_option linter.unusedSimpArgs false
namespace Go.Proofs.Ythgkemkcepkkcaa.Pure
open Go.RowKit Go.Proofs.Ythgkemkcepkkcaa.X Go.Proofs.Ythgkemkcepkkcaa.S Go.Proofs.YthgkemkcepkkcaaW.PrintWords Go.Proofs.YthgkemkcepkkcaaW.PrintLast Go.Proofs.YthgkemkcepkkcaaW.PrintMore

def jn (a b c : ByteArray) : ByteArray := ⟨(a.data.toList ++ (b.data.toList ++ c.data.toList)).toArray⟩
theorem jn_list (a b c : ByteArray) : (jn a b c).data.toList = a.data.toList ++ (b.data.toList ++ c.data.toList) := rfl
theorem jn_size (a b c : ByteArray) : (jn a b c).size = a.size + b.size + c.size := by
  rw [size_len, jn_list, List.length_append, List.length_append, ← size_len, ← size_len, ← size_len]; omega
theorem jn_eq {a b c : ByteArray} (h : a.size + b.size + c.size ≤ 140737488355328) : part_Join.f a b c = some (jn a b c) := join_eq h
theorem occ_more {s t sub : List UInt8} {j : Nat} (h : j + sub.length ≤ s.length) : Lib.occAt (s ++ t) sub j = Lib.occAt s sub j := by
  unfold Lib.occAt
  rw [pre_take, pre_take, List.drop_append_of_le_length (by omega), List.take_append_of_le_length (by rw [List.length_drop]; omega)]
theorem PartJoins (a s b c : ByteArray) (m : Int) (hb : a.size + s.size + b.size + c.size ≤ 1048576) : ∃ k, stratumlaw07_PartJoins.f k a s b c [m] = some true := by
  have z1 := jn_size a s b
  have z2 := jn_size b s c
  refine Ev.rounds ?_
  unfold stratumlaw07_PartJoins.f
  refine Ev.bind (awake_ev m) ?_
  have q1 := jn_eq (a := a) (b := s) (c := b) (by omega)
  have q2 := jn_eq (a := jn a s b) (b := s) (c := c) (by omega)
  have q3 := jn_eq (a := b) (b := s) (c := c) (by omega)
  have q4 := jn_eq (a := a) (b := s) (c := jn b s c) (by omega)
  have e1 : (jn (jn a s b) s c).toList = (jn a s (jn b s c)).toList := by
    rw [toList_eq, toList_eq, jn_list, jn_list, jn_list, jn_list]; simp
  have e2 : Aside0 ((((jn a s b).size : Int) != wrap64 (wrap64 ((a.size : Int) + (s.size : Int)) + (b.size : Int))) = false) := ⟨by
    rw [w64 (x := (a.size : Int) + (s.size : Int)) (by omega) (by omega), w64 (by omega) (by omega), z1, bne_eq_false_iff_eq]; omega⟩
  simp only [if_true, q1, q2, q3, q4, Option.bind_some, if_pos e1, e2.out]
  refine Ev.step (fun k => by simp only [stratumlaw07_PartJoins.j0]; rfl) ?_
  have hj1 : ∀ d : Bool, (d = false → s.data.toList ≠ [] ∧ idx (a ++ s).data.toList s.data.toList = (a.size : Int)) → Ev (fun k => stratumlaw07_PartJoins.j1 k a s b (jn a s b) d [m]) true := by
    intro d hd
    refine Ev.step (fun k => by simp only [stratumlaw07_PartJoins.j1]; rfl) ?_
    cases d with
    | true => simp only [if_true]; exact Ev.now _
    | false =>
      obtain ⟨hne, hix⟩ := hd rfl
      have hz := size_len a
      have hzs := size_len s
      have hp : 0 < s.data.toList.length := List.length_pos_iff.2 hne
      have hno : Lib.NoOcc (a ++ s).data.toList s.data.toList a.size := by
        unfold idx at hix
        rw [if_neg hne] at hix
        rcases Lib.index_spec (a ++ s).data.toList s.data.toList with ⟨h, _⟩ | ⟨i, h, _, _, h4⟩
        · rw [h] at hix; omega
        · rw [h] at hix
          obtain rfl : i = a.size := by omega
          exact h4
      have hl : (jn a s b).data.toList = (a ++ s).data.toList ++ b.data.toList := by rw [jn_list, app_list, List.append_assoc]
      have hlen : (a ++ s).data.toList.length = a.size + s.data.toList.length := by rw [app_list, List.length_append, hz]
      have hno2 : Lib.NoOcc (jn a s b).data.toList s.data.toList a.size := fun j hj => by rw [hl, occ_more (by omega)]; exact hno j hj
      have hocc : Lib.occAt (jn a s b).data.toList s.data.toList a.size = true := by
        unfold Lib.occAt
        rw [pre_take, decide_eq_true_iff, jn_list, hz, List.drop_left, List.take_left]
      have hi : idx (jn a s b).data.toList s.data.toList = (a.size : Int) := by
        unfold idx
        rw [if_neg hne, Lib.index_hit hno2 (by rw [← size_len]; omega) hocc]
      have r1 : part_Index.f (jn a s b) s [m] = some (a.size : Int) := by rw [index_eq (by omega), hi]
      have r2 : part_Head.f (jn a s b) s [m] = some a := by
        rw [head_eq (by omega)]
        congr 1
        unfold headOf
        rw [hi, if_neg (by omega), Int.toNat_natCast]
        have : ((jn a s b).extract 0 a.size).data.toList = a.data.toList := by rw [ext_take, jn_list, hz, List.take_left]
        rw [of_list this]
      have r3 : part_Tail.f (jn a s b) s [m] = some b := by
        rw [tail_eq (by omega) (by omega)]
        congr 1
        unfold tailOf
        rw [hi, if_neg (by omega), show ((a.size : Int) + (s.size : Int)).toNat = a.size + s.size by omega]
        have : ((jn a s b).extract (a.size + s.size) (jn a s b).size).data.toList = b.data.toList := by
          rw [ext_drop, jn_list, hz, hzs, ← List.append_assoc, ← List.length_append, List.drop_left]
        rw [of_list this]
      simp only [Bool.false_eq_true, if_false, r1, r2, r3, Option.bind_some, if_true, beq_self_eq_true]
      exact Ev.now _
  simp only [Bool.false_eq_true, if_false]
  by_cases c1 : s.toList = ([] : List UInt8)
  · simp only [if_pos c1]
    exact hj1 true (fun h => by cases h)
  · have hne : s.data.toList ≠ [] := by rw [← toList_eq]; exact c1
    have hsz : (a ++ s).size = a.size + s.size := ByteArray.size_append
    have r0 : part_Index.f (a ++ s) s [m] = some (idx (a ++ s).data.toList s.data.toList) := index_eq (by omega)
    simp only [if_neg c1, if_pos (show a.size + s.size ≤ 9223372036854775807 by omega), r0, Option.bind_some]
    exact hj1 _ (fun h => ⟨hne, bne_eq_false_iff_eq.1 h⟩)
end Go.Proofs.Ythgkemkcepkkcaa.Pure
