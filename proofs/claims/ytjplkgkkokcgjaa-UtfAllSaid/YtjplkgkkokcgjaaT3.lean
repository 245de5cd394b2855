/- The reference's goings-through of layer 3 answer what the plain ones say. No condition but the sizes. -/
import Derived.Test.YtjplkgkkokcgjaaT2
set_option linter.unusedVariables false
set_option linter.unusedSimpArgs false
namespace Go.Proofs.Ytjplkgkkokcgjaa.T
open Go.RowKit Go.Proofs.Ytjplkgkkokcgjaa.X Go.Proofs.Ytjplkgkkokcgjaa.U Go.Proofs.YtjplkgkkokcgjaaW.PrintWords Go.Proofs.YtjplkgkkokcgjaaW.PrintLast Go.Proofs.YtjplkgkkokcgjaaW.PrintMore

theorem adv_unext {l : List UInt8} (hne : l ≠ []) : (unext l).2 = ((adv l : Nat) : Int) := by
  cases hd2 : dec l with
  | none => rw [unext_none hne hd2, adv_none hd2]; rfl
  | some p => obtain ⟨c, n⟩ := p; rw [unext_some hd2, adv_some hd2]
theorem drop_ne {s : ByteArray} {i : Nat} (h : i < s.size) : s.data.toList.drop i ≠ [] := by
  have hsz := size_len s
  intro h2; have := congrArg List.length h2; rw [List.length_drop] at this; simp at this; omega
theorem reffault_ev (s : ByteArray) (hs : s.size ≤ 4611686018427387904) : Ev (fun k => stratumref03_Fault.f k s) ((fault s.data.toList : Nat) : Int) := by
  have hsz := size_len s
  have key : ∀ (d i : Nat), s.size - i ≤ d → i ≤ s.size → Ev (fun k => stratumref03_Fault.l0 k s (i : Int)) (((i + fault (s.data.toList.drop i) : Nat)) : Int) := by
    intro d
    induction d with
    | zero =>
      intro i hd hi
      obtain rfl : i = s.size := by omega
      refine Ev.step (fun k => by simp only [stratumref03_Fault.l0]; rfl) ?_
      have e : s.data.toList.drop s.size = [] := List.drop_of_length_le (by omega)
      simp only [Int.lt_irrefl, if_false, e, fault_none (l := []) rfl, Nat.add_zero]
      exact Ev.now _
    | succ d ih =>
      intro i hd hi
      by_cases hlt : i < s.size
      · refine Ev.step (fun k => by simp only [stratumref03_Fault.l0]; rfl) ?_
        simp only [if_pos (show (i : Int) < (s.size : Int) by omega), if_pos (show (0 : Int) ≤ (i : Int) by omega), if_pos (show (i : Int) ≤ (s.size : Int) by omega), Int.toNat_natCast]
        have hne := drop_ne hlt
        have hx := refnext_ev (s.extract i s.size)
        rw [ext_drop] at hx
        refine Ev.bind hx ?_
        cases hd2 : dec (s.data.toList.drop i) with
        | none =>
          rw [unext_none hne hd2, fault_none hd2]
          simp only [if_pos (show ((-1 : Int)) < 0 by omega), Nat.add_zero]
          exact Ev.now _
        | some p =>
          obtain ⟨c, n⟩ := p
          have h1 := adv_pos (l := s.data.toList.drop i)
          have h2 := adv_le hne
          rw [adv_some hd2] at h1 h2
          rw [List.length_drop] at h2
          rw [unext_some hd2, fault_some hd2]
          simp only [if_neg (show ¬ ((c : Int)) < 0 by omega), show wrap64 ((i : Int) + (n : Int)) = ((i + n : Nat) : Int) by unfold wrap64; omega]
          have := ih (i + n) (by omega) (by omega)
          rw [List.drop_drop, ← Nat.add_assoc]
          exact this
      · exact ih i (by omega) hi
  have := key s.size 0 (by omega) (by omega)
  rw [List.drop_zero, Nat.zero_add] at this
  exact Ev.congr (fun k => by simp only [stratumref03_Fault.f]; rfl) this
theorem refvalid_ev (s : ByteArray) (hs : s.size ≤ 4611686018427387904) : Ev (fun k => stratumref03_Valid.f k s) (decide (fault s.data.toList = s.data.toList.length)) := by
  unfold stratumref03_Valid.f
  refine Ev.bind (reffault_ev s hs) ?_
  have e : (((fault s.data.toList : Nat) : Int) == (s.size : Int)) = decide (fault s.data.toList = s.data.toList.length) := by
    rw [Bool.eq_iff_iff, beq_iff_eq, decide_eq_true_iff, size_len]; omega
  rw [e]
  exact Ev.now _
theorem refcount_ev (s : ByteArray) (hs : s.size ≤ 2305843009213693952) : Ev (fun k => stratumref03_Count.f k s) ((ucount s.data.toList : Nat) : Int) := by
  have hsz := size_len s
  have key : ∀ (d i c : Nat), s.size - i ≤ d → i ≤ s.size → c ≤ i → Ev (fun k => stratumref03_Count.l0 k s (c : Int) (i : Int)) (((c + ucount (s.data.toList.drop i) : Nat)) : Int) := by
    intro d
    induction d with
    | zero =>
      intro i c hd hi hc
      obtain rfl : i = s.size := by omega
      refine Ev.step (fun k => by simp only [stratumref03_Count.l0]; rfl) ?_
      have e : s.data.toList.drop s.size = [] := List.drop_of_length_le (by omega)
      simp only [Int.lt_irrefl, if_false, e, ucount_nil, Nat.add_zero]
      exact Ev.now _
    | succ d ih =>
      intro i c hd hi hc
      by_cases hlt : i < s.size
      · refine Ev.step (fun k => by simp only [stratumref03_Count.l0]; rfl) ?_
        simp only [if_pos (show (i : Int) < (s.size : Int) by omega), if_pos (show (0 : Int) ≤ (i : Int) by omega), if_pos (show (i : Int) ≤ (s.size : Int) by omega), Int.toNat_natCast]
        have hne := drop_ne hlt
        have hx := refnext_ev (s.extract i s.size)
        rw [ext_drop] at hx
        refine Ev.bind hx ?_
        have h1 := adv_pos (l := s.data.toList.drop i)
        have h2 := adv_le hne
        rw [List.length_drop] at h2
        rw [adv_unext hne, ucount_step hne]
        have ihh := ih (i + adv (s.data.toList.drop i)) (c + 1) (by omega) (by omega) (by omega)
        have W1 : Aside0 (wrap64 ((c : Int) + 1) = ((c + 1 : Nat) : Int)) := ⟨by rw [w64s (by omega) (by omega)]; rfl⟩
        have W2 : Aside0 (wrap64 ((i : Int) + ((adv (s.data.toList.drop i) : Nat) : Int)) = ((i + adv (s.data.toList.drop i) : Nat) : Int)) := ⟨by rw [w64s (by omega) (by omega)]; rfl⟩
        rw [W1.out, W2.out, show c + (ucount (List.drop (adv (s.data.toList.drop i)) (s.data.toList.drop i)) + 1) = c + 1 + ucount (List.drop (adv (s.data.toList.drop i)) (s.data.toList.drop i)) by omega, List.drop_drop]
        exact ihh
      · exact ih i c (by omega) hi hc
  have := key s.size 0 0 (by omega) (by omega) (by omega)
  rw [List.drop_zero, Nat.zero_add] at this
  exact Ev.congr (fun k => by simp only [stratumref03_Count.f]; rfl) this
def nums (l : List UInt8) : List Int := l.map fun b => (b.toNat : Int)
theorem nums_append (a b : List UInt8) : nums (a ++ b) = nums a ++ nums b := List.map_append
theorem nums_len (a : List UInt8) : (nums a).length = a.length := List.length_map _
theorem strOf_nums (l : List UInt8) : strOfNums (nums l) = ⟨l.toArray⟩ := by
  unfold nums
  unfold strOfNums
  congr 2
  rw [List.map_map]
  conv => rhs; rw [← List.map_id l]
  refine List.map_congr_left (fun b _ => ?_)
  show UInt8.ofNat ((b.toNat : Int)).toNat = b
  rw [Int.toNat_natCast, UInt8.ofNat_toNat]
theorem refmend_ev (s : ByteArray) (hs : s.size ≤ 35184372088832) : Ev (fun k => stratumref03_Mend.f k s) ⟨(umend s.data.toList).toArray⟩ := by
  have hsz := size_len s
  have copy : ∀ (out : List UInt8) (i n : Nat) (res : ByteArray), i + n ≤ s.size → out.length + n < 140737488355328 → Ev (fun k => stratumref03_Mend.l0 k s (nums (out ++ (s.data.toList.drop i).take n)) ((i + n : Nat) : Int)) res →
      ∀ (d j : Nat), n - j ≤ d → j ≤ n → Ev (fun k => stratumref03_Mend.l1 k s (nums (out ++ (s.data.toList.drop i).take j)) (i : Int) (n : Int) (j : Int)) res := by
    intro out i n res hn ho hres d
    induction d with
    | zero =>
      intro j hd hj
      obtain rfl : j = n := by omega
      have W : Aside0 (wrap64 ((i : Int) + (j : Int)) = ((i + j : Nat) : Int)) := ⟨by rw [w64s (by omega) (by omega)]; rfl⟩
      refine Ev.step (fun k => by simp only [stratumref03_Mend.l1]; rfl) ?_
      simp only [Int.lt_irrefl, if_false, W.out]
      exact hres
    | succ d ih =>
      intro j hd hj
      by_cases hlt : j < n
      · have ihh := ih (j + 1) (by omega) (by omega)
        have W1 : Aside0 (wrap64 ((i : Int) + (j : Int)) = ((i + j : Nat) : Int)) := ⟨by rw [w64s (by omega) (by omega)]; rfl⟩
        have W2 : Aside0 (wrap64 ((j : Int) + 1) = ((j + 1 : Nat) : Int)) := ⟨by rw [w64s (by omega) (by omega)]; rfl⟩
        have g1 : (j : Int) < (n : Int) := by omega
        have g2 : (0 : Int) ≤ ((i + j : Nat) : Int) := by omega
        have g3 : ((i + j : Nat) : Int) < (s.size : Int) := by omega
        have g4 : (nums (out ++ (s.data.toList.drop i).take j)).length < 140737488355328 := by rw [nums_len, List.length_append, List.length_take]; omega
        have hdl : (s.data.toList.drop i).length = s.size - i := by rw [List.length_drop, hsz]
        have hij : i + j < s.data.toList.length := by omega
        have e : nums (out ++ (s.data.toList.drop i).take j) ++ [bt s ((i + j : Nat) : Int)] = nums (out ++ (s.data.toList.drop i).take (j + 1)) := by
          rw [List.take_succ_eq_append_getElem (show j < (s.data.toList.drop i).length by omega), bt_nth s (i + j) (by omega), List.getElem_drop]
          unfold nums nth
          rw [List.getD_eq_getElem?_getD, List.getElem?_eq_getElem hij]
          simp
        refine Ev.step (fun k => by simp only [stratumref03_Mend.l1]; rfl) ?_
        simp only [if_pos g1, W1.out, if_pos g2, if_pos g3, if_pos g4, e, W2.out]
        exact ihh
      · exact ih j (by omega) hj
  have key : ∀ (d i : Nat) (out : List UInt8), s.size - i ≤ d → i ≤ s.size → out.length ≤ 3 * i → Ev (fun k => stratumref03_Mend.l0 k s (nums out) (i : Int)) ⟨(out ++ umend (s.data.toList.drop i)).toArray⟩ := by
    intro d
    induction d with
    | zero =>
      intro i out hd hi ho
      obtain rfl : i = s.size := by omega
      refine Ev.step (fun k => by simp only [stratumref03_Mend.l0]; rfl) ?_
      have e : s.data.toList.drop s.size = [] := List.drop_of_length_le (by omega)
      simp only [Int.lt_irrefl, if_false, e, umend_nil, List.append_nil, strOf_nums]
      exact Ev.now _
    | succ d ih =>
      intro i out hd hi ho
      by_cases hlt : i < s.size
      · have hne := drop_ne hlt
        have hx := refnext_ev (s.extract i s.size)
        rw [ext_drop] at hx
        have h1 := adv_pos (l := s.data.toList.drop i)
        have h2 := adv_le hne
        rw [List.length_drop] at h2
        have hu := adv_unext hne
        have hm := umend_step hne
        rw [List.drop_drop] at hm
        refine Ev.step (fun k => by simp only [stratumref03_Mend.l0]; rfl) ?_
        simp only [if_pos (show (i : Int) < (s.size : Int) by omega), if_pos (show (0 : Int) ≤ (i : Int) by omega), if_pos (show (i : Int) ≤ (s.size : Int) by omega), Int.toNat_natCast]
        refine Ev.bind hx ?_
        cases hd2 : dec (s.data.toList.drop i) with
        | none =>
          rw [adv_none hd2] at h1 h2 hu hm
          rw [fix1_none hd2] at hm
          have ihh := ih (i + 1) (out ++ fffd) (by omega) (by omega) (by rw [List.length_append]; have : fffd.length = 3 := rfl; omega)
          have g1 : (nums out).length + [(239 : Int), 191, 189].length < 140737488355328 := by rw [nums_len]; simp; omega
          have e : nums out ++ [239, 191, 189] = nums (out ++ fffd) := by rw [nums_append]; rfl
          have W2 : Aside0 (wrap64 ((i : Int) + 1) = ((i + 1 : Nat) : Int)) := ⟨by rw [w64s (by omega) (by omega)]; rfl⟩
          rw [unext_none hne hd2, hm]
          simp only [if_pos (show ((-1 : Int)) < 0 by omega), Option.bind_some, if_pos g1, e, W2.out]
          rw [← List.append_assoc]
          exact ihh
        | some p =>
          obtain ⟨c, n⟩ := p
          rw [adv_some hd2] at h1 h2 hu hm
          rw [fix1_some hd2] at hm
          have tl : ((s.data.toList.drop i).take n).length ≤ n := by rw [List.length_take]; omega
          have ihh := ih (i + n) (out ++ (s.data.toList.drop i).take n) (by omega) (by omega) (by rw [List.length_append]; omega)
          rw [List.append_assoc, ← hm] at ihh
          have c0 := copy out i n _ (by omega) (by omega) ihh n 0 (by omega) (by omega)
          rw [List.take_zero, List.append_nil] at c0
          rw [unext_some hd2]
          simp only [if_neg (show ¬ ((c : Int)) < 0 by omega)]
          exact c0
      · exact ih i out (by omega) hi ho
  have := key s.size 0 [] (by omega) (by omega) (by simp)
  rw [List.drop_zero, List.nil_append] at this
  exact Ev.congr (fun k => by simp only [stratumref03_Mend.f]; rfl) this
end Go.Proofs.Ytjplkgkkokcgjaa.T
