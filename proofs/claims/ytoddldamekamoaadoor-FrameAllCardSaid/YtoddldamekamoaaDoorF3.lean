/- Plain facts about frames: the reference's places and scans. Conditions: lengths, and that bytes are bytes. -/
import Derived.Test.YtoddldamekamoaaDoorF2
import Derived.Test.YtoddldamekamoaaDoorX4
set_option linter.unusedVariables false
set_option linter.unusedSimpArgs false
namespace Go.Proofs.YtoddldamekamoaaDoor.F
open Go.RowKit Go.Proofs.YtoddldamekamoaaDoor.X Go.Proofs.YtoddldamekamoaaDoor.G Go.Proofs.YtoddldamekamoaaDoorW.PrintWords Go.Proofs.YtoddldamekamoaaDoorW.PrintLast Go.Proofs.YtoddldamekamoaaDoorW.PrintMore

theorem rd_drop (l : List Int) (a j : Nat) : rd (l.drop a) (j : Int) = rd l ((a + j : Nat) : Int) := by
  unfold rd; rw [Int.toNat_natCast, Int.toNat_natCast, List.getD_eq_getElem?_getD, List.getD_eq_getElem?_getD, List.getElem?_drop]
theorem num_wrap {A B C D : Int} (hA : 0 ≤ A ∧ A < 256) (hB : 0 ≤ B ∧ B < 256) (hC : 0 ≤ C ∧ C < 256) (hD : 0 ≤ D ∧ D < 256) :
    wrap64 ((wrap64 ((wrap64 ((wrap64 A) + (wrap64 (256 * (wrap64 B))))) + (wrap64 (65536 * (wrap64 C))))) + (wrap64 (16777216 * (wrap64 D)))) = A + 256 * B + 65536 * C + 16777216 * D := by
  rw [G.w64 (x := A) hA.1 (by omega), G.w64 (x := B) hB.1 (by omega), G.w64 (x := C) hC.1 (by omega), G.w64 (x := D) hD.1 (by omega), G.w64 (x := 256 * B) (by omega) (by omega), G.w64 (x := 65536 * C) (by omega) (by omega), G.w64 (x := 16777216 * D) (by omega) (by omega), G.w64 (x := A + 256 * B) (by omega) (by omega), G.w64 (x := A + 256 * B + 65536 * C) (by omega) (by omega), G.w64 (by omega) (by omega)]
theorem refnum_eq {l : List Int} (hb : bytesOk l) (hl : l.length ≤ 140737488355328) (a : Nat) (h : a + 4 ≤ l.length) : stratumref21_number.f l (a : Int) = some (num (l.drop a)) := by
  have p := hb _ (rd_mem (l := l) (i := a) (by omega))
  have q := hb _ (rd_mem (l := l) (i := a + 1) (by omega))
  have r := hb _ (rd_mem (l := l) (i := a + 2) (by omega))
  have s := hb _ (rd_mem (l := l) (i := a + 3) (by omega))
  have e : num (l.drop a) = rd l (a : Int) + 256 * rd l ((a + 1 : Nat) : Int) + 65536 * rd l ((a + 2 : Nat) : Int) + 16777216 * rd l ((a + 3 : Nat) : Int) := by
    unfold num
    have d0 := rd_drop l a 0
    have d1 := rd_drop l a 1
    have d2 := rd_drop l a 2
    have d3 := rd_drop l a 3
    simp only [Nat.add_zero] at d0
    rw [← d0, ← d1, ← d2, ← d3]; rfl
  have g0 : (0 : Int) ≤ (a : Int) := by omega
  have g1 : (a : Int) < (l.length : Int) := by omega
  have g2 : (0 : Int) ≤ ((a + 1 : Nat) : Int) := by omega
  have g3 : ((a + 1 : Nat) : Int) < (l.length : Int) := by omega
  have g4 : (0 : Int) ≤ ((a + 2 : Nat) : Int) := by omega
  have g5 : ((a + 2 : Nat) : Int) < (l.length : Int) := by omega
  have g6 : (0 : Int) ≤ ((a + 3 : Nat) : Int) := by omega
  have g7 : ((a + 3 : Nat) : Int) < (l.length : Int) := by omega
  have W1 : Aside0 (wrap64 ((a : Int) + 1) = ((a + 1 : Nat) : Int)) := ⟨by rw [G.w64 (by omega) (by omega)]; rfl⟩
  have W2 : Aside0 (wrap64 ((a : Int) + 2) = ((a + 2 : Nat) : Int)) := ⟨by rw [G.w64 (by omega) (by omega)]; rfl⟩
  have W3 : Aside0 (wrap64 ((a : Int) + 3) = ((a + 3 : Nat) : Int)) := ⟨by rw [G.w64 (by omega) (by omega)]; rfl⟩
  unfold stratumref21_number.f
  rw [W1.out, W2.out, W3.out, if_pos g0, if_pos g1, if_pos g2, if_pos g3, if_pos g4, if_pos g5, if_pos g6, if_pos g7, num_wrap p q r s, e]
def endOf (a : Nat) : Option Nat → Int
  | none => 0
  | some n => ((a + 8 + n : Nat) : Int)
theorem refstands_ev {l : List Int} (hb : bytesOk l) (hl : l.length ≤ 140737488351232) (a : Nat) (h : a ≤ l.length) : Ev (fun k => stratumref21_Stands.f k l (a : Int)) (endOf a (whole (l.drop a))) := by
  have hdl : (l.drop a).length = l.length - a := List.length_drop
  have W1 : Aside0 (wrap64 ((l.length : Int) - (a : Int)) = ((l.length - a : Nat) : Int)) := ⟨by rw [G.w64 (by omega) (by omega)]; omega⟩
  unfold stratumref21_Stands.f
  by_cases c : l.length - a < 8
  · simp only [W1.out, if_pos (show ((l.length - a : Nat) : Int) < 8 by omega)]
    rw [whole_short (by omega)]; exact Ev.now _
  · have bd := bytesOk_drop hb a
    have nr := num_range bd (by omega)
    obtain ⟨N, hN⟩ := Int.eq_ofNat_of_zero_le nr.1
    have n0 := refnum_eq hb (by omega) a (by omega)
    have n4 := refnum_eq hb (by omega) (a + 4) (by omega)
    have W2 : Aside0 (wrap64 (((l.length - a : Nat) : Int) - 8) = ((l.length - a - 8 : Nat) : Int)) := ⟨by rw [G.w64 (by omega) (by omega)]; omega⟩
    have W3 : Aside0 (wrap64 ((a : Int) + 4) = ((a + 4 : Nat) : Int)) := ⟨by rw [G.w64 (by omega) (by omega)]; rfl⟩
    have W4 : Aside0 (wrap64 ((a : Int) + 8) = ((a + 8 : Nat) : Int)) := ⟨by rw [G.w64 (by omega) (by omega)]; rfl⟩
    rw [hN] at n0 nr
    simp only [W1.out, if_neg (show ¬ ((l.length - a : Nat) : Int) < 8 by omega), n0, Option.bind_some]
    unfold whole
    rw [if_neg (by omega), hN]
    by_cases c1 : (N : Int) < 1
    · simp only [if_pos c1]
      rw [if_pos (.inl c1)]; exact Ev.now _
    · simp only [if_neg c1]
      by_cases c2 : (N : Int) > 33554432
      · simp only [if_pos c2]
        rw [if_pos (.inr (.inl c2))]; exact Ev.now _
      · simp only [if_neg c2, W2.out]
        by_cases c3 : ((l.length - a - 8 : Nat) : Int) < (N : Int)
        · simp only [if_pos c3]
          rw [if_pos (.inr (.inr (by omega)))]; exact Ev.now _
        · have W5 : Aside0 (wrap64 (((a + 8 : Nat) : Int) + (N : Int)) = ((a + 8 + N : Nat) : Int)) := ⟨by rw [G.w64 (by omega) (by omega)]; rfl⟩
          simp only [if_neg c3, W3.out, n4, Option.bind_some, W4.out, W5.out]
          rw [if_neg (by omega), Int.toNat_natCast]
          have e1 : ((l.take (a + 8 + N)).drop (a + 8)) = ((l.drop a).drop 8).take N := by
            rw [List.drop_take, List.drop_drop, show a + 8 + N - (a + 8) = N by omega]
          have e2 : (l.drop a).drop 4 = l.drop (a + 4) := List.drop_drop
          have bp : bytesOk (((l.drop a).drop 8).take N) := bytesOk_take (bytesOk_drop bd 8) N
          have pl : (((l.drop a).drop 8).take N).length ≤ 140737488355328 := by rw [List.length_take]; omega
          have cl := crc_lt bp
          simp only [if_pos (show (0 : Int) ≤ ((a + 8 : Nat) : Int) by omega), if_pos (show ((a + 8 : Nat) : Int) ≤ ((a + 8 + N : Nat) : Int) by omega), if_pos (show ((a + 8 + N : Nat) : Int) ≤ (l.length : Int) by omega), Int.toNat_natCast, e1]
          refine Ev.bind (refsum_ev _ bp pl) ?_
          have W6 : wrap64 ((crcN (((l.drop a).drop 8).take N) : Nat) : Int) = ((crcN (((l.drop a).drop 8).take N) : Nat) : Int) := G.w64 (by omega) (by omega)
          rw [e2, W6]
          by_cases c4 : num (l.drop (a + 4)) = ((crcN (((l.drop a).drop 8).take N) : Nat) : Int)
          · simp only [if_pos c4]; exact Ev.now _
          · simp only [if_neg c4]; exact Ev.now _
theorem refscan_ev {l : List Int} (hb : bytesOk l) (hl : l.length ≤ 35184372088832) : Ev (fun k => stratumref21_Scan.f k l) ((scanW l).1, (((scanW l).2 : Nat) : Int)) := by
  have copy : ∀ (out : List (List Int)) (a n : Nat) (res : List (List Int) × Int), a + 8 + n ≤ l.length → out.length < 5864062014805 → Ev (fun k => stratumref21_Scan.l0 k l (out ++ [((l.drop a).drop 8).take n]) ((a + 8 + n : Nat) : Int)) res →
      ∀ (d j : Nat), n - j ≤ d → j ≤ n → Ev (fun k => stratumref21_Scan.l1 k l out ((a + 8 + n : Nat) : Int) (((l.drop a).drop 8).take j) ((a + 8 + j : Nat) : Int)) res := by
    intro out a n res hn ho hres d
    induction d with
    | zero =>
      intro j hd hj
      obtain rfl : j = n := by omega
      refine Ev.step (fun k => by simp only [stratumref21_Scan.l1]; rfl) ?_
      simp only [Int.lt_irrefl, if_false, if_pos ho]
      exact hres
    | succ d ih =>
      intro j hd hj
      by_cases hlt : j < n
      · have ihh := ih (j + 1) (by omega) (by omega)
        have g1 : ((a + 8 + j : Nat) : Int) < ((a + 8 + n : Nat) : Int) := by omega
        have g2 : (0 : Int) ≤ ((a + 8 + j : Nat) : Int) := by omega
        have g3 : ((a + 8 + j : Nat) : Int) < (l.length : Int) := by omega
        have hdl : ((l.drop a).drop 8).length = l.length - a - 8 := by rw [List.length_drop, List.length_drop]
        have g4 : (((l.drop a).drop 8).take j).length < 140737488355328 := by rw [List.length_take]; omega
        have e : ((l.drop a).drop 8).take j ++ [rd l ((a + 8 + j : Nat) : Int)] = ((l.drop a).drop 8).take (j + 1) := by
          rw [List.take_succ_eq_append_getElem (show j < ((l.drop a).drop 8).length by omega)]; congr 2
          have hk : rd ((l.drop a).drop 8) (j : Int) = rd l ((a + 8 + j : Nat) : Int) := by rw [List.drop_drop]; exact rd_drop l (a + 8) j
          rw [← hk]
          unfold rd; rw [Int.toNat_natCast, List.getD_eq_getElem?_getD, List.getElem?_eq_getElem (show j < ((l.drop a).drop 8).length by omega)]; rfl
        have W : Aside0 (wrap64 (((a + 8 + j : Nat) : Int) + 1) = ((a + 8 + (j + 1) : Nat) : Int)) := ⟨by rw [G.w64 (by omega) (by omega)]; rfl⟩
        refine Ev.step (fun k => by simp only [stratumref21_Scan.l1]; rfl) ?_
        simp only [if_pos g1, if_pos g2, if_pos g3, if_pos g4, e, W.out]
        exact ihh
      · exact ih j (by omega) hj
  have key : ∀ (d a : Nat) (out : List (List Int)), l.length - a ≤ d → a ≤ l.length → 8 * out.length ≤ a → Ev (fun k => stratumref21_Scan.l0 k l out (a : Int)) (out ++ (scanW (l.drop a)).1, (((scanW (l.drop a)).2 + a : Nat) : Int)) := by
    intro d
    induction d with
    | zero =>
      intro a out hd ha ho
      have hw : whole (l.drop a) = none := whole_short (by rw [List.length_drop]; omega)
      refine Ev.step (fun k => by simp only [stratumref21_Scan.l0]; rfl) ?_
      refine Ev.bind (refstands_ev hb (by omega) a ha) ?_
      rw [hw, scanW_none hw]
      simp only [endOf, if_true, List.append_nil, Nat.zero_add]
      exact Ev.now _
    | succ d ih =>
      intro a out hd ha ho
      refine Ev.step (fun k => by simp only [stratumref21_Scan.l0]; rfl) ?_
      refine Ev.bind (refstands_ev hb (by omega) a ha) ?_
      cases hw : whole (l.drop a) with
      | none =>
        rw [scanW_none hw]
        simp only [endOf, if_true, List.append_nil, Nat.zero_add]
        exact Ev.now _
      | some n =>
        have hn := whole_len hw
        rw [List.length_drop] at hn
        have g1 : ¬ ((a + 8 + n : Nat) : Int) = 0 := by omega
        have W : Aside0 (wrap64 ((a : Int) + 8) = ((a + 8 + 0 : Nat) : Int)) := ⟨by rw [G.w64 (by omega) (by omega)]; rfl⟩
        have ihh := ih (a + 8 + n) (out ++ [((l.drop a).drop 8).take n]) (by omega) (by omega) (by rw [List.length_append, List.length_singleton]; omega)
        have c := copy out a n _ (by omega) (by omega) ihh n 0 (by omega) (by omega)
        rw [List.take_zero] at c
        rw [scanW_some hw]
        simp only [endOf, if_neg g1, W.out]
        have e1 : (l.drop a).drop (8 + n) = l.drop (a + 8 + n) := by rw [List.drop_drop, Nat.add_assoc]
        rw [e1]
        have e2 : out ++ (((l.drop a).drop 8).take n :: (scanW (l.drop (a + 8 + n))).1) = out ++ [((l.drop a).drop 8).take n] ++ (scanW (l.drop (a + 8 + n))).1 := by simp
        rw [e2, show (scanW (l.drop (a + 8 + n))).2 + (8 + n) + a = (scanW (l.drop (a + 8 + n))).2 + (a + 8 + n) by omega]
        exact c
  have h0 := key l.length 0 [] (by omega) (by omega) (by simp)
  rw [List.drop_zero, List.nil_append, Nat.add_zero] at h0
  exact h0
end Go.Proofs.YtoddldamekamoaaDoor.F
