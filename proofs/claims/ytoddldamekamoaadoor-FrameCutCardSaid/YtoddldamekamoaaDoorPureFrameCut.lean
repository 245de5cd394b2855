/- Of bytes that are cut: the payloads whose frames end at or ahead of the cut. Stated over the printed functions. No condition but the law's own. -/
import Derived.Test.YtoddldamekamoaaDoorF1
import Derived.Test.YtoddldamekamoaaDoorX8
set_option linter.unusedVariables false
set_option linter.unusedSimpArgs false
namespace Go.Proofs.YtoddldamekamoaaDoor.Pure
open Go.RowKit Go.Proofs.YtoddldamekamoaaDoor.X Go.Proofs.YtoddldamekamoaaDoor.G Go.Proofs.YtoddldamekamoaaDoor.F Go.Proofs.YtoddldamekamoaaDoorW.PrintWords Go.Proofs.YtoddldamekamoaaDoorW.PrintLast Go.Proofs.YtoddldamekamoaaDoorW.PrintMore

theorem cut_sub : ∀ (l : List (List Int)) (c : Nat), (cut l c).1.length ≤ l.length
  | [], _ => by simp [cut]
  | p :: t, c => by
    simp only [cut]
    split
    · have := cut_sub t (c - (8 + p.length)); simp only [List.length_cons]; omega
    · exact Nat.zero_le _
theorem cut_mem : ∀ (l : List (List Int)) (c : Nat), ∀ r ∈ (cut l c).1, r ∈ l
  | [], _ => by simp [cut]
  | p :: t, c => by
    simp only [cut]
    split
    · intro r hr
      rcases List.mem_cons.1 hr with rfl | hr
      · simp
      · exact List.mem_cons_of_mem _ (cut_mem t _ r hr)
    · simp
theorem FrameCut (l0 : List Int) (a1 : Int) (hl : l0.length * 1 ≤ 140737488351232) (hw : ∀ x ∈ l0, (Lit.int .u8 x).wf = true) (y1 : (Lit.int .i64 a1).wf = true) : ∃ k, stratumlaw21_FrameCut.f k l0 a1 T = some true := by
  have hb : bytesOk l0 := fun c hc => by have := Go.bounds_u8 (hw c hc); omega
  have j0t : Ev (fun k => stratumlaw21_FrameCut.j0 k l0 a1 true true T) true := by
    refine Ev.step (fun k => by simp only [stratumlaw21_FrameCut.j0]; rfl) ?_
    simp only [if_true]
    exact Ev.now _
  refine Ev.rounds ?_
  unfold stratumlaw21_FrameCut.f
  refine Ev.bind awake_ev ?_
  simp only [if_true]
  by_cases big : (l0.length : Int) > 16777216
  · simp only [if_pos big]; exact j0t
  · simp only [if_neg big]
    by_cases neg : a1 < 0
    · simp only [if_pos neg]; exact j0t
    · simp only [if_neg neg]
      by_cases gt : a1 > (l0.length : Int)
      · rw [decide_eq_true gt]; exact j0t
      · rw [decide_eq_false gt]
        have hlen : l0.length ≤ 16777216 := by omega
        obtain ⟨c, rfl⟩ := Int.eq_ofNat_of_zero_le (show 0 ≤ a1 by omega)
        have g1 : (0 : Int) ≤ (c : Int) := by omega
        have g2 : (c : Int) ≤ (l0.length : Int) := by omega
        have htl : (l0.take c).length ≤ l0.length := by rw [List.length_take]; omega
        have s := scanned l0.length l0 (Nat.le_refl _) hb
        have hc := scan_cut l0.length l0 (Nat.le_refl _) c
        refine Ev.step (fun k => by simp only [stratumlaw21_FrameCut.j0]; rfl) ?_
        simp only [Bool.false_eq_true, if_false, copied_eq (l := l0) (by omega), scan_eq hb (by omega), Option.bind_some, if_pos g1, if_pos g2, Int.toNat_natCast, copied_eq (l := l0.take c) (by omega), scan_eq (bytesOk_take hb c) (by omega), hc]
        clear hc big neg gt
        obtain ⟨r, hr⟩ : ∃ r, r = scanW l0 := ⟨_, rfl⟩
        rw [← hr] at s ⊢
        clear hr
        have flen : (frames r.1).length = r.2 := by rw [s.eq, List.length_take_of_le s.le]
        have sle := s.le
        have cnt := count_le r.1
        have sok := s.ok
        obtain ⟨L, hL⟩ : ∃ L, L = r.1 := ⟨_, rfl⟩
        rw [← hL] at cnt sok ⊢
        have cnt2 : L.length ≤ 16777216 := by rw [← hL] at flen; omega
        clear hL flen s cnt sle
        obtain ⟨K, hK⟩ : ∃ K, K = cut L c := ⟨_, rfl⟩
        rw [← hK]
        have hKl : K.1.length ≤ 4611686018427387904 := by rw [hK]; have := cut_sub L c; omega
        have hKr : ∀ q ∈ K.1, q.length ≤ 4611686018427387904 := by
          intro q hq
          rw [hK] at hq
          have := sok q (cut_mem L c q hq)
          omega
        have key : ∀ (d i e : Nat), L.length - i ≤ d → i ≤ L.length → e ≤ c → K.1 = L.take i ++ (cut (L.drop i) (c - e)).1 → K.2 = e + (cut (L.drop i) (c - e)).2 → Ev (fun k => stratumlaw21_FrameCut.l0 k (c : Int) L K.1 (K.2 : Int) (i : Int) (e : Int)) true := by
          intro d
          induction d with
          | zero =>
            intro i e hd hi he h1 h2
            obtain rfl : i = L.length := by omega
            rw [List.drop_length] at h1 h2
            simp only [cut, List.append_nil, Nat.add_zero, List.take_length] at h1 h2
            have q1 : (K.2 : Int) = (e : Int) := by omega
            have q2 : (0 : Int) ≤ (L.length : Int) := by omega
            have q3 : (L.length : Int) ≤ (L.length : Int) := by omega
            refine Ev.step (fun k => by simp only [stratumlaw21_FrameCut.l0]; rfl) ?_
            simp only [Int.lt_irrefl, if_false, if_pos q1, if_pos q2, if_pos q3, Int.toNat_natCast, List.take_length]
            refine Ev.bind (alike_ev _ _ hKl hKr) ?_
            rw [decide_eq_true h1]
            exact Ev.now _
          | succ d ih =>
            intro i e hd hi he h1 h2
            by_cases hlt : i < L.length
            · have hmem := sok _ (rd1_mem hlt)
              obtain ⟨p, hp⟩ : ∃ p, p = rd_L1 L (i : Int) := ⟨_, rfl⟩
              rw [drop_rd1 hlt, ← hp] at h1 h2
              rw [← hp] at hmem
              simp only [cut] at h1 h2
              have g3 : (i : Int) < (L.length : Int) := by omega
              have g4 : (0 : Int) ≤ (i : Int) := by omega
              have g5 : (i : Int) ≤ (L.length : Int) := by omega
              have hp3 : p.length ≤ 33554432 := hmem.2.2
              by_cases cc : 8 + p.length ≤ c - e
              · rw [if_pos cc] at h1 h2
                have e1 : L.take (i + 1) = L.take i ++ [p] := by
                  rw [List.take_succ_eq_append_getElem hlt]; congr 2
                  rw [hp]; unfold rd_L1; rw [Int.toNat_natCast, List.getD_eq_getElem?_getD, List.getElem?_eq_getElem hlt]; rfl
                have ihh := ih (i + 1) (e + (8 + p.length)) (by omega) (by omega) (by omega)
                  (by rw [h1, e1, List.append_assoc, List.singleton_append, show c - (e + (8 + p.length)) = c - e - (8 + p.length) by omega])
                  (by rw [h2, show c - (e + (8 + p.length)) = c - e - (8 + p.length) by omega]; omega)
                have g6 : ((e + (8 + p.length) : Nat) : Int) ≤ (c : Int) := by omega
                have W1 : Aside0 (wrap64 ((e : Int) + 8) = ((e + 8 : Nat) : Int)) := ⟨by rw [G.w64 (by omega) (by omega)]; rfl⟩
                have W2 : Aside0 (wrap64 (((e + 8 : Nat) : Int) + (p.length : Int)) = ((e + (8 + p.length) : Nat) : Int)) := ⟨by rw [G.w64 (by omega) (by omega)]; omega⟩
                have W3 : Aside0 (wrap64 ((i : Int) + 1) = ((i + 1 : Nat) : Int)) := ⟨by rw [G.w64 (by omega) (by omega)]; rfl⟩
                refine Ev.step (fun k => by simp only [stratumlaw21_FrameCut.l0]; rfl) ?_
                simp only [if_pos g3, if_pos g4, ← hp, W1.out, W2.out, if_pos g6, W3.out]
                exact ihh
              · rw [if_neg cc] at h1 h2
                simp only [List.append_nil, Nat.add_zero] at h1 h2
                have q1 : (K.2 : Int) = (e : Int) := by omega
                have g6 : ¬ ((e + (8 + p.length) : Nat) : Int) ≤ (c : Int) := by omega
                have W1 : Aside0 (wrap64 ((e : Int) + 8) = ((e + 8 : Nat) : Int)) := ⟨by rw [G.w64 (by omega) (by omega)]; rfl⟩
                have W2 : Aside0 (wrap64 (((e + 8 : Nat) : Int) + (p.length : Int)) = ((e + (8 + p.length) : Nat) : Int)) := ⟨by rw [G.w64 (by omega) (by omega)]; omega⟩
                refine Ev.step (fun k => by simp only [stratumlaw21_FrameCut.l0]; rfl) ?_
                simp only [if_pos g3, if_pos g4, ← hp, W1.out, W2.out, if_neg g6, if_pos q1, if_pos g5, Int.toNat_natCast]
                refine Ev.bind (alike_ev _ _ hKl hKr) ?_
                rw [decide_eq_true h1]
                exact Ev.now _
            · exact ih i e (by omega) hi he h1 h2
        exact key L.length 0 0 (by omega) (by omega) (by omega) (by rw [List.take_zero, List.drop_zero, Nat.sub_zero, List.nil_append, hK]) (by rw [List.drop_zero, Nat.sub_zero, Nat.zero_add, hK])
end Go.Proofs.YtoddldamekamoaaDoor.Pure
