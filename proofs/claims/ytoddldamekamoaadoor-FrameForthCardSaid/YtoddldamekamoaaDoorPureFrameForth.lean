/- What Scan takes is just the frames of what it answers; at the place that it tells none stands. Stated over the printed functions. No condition but the law's own. -/
import Derived.Test.YtoddldamekamoaaDoorF1
import Derived.Test.YtoddldamekamoaaDoorX7
set_option linter.unusedVariables false
set_option linter.unusedSimpArgs false
namespace Go.Proofs.YtoddldamekamoaaDoor.Pure
open Go.RowKit Go.Proofs.YtoddldamekamoaaDoor.X Go.Proofs.YtoddldamekamoaaDoor.G Go.Proofs.YtoddldamekamoaaDoor.F Go.Proofs.YtoddldamekamoaaDoorW.PrintWords Go.Proofs.YtoddldamekamoaaDoorW.PrintLast Go.Proofs.YtoddldamekamoaaDoorW.PrintMore

theorem FrameForth (l0 : List Int) (hl : l0.length * 1 ≤ 140737488351232) (hw : ∀ x ∈ l0, (Lit.int .u8 x).wf = true) : ∃ k, stratumlaw21_FrameForth.f k l0 T = some true := by
  have hb : bytesOk l0 := fun c hc => by have := Go.bounds_u8 (hw c hc); omega
  refine Ev.rounds ?_
  unfold stratumlaw21_FrameForth.f
  refine Ev.bind awake_ev ?_
  simp only [if_true]
  refine Ev.step (fun k => by simp only [stratumlaw21_FrameForth.j0]; rfl) ?_
  by_cases big : (l0.length : Int) > 16777216
  · simp only [decide_eq_true big, if_true]
    exact Ev.now _
  · have hlen : l0.length ≤ 16777216 := by omega
    simp only [decide_eq_false big, Bool.false_eq_true, if_false, copied_eq (l := l0) (by omega), scan_eq hb (by omega), Option.bind_some]
    have s := scanned l0.length l0 (Nat.le_refl _) hb
    obtain ⟨r, hr⟩ : ∃ r, r = scanW l0 := ⟨_, rfl⟩
    rw [← hr] at s ⊢
    have flen : (frames r.1).length = r.2 := by rw [s.eq, List.length_take_of_le s.le]
    have sle := s.le
    have j2 : Ev (fun k => stratumlaw21_FrameForth.j2 k l0 (r.2 : Int) false T) true := by
      have g1 : (0 : Int) ≤ (r.2 : Int) := by omega
      have g2 : (r.2 : Int) ≤ (l0.length : Int) := by omega
      have hdl : (l0.drop r.2).length ≤ l0.length := by rw [List.length_drop]; omega
      refine Ev.step (fun k => by simp only [stratumlaw21_FrameForth.j2]; rfl) ?_
      simp only [Bool.false_eq_true, if_false, if_pos g1, if_pos g2, Int.toNat_natCast, copied_eq (l := l0.drop r.2) (by omega), scan_eq (bytesOk_drop hb r.2) (by omega), Option.bind_some, s.rest]
      exact Ev.now _
    have hcnt : ∀ (i : Nat), i ≤ r.1.length → (frames (r.1.take i)).length ≤ r.2 := by
      intro i hi
      rw [← flen, ← List.take_append_drop i r.1, frames_append, List.take_append_drop, List.length_append]
      omega
    have key : ∀ (d i : Nat), r.1.length - i ≤ d → i ≤ r.1.length → Ev (fun k => stratumlaw21_FrameForth.l0 k l0 r.1 (r.2 : Int) (frames (r.1.take i)) (i : Int) T) true := by
      intro d
      induction d with
      | zero =>
        intro i hd hi
        obtain rfl : i = r.1.length := by omega
        have g1 : (r.2 : Int) = ((frames r.1).length : Int) := by rw [flen]
        have g2 : ¬ (r.2 : Int) > (l0.length : Int) := by omega
        have g3 : (0 : Int) ≤ (r.2 : Int) := by omega
        have g4 : (r.2 : Int) ≤ (l0.length : Int) := by omega
        refine Ev.step (fun k => by simp only [stratumlaw21_FrameForth.l0]; rfl) ?_
        rw [List.take_length]
        simp only [Int.lt_irrefl, if_false, if_pos g1, if_neg g2, if_pos g3, if_pos g4, Int.toNat_natCast]
        refine Ev.bind (same_ev _ _ (by rw [flen]; omega)) ?_
        rw [decide_eq_true s.eq]
        exact j2
      | succ d ih =>
        intro i hd hi
        by_cases hlt : i < r.1.length
        · have ihh := ih (i + 1) (by omega) (by omega)
          obtain ⟨ok1, ok2, ok3⟩ := s.ok _ (rd1_mem hlt)
          have g1 : (i : Int) < (r.1.length : Int) := by omega
          have g2 : (0 : Int) ≤ (i : Int) := by omega
          have htk : frames (r.1.take (i + 1)) = frames (r.1.take i) ++ frameOf (rd_L1 r.1 (i : Int)) := by
            have e : r.1.take (i + 1) = r.1.take i ++ [rd_L1 r.1 (i : Int)] := by
              rw [List.take_succ_eq_append_getElem hlt]; congr 2
              unfold rd_L1; rw [Int.toNat_natCast, List.getD_eq_getElem?_getD, List.getElem?_eq_getElem hlt]; rfl
            rw [e, frames_append]; unfold frames; simp
          have c1 := hcnt (i + 1) (by omega)
          rw [htk, List.length_append] at c1
          have g3 : (frames (r.1.take i)).length + (frameOf (rd_L1 r.1 (i : Int))).length < 140737488355328 := by omega
          have ne : rd_L1 r.1 (i : Int) ≠ [] := fun e => by rw [e] at ok2; simp at ok2
          rw [htk] at ihh
          have hw1 : wrap64 ((i : Int) + 1) = ((i + 1 : Nat) : Int) := by
            have := count_le r.1; rw [flen] at this
            rw [G.w64 (by omega) (by omega)]; rfl
          refine Ev.step (fun k => by simp only [stratumlaw21_FrameForth.l0]; rfl) ?_
          simp only [if_pos g1, if_pos g2, enc_eq ok1 ne ok3, Option.bind_some, if_true, if_pos g3, hw1]
          exact ihh
        · exact ih i (by omega) hi
    have h0 := key r.1.length 0 (by omega) (by omega)
    rw [List.take_zero] at h0
    exact h0
end Go.Proofs.YtoddldamekamoaaDoor.Pure
