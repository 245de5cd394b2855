/- A frame with one byte of its sum or payload turned is none. Stated over the printed functions. No condition but the law's own. -/
import Derived.Test.YtoddldamekamoaaDoorF1
import Derived.Test.YtoddldamekamoaaDoorX8
set_option linter.unusedVariables false
set_option linter.unusedSimpArgs false
namespace Go.Proofs.YtoddldamekamoaaDoor.Pure
open Go.RowKit Go.Proofs.YtoddldamekamoaaDoor.X Go.Proofs.YtoddldamekamoaaDoor.G Go.Proofs.YtoddldamekamoaaDoor.F Go.Proofs.YtoddldamekamoaaDoorW.PrintWords Go.Proofs.YtoddldamekamoaaDoorW.PrintLast Go.Proofs.YtoddldamekamoaaDoorW.PrintMore

theorem xor8 {y x : Int} (hy : 0 ≤ y ∧ y < 256) (hx : 0 ≤ x ∧ x < 256) (h : x ≠ 0) : (0 ≤ Go.bits .xor .u8 y x ∧ Go.bits .xor .u8 y x < 256) ∧ y ≠ Go.bits .xor .u8 y x := by
  have e : Go.bits .xor .u8 y x = ((y.toNat ^^^ x.toNat : Nat) : Int) := u8_xor y x hy.1 hy.2 hx.1 hx.2
  have lt : y.toNat ^^^ x.toNat < 2 ^ 8 := Nat.xor_lt_two_pow (by omega) (by omega)
  rw [e]
  refine ⟨by omega, fun h2 => h ?_⟩
  have h3 : y.toNat ^^^ 0 = y.toNat ^^^ x.toNat := by rw [Nat.xor_zero]; omega
  have := C.xor_cancel h3
  omega
theorem FrameTurned (l0 : List Int) (a1 a2 : Int) (hl : l0.length * 1 ≤ 140737488351232) (hw : ∀ x ∈ l0, (Lit.int .u8 x).wf = true) (y1 : (Lit.int .i64 a1).wf = true) (y2 : (Lit.int .u8 a2).wf = true) : ∃ k, stratumlaw21_FrameTurned.f k l0 a1 a2 T = some true := by
  have hb : bytesOk l0 := fun c hc => by have := Go.bounds_u8 (hw c hc); omega
  have h2 := Go.bounds_u8 y2
  refine Ev.rounds ?_
  unfold stratumlaw21_FrameTurned.f
  refine Ev.bind awake_ev ?_
  simp only [if_true]
  refine Ev.step (fun k => by simp only [stratumlaw21_FrameTurned.j0]; rfl) ?_
  by_cases big : (l0.length : Int) > 1048576
  · simp only [decide_eq_true big, if_true]
    exact Ev.now _
  · have hlen : l0.length ≤ 1048576 := by omega
    simp only [decide_eq_false big, Bool.false_eq_true, if_false, copied_eq (l := l0) (by omega), Option.bind_some]
    by_cases h0 : l0 = []
    · subst h0
      rw [enc_empty]
      simp only [Option.bind_some, show ¬ ((1 : Int) = 0) by omega, if_false]
      refine Ev.step (fun k => by simp only [stratumlaw21_FrameTurned.j1]; rfl) ?_
      simp only [if_true, show ¬ ((1 : Int) = 0) by omega, if_false]
      exact Ev.now _
    · have hp : 1 ≤ l0.length := by have := List.length_pos_iff.2 h0; omega
      rw [enc_eq hb h0 (by omega)]
      have fl := frameOf_len l0
      have ht : Ev (fun k => stratumlaw21_FrameTurned.j1 k l0 a1 a2 (frameOf l0) 0 true T) true := by
        refine Ev.step (fun k => by simp only [stratumlaw21_FrameTurned.j1]; rfl) ?_
        simp only [if_true]
        exact Ev.now _
      simp only [Option.bind_some, if_true]
      by_cases z : a2 = 0
      · simp only [if_pos z]; exact ht
      · simp only [if_neg z]
        by_cases c4 : a1 < 4
        · simp only [if_pos c4]; exact ht
        · simp only [if_neg c4]
          by_cases cl : a1 ≥ ((frameOf l0).length : Int)
          · rw [decide_eq_true cl]; exact ht
          · rw [decide_eq_false cl]
            obtain ⟨j, rfl⟩ := Int.eq_ofNat_of_zero_le (show 0 ≤ a1 by omega)
            have hj : j < (frameOf l0).length := by omega
            have hok := frameOf_ok hb
            obtain ⟨r1, r2⟩ := xor8 (hok _ (rd_mem hj)) (show 0 ≤ a2 ∧ a2 < 256 by omega) z
            have hwn := whole_turn hb hp (by omega) (show 4 ≤ j by omega) hj r1 r2
            have g1 : (0 : Int) ≤ (j : Int) := by omega
            have g2 : (j : Int) < ((frameOf l0).length : Int) := by omega
            have hso : bytesOk ((frameOf l0).set j (Go.bits .xor .u8 (rd (frameOf l0) (j : Int)) a2)) := by
              intro c hc
              rcases List.mem_or_eq_of_mem_set hc with hc | rfl
              · exact hok c hc
              · exact r1
            have hs := scan_eq hso (by rw [List.length_set]; omega)
            rw [scanW_none hwn] at hs
            refine Ev.step (fun k => by simp only [stratumlaw21_FrameTurned.j1]; rfl) ?_
            simp only [Bool.false_eq_true, if_false, copied_eq (l := frameOf l0) (by omega), Option.bind_some, if_pos g1, if_pos g2, Int.toNat_natCast, hs]
            exact Ev.now _
end Go.Proofs.YtoddldamekamoaaDoor.Pure
