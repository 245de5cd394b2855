/- The machine's side of the laws of this seat: for each Go function a Lean function of lists and numbers, and that the call answers what it answers. No condition but those in the theorems. -/
import Derived.Test.YtjplkgkkokcgjaaX0
namespace Go.Proofs.Ytjplkgkkokcgjaa.X
open Go.RowKit Go.Proofs.YtjplkgkkokcgjaaW.PrintWords Go.Proofs.YtjplkgkkokcgjaaW.PrintLast Go.Proofs.YtjplkgkkokcgjaaW.PrintMore
attribute [local go_sem] max2_int min2_int max_two min_two max_three min_three max_four min_four   -- for this text's walks alone
set_option linter.unusedVariables false
set_option linter.unusedSimpArgs false

/-! ### stratumref03_more: function 24 -/
def stratumref03_more.f (a0 : Int) (a1 : ByteArray) (a2 : Int) : Option (Int) := if a0 < 0 then (some (-1)) else (if a2 ≥ (a1.size : Int) then (some (-1)) else (if 0 ≤ a2 then (if a2 < (a1.size : Int) then (if (bt a1 a2) < 128 then (some (-1)) else (if (bt a1 a2) > 191 then (some (-1)) else (some (wrap64 ((wrap64 ((wrap64 (a0 * 64)) + (wrap64 (bt a1 a2)))) - 128))))) else (none)) else (none)))
set_option maxHeartbeats 8000000 in
set_option maxRecDepth 100000 in
theorem stratumref03_more.calls (a0 : Int) (a1 : ByteArray) (a2 : Int) (r : Int) (w : World) (h : stratumref03_more.f a0 a1 a2 = some r) :
    Calls Try.prog 24 #[.int .i64 a0, .string a1, .int .i64 a2] w fun e w' => e = .returned (.int .i64 r) ∧ Drawn0 w w' := by
  have H : (if a0 < 0 then (some (-1)) else (if a2 ≥ (a1.size : Int) then (some (-1)) else (if 0 ≤ a2 then (if a2 < (a1.size : Int) then (if (bt a1 a2) < 128 then (some (-1)) else (if (bt a1 a2) > 191 then (some (-1)) else (some (wrap64 ((wrap64 ((wrap64 (a0 * 64)) + (wrap64 (bt a1 a2)))) - 128))))) else (none)) else (none)))) = some r := h
  clear h
  by_cases c4 : a0 < 0
  · rw [if_pos c4] at H
    have c4b0 : decide (a0 < 0) = true := decide_eq_true c4
    clear c4
    obtain rfl := Option.some.inj H
    go_enter Try.func24, Try.ntmps24
    go_wp2
    go_ret
    exact ⟨by first | rfl | (simp; done) | (simp [*]; done), by repeat (first | exact Drawn0.refl _ | apply Drawn0.step)⟩
  · rw [if_neg c4] at H
    have c4b0 : decide (a0 < 0) = false := decide_eq_false c4
    clear c4
    by_cases c5 : a2 ≥ (a1.size : Int)
    · rw [if_pos c5] at H
      have c5b0 : decide ((a1.size : Int) ≤ a2) = true := decide_eq_true c5
      clear c5
      obtain rfl := Option.some.inj H
      go_enter Try.func24, Try.ntmps24
      go_wp2
      go_ret
      exact ⟨by first | rfl | (simp; done) | (simp [*]; done), by repeat (first | exact Drawn0.refl _ | apply Drawn0.step)⟩
    · rw [if_neg c5] at H
      have c5b0 : decide ((a1.size : Int) ≤ a2) = false := decide_eq_false c5
      clear c5
      by_cases c6 : 0 ≤ a2
      · rw [if_pos c6] at H
        have c6b0 : decide (0 ≤ a2) = true := decide_eq_true c6
        clear c6
        by_cases c7 : a2 < (a1.size : Int)
        · rw [if_pos c7] at H
          have c7b0 : decide (a2 < (a1.size : Int)) = true := decide_eq_true c7
          clear c7
          by_cases c9 : (bt a1 a2) < 128
          · rw [if_pos c9] at H
            have c9b0 : decide ((bt a1 a2) < 128) = true := decide_eq_true c9
            clear c9
            obtain rfl := Option.some.inj H
            have p8 : 0 ≤ (a2 : Int) := of_decide_eq_true (by first | (with_reducible assumption) | assumption)
            have q8 : a2 < (a1.size : Int) := of_decide_eq_true (by first | (with_reducible assumption) | assumption)
            have hx8 := bt_at a1 a2
            replace p8 := eq_true p8
            replace q8 := eq_true q8
            go_enter Try.func24, Try.ntmps24
            go_wp2
            go_ret
            exact ⟨by first | rfl | (simp; done) | (simp [*]; done), by repeat (first | exact Drawn0.refl _ | apply Drawn0.step)⟩
          · rw [if_neg c9] at H
            have c9b0 : decide ((bt a1 a2) < 128) = false := decide_eq_false c9
            clear c9
            by_cases c11 : (bt a1 a2) > 191
            · rw [if_pos c11] at H
              have c11b0 : decide (191 < (bt a1 a2)) = true := decide_eq_true c11
              clear c11
              obtain rfl := Option.some.inj H
              have p8 : 0 ≤ (a2 : Int) := of_decide_eq_true (by first | (with_reducible assumption) | assumption)
              have q8 : a2 < (a1.size : Int) := of_decide_eq_true (by first | (with_reducible assumption) | assumption)
              have hx8 := bt_at a1 a2
              replace p8 := eq_true p8
              replace q8 := eq_true q8
              have p10 : 0 ≤ (a2 : Int) := of_decide_eq_true (by first | (with_reducible assumption) | assumption)
              have q10 : a2 < (a1.size : Int) := of_decide_eq_true (by first | (with_reducible assumption) | assumption)
              have hx10 := bt_at a1 a2
              replace p10 := eq_true p10
              replace q10 := eq_true q10
              go_enter Try.func24, Try.ntmps24
              go_wp2
              go_ret
              exact ⟨by first | rfl | (simp; done) | (simp [*]; done), by repeat (first | exact Drawn0.refl _ | apply Drawn0.step)⟩
            · rw [if_neg c11] at H
              have c11b0 : decide (191 < (bt a1 a2)) = false := decide_eq_false c11
              clear c11
              obtain rfl := Option.some.inj H
              have p8 : 0 ≤ (a2 : Int) := of_decide_eq_true (by first | (with_reducible assumption) | assumption)
              have q8 : a2 < (a1.size : Int) := of_decide_eq_true (by first | (with_reducible assumption) | assumption)
              have hx8 := bt_at a1 a2
              replace p8 := eq_true p8
              replace q8 := eq_true q8
              have p10 : 0 ≤ (a2 : Int) := of_decide_eq_true (by first | (with_reducible assumption) | assumption)
              have q10 : a2 < (a1.size : Int) := of_decide_eq_true (by first | (with_reducible assumption) | assumption)
              have hx10 := bt_at a1 a2
              replace p10 := eq_true p10
              replace q10 := eq_true q10
              have p12 : 0 ≤ (a2 : Int) := of_decide_eq_true (by first | (with_reducible assumption) | assumption)
              have q12 : a2 < (a1.size : Int) := of_decide_eq_true (by first | (with_reducible assumption) | assumption)
              have hx12 := bt_at a1 a2
              replace p12 := eq_true p12
              replace q12 := eq_true q12
              go_enter Try.func24, Try.ntmps24
              go_wp2
              go_ret
              exact ⟨by first | rfl | (simp; done) | (simp [*]; done), by repeat (first | exact Drawn0.refl _ | apply Drawn0.step)⟩
        · rw [if_neg c7] at H
          exact absurd H (by simp)
      · rw [if_neg c6] at H
        exact absurd H (by simp)

end Go.Proofs.Ytjplkgkkokcgjaa.X
