/- The machine's side of the laws of this seat: for each Go function a Lean function of lists and numbers, and that the call answers what it answers. No condition but those in the theorems. -/
import Derived.Test.YtedhkelochpdnaaX0
import Derived.Test.YtedhkelochpdnaaX5
namespace Go.Proofs.Ytedhkelochpdnaa.X
open Go.RowKit Go.Proofs.YtedhkelochpdnaaW.PrintWords Go.Proofs.YtedhkelochpdnaaW.PrintLast Go.Proofs.YtedhkelochpdnaaW.PrintMore
attribute [local go_sem] max2_int min2_int max_two min_two max_three min_three max_four min_four   -- for this text's walks alone
set_option linter.unusedVariables false
set_option linter.unusedSimpArgs false

/-! ### stratumref08_skip: function 20 -/
mutual
def stratumref08_skip.l0 : Nat → ByteArray → Int → Option (Int)
  | 0, _, _ => none
  | k + 1, x0, x1 => if x1 < (x0.size : Int) then (if 0 ≤ x1 then ((stratumref08_Blank.f (bt x0 x1)).bind fun t203 => (if t203 = true then (stratumref08_skip.l0 k x0 (wrap64 (x1 + 1))) else (if (bt x0 x1) = 35 then (stratumref08_skip.l1 k x0 x1) else (some x1)))) else (none)) else (some x1)
def stratumref08_skip.l1 : Nat → ByteArray → Int → Option (Int)
  | 0, _, _ => none
  | k + 1, x0, x1 => if x1 < (x0.size : Int) then (if 0 ≤ x1 then (if (bt x0 x1) = 10 then (stratumref08_skip.l0 k x0 x1) else (stratumref08_skip.l1 k x0 (wrap64 (x1 + 1)))) else (none)) else (stratumref08_skip.l0 k x0 x1)
end
def stratumref08_skip.f (k : Nat) (a0 : ByteArray) (a1 : Int) : Option (Int) := stratumref08_skip.l0 k a0 a1
theorem stratumref08_skip.mono_l : ∀ k, (∀ y0 y1, LeO (stratumref08_skip.l0 k y0 y1) (stratumref08_skip.l0 (k + 1) y0 y1)) ∧ (∀ y0 y1, LeO (stratumref08_skip.l1 k y0 y1) (stratumref08_skip.l1 (k + 1) y0 y1))
  | 0 => ⟨fun _ _ r h => by simp [stratumref08_skip.l0] at h, fun _ _ r h => by simp [stratumref08_skip.l1] at h⟩
  | k + 1 => by
    obtain ⟨ih0, ih1⟩ := stratumref08_skip.mono_l k
    refine ⟨?_, ?_⟩
    · intro y0 y1
      unfold stratumref08_skip.l0
      repeat' first
      | (with_reducible exact ih0 _ _)
      | (with_reducible exact ih1 _ _)
      | (with_reducible exact LeO.refl _)
      | (with_reducible exact LeO.none _)
      | (with_reducible refine LeO.ite ?_ ?_)
      | (with_reducible refine LeO.bind ?_ (fun _ => ?_))
      | exact ih0 _ _
      | exact ih1 _ _
      | exact LeO.none _
      | refine LeO.ite ?_ ?_
      | refine LeO.bind ?_ (fun _ => ?_)
    · intro y0 y1
      unfold stratumref08_skip.l1
      repeat' first
      | (with_reducible exact ih0 _ _)
      | (with_reducible exact ih1 _ _)
      | (with_reducible exact LeO.refl _)
      | (with_reducible exact LeO.none _)
      | (with_reducible refine LeO.ite ?_ ?_)
      | (with_reducible refine LeO.bind ?_ (fun _ => ?_))
      | exact ih0 _ _
      | exact ih1 _ _
      | exact LeO.none _
      | refine LeO.ite ?_ ?_
      | refine LeO.bind ?_ (fun _ => ?_)
theorem stratumref08_skip.mono : ∀ a0 a1 k, LeO (stratumref08_skip.f k a0 a1) (stratumref08_skip.f (k + 1) a0 a1) := by
  intro a0 a1 k
  obtain ⟨ih0, ih1⟩ := stratumref08_skip.mono_l k
  unfold stratumref08_skip.f
  repeat' first
      | (with_reducible exact ih0 _ _)
      | (with_reducible exact ih1 _ _)
      | (with_reducible exact LeO.refl _)
      | (with_reducible exact LeO.none _)
      | (with_reducible refine LeO.ite ?_ ?_)
      | (with_reducible refine LeO.bind ?_ (fun _ => ?_))
      | exact ih0 _ _
      | exact ih1 _ _
      | exact LeO.none _
      | refine LeO.ite ?_ ?_
      | refine LeO.bind ?_ (fun _ => ?_)
set_option maxHeartbeats 8000000 in
set_option maxRecDepth 100000 in
theorem stratumref08_skip.calls (k : Nat) (a0 : ByteArray) (a1 : Int) (r : Int) (w : World) (h : stratumref08_skip.f k a0 a1 = some r) :
    Calls Try.prog 20 #[.string a0, .int .i64 a1] w fun e w' => e = .returned (.int .i64 r) ∧ Drawn0 w w' := by
  have H : (stratumref08_skip.l0 k a0 a1) = some r := h
  clear h
  have H' := Aside0.mk H
  clear H
  go_enter Try.func20, Try.ntmps20
  go_wp2
  go_loopg [1] k (fun kq v1 w' => ∃ (x1_1 : Int), v1 = .int .i64 x1_1 ∧ Aside0 (stratumref08_skip.l0 kq a0 x1_1 = some r) ∧ Aside0 (kq ≤ k) ∧ Drawn0 w w')
  case atStart => exact ⟨(a1), (by first | rfl | (simp; done) | (simp [*]; done)), H', ⟨Nat.le_refl _⟩, by repeat (first | exact Drawn0.refl _ | apply Drawn0.step)⟩
  case round =>
    clear H'
    try clear c2
    try clear p2
    obtain ⟨x1_1, rfl, HA, HK1, ⟨m1, rfl⟩⟩ := hrel
    cases gk with
    | zero => exact absurd HA.out (by simp [stratumref08_skip.l0])
    | succ k1 =>
      have H := HA.out
      clear HA
      simp only [stratumref08_skip.l0] at H
      by_cases c3 : x1_1 < (a0.size : Int)
      · rw [if_pos c3] at H
        have c3b0 : decide (x1_1 < (a0.size : Int)) = true := decide_eq_true c3
        clear c3
        by_cases c4 : 0 ≤ x1_1
        · rw [if_pos c4] at H
          have c4b0 : decide (0 ≤ x1_1) = true := decide_eq_true c4
          clear c4
          replace H := Option.bind_eq_some_iff.mp H
          obtain ⟨t203, A60, H⟩ := H
          replace H : (if t203 = true then (stratumref08_skip.l0 k1 a0 (wrap64 (x1_1 + 1))) else (if (bt a0 x1_1) = 35 then (stratumref08_skip.l1 k1 a0 x1_1) else (some x1_1))) = some r := H
          have A6 := Aside0.mk A60
          clear A60
          by_cases c7 : t203 = true
          · subst c7
            have H1 : (stratumref08_skip.l0 k1 a0 (wrap64 (x1_1 + 1))) = some r := by rw [if_pos rfl] at H; exact H
            clear H
            have H := H1
            clear H1
            have H' := Aside0.mk H
            clear H
            have p5 : 0 ≤ (x1_1 : Int) := of_decide_eq_true (by first | (with_reducible assumption) | assumption)
            have q5 : x1_1 < (a0.size : Int) := of_decide_eq_true (by first | (with_reducible assumption) | assumption)
            have hx5 := bt_at a0 x1_1
            replace p5 := eq_true p5
            replace q5 := eq_true q5
            go_wp2_with (first | ((with_reducible refine gate_callee (f := 30) rfl ?_); refine goesL_ (some 14) rfl rfl Try.func30 (by kernel_rfl) rfl #[.int .u8 (bt a0 x1_1)] rfl (by (try simp only [List.map_toArray, List.map_cons, List.map_nil]); first | done | rfl | (simp only [List.length_drop, List.length_take]; rfl)) ?_; (with_reducible refine (stratumref08_Blank.calls (bt a0 x1_1) true _ A6.out).mono ?_); rintro e w' ⟨rfl, ⟨nd, rfl⟩⟩; refine ⟨_, rfl, ?_⟩))
            go_roundg k1
            case measure => have := HK1.out; omega
            case rel => exact ⟨(wrap64 (x1_1 + 1)), (by first | rfl | (simp; done) | (simp [*]; done)), H', ⟨by have := HK1.out; omega⟩, by repeat (first | exact Drawn0.refl _ | apply Drawn0.step)⟩
          · replace c7 := Bool.eq_false_iff.mpr c7
            subst c7
            have H1 : (if (bt a0 x1_1) = 35 then (stratumref08_skip.l1 k1 a0 x1_1) else (some x1_1)) = some r := by rw [if_neg (show ¬ (false = true) by decide)] at H; exact H
            clear H
            have H := H1
            clear H1
            by_cases c9 : (bt a0 x1_1) = 35
            · rw [if_pos c9] at H
              have c9b0 : ((bt a0 x1_1) == 35) = true := beq_iff_eq.mpr c9
              have c9b1 : ((bt a0 x1_1) != 35) = false := bne_eq_false_iff_eq.mpr c9
              clear c9
              have H' := Aside0.mk H
              clear H
              have p5 : 0 ≤ (x1_1 : Int) := of_decide_eq_true (by first | (with_reducible assumption) | assumption)
              have q5 : x1_1 < (a0.size : Int) := of_decide_eq_true (by first | (with_reducible assumption) | assumption)
              have hx5 := bt_at a0 x1_1
              replace p5 := eq_true p5
              replace q5 := eq_true q5
              go_wp2_with (first | ((with_reducible refine gate_callee (f := 30) rfl ?_); refine goesL_ (some 14) rfl rfl Try.func30 (by kernel_rfl) rfl #[.int .u8 (bt a0 x1_1)] rfl (by (try simp only [List.map_toArray, List.map_cons, List.map_nil]); first | done | rfl | (simp only [List.length_drop, List.length_take]; rfl)) ?_; (with_reducible refine (stratumref08_Blank.calls (bt a0 x1_1) false _ A6.out).mono ?_); rintro e w' ⟨rfl, ⟨nd, rfl⟩⟩; refine ⟨_, rfl, ?_⟩; have p8 : 0 ≤ (x1_1 : Int) := of_decide_eq_true (by first | (with_reducible assumption) | assumption); have q8 : x1_1 < (a0.size : Int) := of_decide_eq_true (by first | (with_reducible assumption) | assumption); have hx8 := bt_at a0 x1_1; replace p8 := eq_true p8; replace q8 := eq_true q8))
              go_loopg [1] k1 (fun kq v1 w' => ∃ (x1_2 : Int), v1 = .int .i64 x1_2 ∧ Aside0 (stratumref08_skip.l1 kq a0 x1_2 = some r) ∧ Aside0 (kq ≤ k1) ∧ Drawn0 w w')
              case atStart => exact ⟨(x1_1), (by first | rfl | (simp; done) | (simp [*]; done)), H', ⟨Nat.le_refl _⟩, by repeat (first | exact Drawn0.refl _ | apply Drawn0.step)⟩
              case round =>
                clear H'
                try clear c2
                try clear p2
                try clear c3
                try clear c3b0
                try clear c4
                try clear c4b0
                try clear p5
                try clear q5
                try clear hx5
                try clear p6
                try clear c7
                try clear p8
                try clear q8
                try clear hx8
                try clear c9
                try clear c9b0
                try clear c9b1
                try clear p2
                try clear p5
                try clear p8
                try clear q5
                try clear q8
                obtain ⟨x1_2, rfl, HA, HK2, ⟨m2, rfl⟩⟩ := hrel
                cases gk with
                | zero => exact absurd HA.out (by simp [stratumref08_skip.l1])
                | succ k2 =>
                  have H := HA.out
                  clear HA
                  simp only [stratumref08_skip.l1] at H
                  by_cases c10 : x1_2 < (a0.size : Int)
                  · rw [if_pos c10] at H
                    have c10b0 : decide (x1_2 < (a0.size : Int)) = true := decide_eq_true c10
                    clear c10
                    by_cases c11 : 0 ≤ x1_2
                    · rw [if_pos c11] at H
                      have c11b0 : decide (0 ≤ x1_2) = true := decide_eq_true c11
                      clear c11
                      by_cases c13 : (bt a0 x1_2) = 10
                      · rw [if_pos c13] at H
                        have c13b0 : ((bt a0 x1_2) == 10) = true := beq_iff_eq.mpr c13
                        have c13b1 : ((bt a0 x1_2) != 10) = false := bne_eq_false_iff_eq.mpr c13
                        clear c13
                        have H' := Aside0.mk H
                        clear H
                        have p12 : 0 ≤ (x1_2 : Int) := of_decide_eq_true (by first | (with_reducible assumption) | assumption)
                        have q12 : x1_2 < (a0.size : Int) := of_decide_eq_true (by first | (with_reducible assumption) | assumption)
                        have hx12 := bt_at a0 x1_2
                        replace p12 := eq_true p12
                        replace q12 := eq_true q12
                        go_wp2
                        go_roundg k2
                        case measure => have := HK1.out; have := HK2.out; omega
                        case rel => exact ⟨(x1_2), (by first | rfl | (simp; done) | (simp [*]; done)), H', ⟨by have := HK1.out; have := HK2.out; omega⟩, by repeat (first | exact Drawn0.refl _ | apply Drawn0.step)⟩
                      · rw [if_neg c13] at H
                        have c13b0 : ((bt a0 x1_2) == 10) = false := beq_eq_false_iff_ne.mpr c13
                        have c13b1 : ((bt a0 x1_2) != 10) = true := bne_iff_ne.mpr c13
                        have H' := Aside0.mk H
                        clear H
                        have p12 : 0 ≤ (x1_2 : Int) := of_decide_eq_true (by first | (with_reducible assumption) | assumption)
                        have q12 : x1_2 < (a0.size : Int) := of_decide_eq_true (by first | (with_reducible assumption) | assumption)
                        have hx12 := bt_at a0 x1_2
                        replace p12 := eq_true p12
                        replace q12 := eq_true q12
                        go_wp2
                        go_roundg k2
                        case measure => have := HK1.out; have := HK2.out; omega
                        case rel => exact ⟨(wrap64 (x1_2 + 1)), (by first | rfl | (simp; done) | (simp [*]; done)), H', ⟨by have := HK1.out; have := HK2.out; omega⟩, by repeat (first | exact Drawn0.refl _ | apply Drawn0.step)⟩
                    · rw [if_neg c11] at H
                      exact absurd H (by simp)
                  · rw [if_neg c10] at H
                    have c10b0 : decide (x1_2 < (a0.size : Int)) = false := decide_eq_false c10
                    clear c10
                    have H' := Aside0.mk H
                    clear H
                    go_wp2
                    go_roundg k2
                    case measure => have := HK1.out; have := HK2.out; omega
                    case rel => exact ⟨(x1_2), (by first | rfl | (simp; done) | (simp [*]; done)), H', ⟨by have := HK1.out; have := HK2.out; omega⟩, by repeat (first | exact Drawn0.refl _ | apply Drawn0.step)⟩
            · rw [if_neg c9] at H
              have c9b0 : ((bt a0 x1_1) == 35) = false := beq_eq_false_iff_ne.mpr c9
              have c9b1 : ((bt a0 x1_1) != 35) = true := bne_iff_ne.mpr c9
              obtain rfl := Option.some.inj H
              have p5 : 0 ≤ (x1_1 : Int) := of_decide_eq_true (by first | (with_reducible assumption) | assumption)
              have q5 : x1_1 < (a0.size : Int) := of_decide_eq_true (by first | (with_reducible assumption) | assumption)
              have hx5 := bt_at a0 x1_1
              replace p5 := eq_true p5
              replace q5 := eq_true q5
              go_wp2_with (first | ((with_reducible refine gate_callee (f := 30) rfl ?_); refine goesL_ (some 14) rfl rfl Try.func30 (by kernel_rfl) rfl #[.int .u8 (bt a0 x1_1)] rfl (by (try simp only [List.map_toArray, List.map_cons, List.map_nil]); first | done | rfl | (simp only [List.length_drop, List.length_take]; rfl)) ?_; (with_reducible refine (stratumref08_Blank.calls (bt a0 x1_1) false _ A6.out).mono ?_); rintro e w' ⟨rfl, ⟨nd, rfl⟩⟩; refine ⟨_, rfl, ?_⟩; have p8 : 0 ≤ (x1_1 : Int) := of_decide_eq_true (by first | (with_reducible assumption) | assumption); have q8 : x1_1 < (a0.size : Int) := of_decide_eq_true (by first | (with_reducible assumption) | assumption); have hx8 := bt_at a0 x1_1; replace p8 := eq_true p8; replace q8 := eq_true q8))
              go_ret
              exact ⟨by first | rfl | (simp; done) | (simp [*]; done), by repeat (first | exact Drawn0.refl _ | apply Drawn0.step)⟩
        · rw [if_neg c4] at H
          exact absurd H (by simp)
      · rw [if_neg c3] at H
        have c3b0 : decide (x1_1 < (a0.size : Int)) = false := decide_eq_false c3
        clear c3
        obtain rfl := Option.some.inj H
        go_wp2
        go_ret
        exact ⟨by first | rfl | (simp; done) | (simp [*]; done), by repeat (first | exact Drawn0.refl _ | apply Drawn0.step)⟩

/-! ### stratumref08_letter: function 28 -/
def stratumref08_letter.f (a0 : Int) : Option (Bool) := if a0 = 95 then (some true) else (if a0 ≥ 97 then (if a0 ≤ 122 then (some true) else (if a0 ≥ 65 then (some (decide (a0 ≤ 90))) else (some false))) else (if a0 ≥ 65 then (some (decide (a0 ≤ 90))) else (some false)))
set_option maxHeartbeats 8000000 in
set_option maxRecDepth 100000 in
theorem stratumref08_letter.calls (a0 : Int) (r : Bool) (w : World) (h : stratumref08_letter.f a0 = some r) :
    Calls Try.prog 28 #[.int .u8 a0] w fun e w' => e = .returned (.bool r) ∧ Drawn0 w w' := by
  have H : (if a0 = 95 then (some true) else (if a0 ≥ 97 then (if a0 ≤ 122 then (some true) else (if a0 ≥ 65 then (some (decide (a0 ≤ 90))) else (some false))) else (if a0 ≥ 65 then (some (decide (a0 ≤ 90))) else (some false)))) = some r := h
  clear h
  by_cases c2 : a0 = 95
  · rw [if_pos c2] at H
    have c2b0 : (a0 == 95) = true := beq_iff_eq.mpr c2
    have c2b1 : (a0 != 95) = false := bne_eq_false_iff_eq.mpr c2
    clear c2
    obtain rfl := Option.some.inj H
    go_enter Try.func28, Try.ntmps28
    go_wp2
    go_ret
    exact ⟨by first | rfl | (simp; done) | (simp [*]; done), by repeat (first | exact Drawn0.refl _ | apply Drawn0.step)⟩
  · rw [if_neg c2] at H
    have c2b0 : (a0 == 95) = false := beq_eq_false_iff_ne.mpr c2
    have c2b1 : (a0 != 95) = true := bne_iff_ne.mpr c2
    by_cases c3 : a0 ≥ 97
    · rw [if_pos c3] at H
      have c3b0 : decide (97 ≤ a0) = true := decide_eq_true c3
      clear c3
      by_cases c4 : a0 ≤ 122
      · rw [if_pos c4] at H
        have c4b0 : decide (a0 ≤ 122) = true := decide_eq_true c4
        clear c4
        obtain rfl := Option.some.inj H
        go_enter Try.func28, Try.ntmps28
        go_wp2
        go_ret
        exact ⟨by first | rfl | (simp; done) | (simp [*]; done), by repeat (first | exact Drawn0.refl _ | apply Drawn0.step)⟩
      · rw [if_neg c4] at H
        have c4b0 : decide (a0 ≤ 122) = false := decide_eq_false c4
        clear c4
        by_cases c5 : a0 ≥ 65
        · rw [if_pos c5] at H
          have c5b0 : decide (65 ≤ a0) = true := decide_eq_true c5
          clear c5
          obtain rfl := Option.some.inj H
          go_enter Try.func28, Try.ntmps28
          go_wp2
          go_ret
          exact ⟨by first | rfl | (simp; done) | (simp [*]; done), by repeat (first | exact Drawn0.refl _ | apply Drawn0.step)⟩
        · rw [if_neg c5] at H
          have c5b0 : decide (65 ≤ a0) = false := decide_eq_false c5
          clear c5
          obtain rfl := Option.some.inj H
          go_enter Try.func28, Try.ntmps28
          go_wp2
          go_ret
          exact ⟨by first | rfl | (simp; done) | (simp [*]; done), by repeat (first | exact Drawn0.refl _ | apply Drawn0.step)⟩
    · rw [if_neg c3] at H
      have c3b0 : decide (97 ≤ a0) = false := decide_eq_false c3
      clear c3
      by_cases c6 : a0 ≥ 65
      · rw [if_pos c6] at H
        have c6b0 : decide (65 ≤ a0) = true := decide_eq_true c6
        clear c6
        obtain rfl := Option.some.inj H
        go_enter Try.func28, Try.ntmps28
        go_wp2
        go_ret
        exact ⟨by first | rfl | (simp; done) | (simp [*]; done), by repeat (first | exact Drawn0.refl _ | apply Drawn0.step)⟩
      · rw [if_neg c6] at H
        have c6b0 : decide (65 ≤ a0) = false := decide_eq_false c6
        clear c6
        obtain rfl := Option.some.inj H
        go_enter Try.func28, Try.ntmps28
        go_wp2
        go_ret
        exact ⟨by first | rfl | (simp; done) | (simp [*]; done), by repeat (first | exact Drawn0.refl _ | apply Drawn0.step)⟩

/-! ### stratumref08_digit: function 29 -/
def stratumref08_digit.f (a0 : Int) : Option (Bool) := if a0 ≥ 48 then (some (decide (a0 ≤ 57))) else (some false)
set_option maxHeartbeats 8000000 in
set_option maxRecDepth 100000 in
theorem stratumref08_digit.calls (a0 : Int) (r : Bool) (w : World) (h : stratumref08_digit.f a0 = some r) :
    Calls Try.prog 29 #[.int .u8 a0] w fun e w' => e = .returned (.bool r) ∧ Drawn0 w w' := by
  have H : (if a0 ≥ 48 then (some (decide (a0 ≤ 57))) else (some false)) = some r := h
  clear h
  by_cases c2 : a0 ≥ 48
  · rw [if_pos c2] at H
    have c2b0 : decide (48 ≤ a0) = true := decide_eq_true c2
    clear c2
    obtain rfl := Option.some.inj H
    go_enter Try.func29, Try.ntmps29
    go_wp2
    go_ret
    exact ⟨by first | rfl | (simp; done) | (simp [*]; done), by repeat (first | exact Drawn0.refl _ | apply Drawn0.step)⟩
  · rw [if_neg c2] at H
    have c2b0 : decide (48 ≤ a0) = false := decide_eq_false c2
    clear c2
    obtain rfl := Option.some.inj H
    go_enter Try.func29, Try.ntmps29
    go_wp2
    go_ret
    exact ⟨by first | rfl | (simp; done) | (simp [*]; done), by repeat (first | exact Drawn0.refl _ | apply Drawn0.step)⟩

/-! ### stratumref08_word: function 31 -/
def stratumref08_word.l0 : Nat → ByteArray → Int → Int → Option (Int × ByteArray × Int × Int × Int × Int × Int)
  | 0, _, _, _ => none
  | k + 1, x0, x1, x7 => if x7 < (x0.size : Int) then (if 0 ≤ x7 then ((stratumref08_letter.f (bt x0 x7)).bind fun t205 => (if t205 = true then (stratumref08_word.l0 k x0 x1 (wrap64 (x7 + 1))) else ((stratumref08_digit.f (bt x0 x7)).bind fun t206 => (if t206 = true then (stratumref08_word.l0 k x0 x1 (wrap64 (x7 + 1))) else (if (wrap64 (x7 - x1)) > 64 then (some (0, (⟨#[]⟩ : ByteArray), 0, 0, 0, x1, 111)) else (if 0 ≤ x1 then (if x1 ≤ x7 then (if x7 ≤ (x0.size : Int) then (some (1, x0.extract (x1 : Int).toNat (x7 : Int).toNat, 0, x1, x7, 0, 0)) else (none)) else (none)) else (none))))))) else (none)) else (if (wrap64 (x7 - x1)) > 64 then (some (0, (⟨#[]⟩ : ByteArray), 0, 0, 0, x1, 111)) else (if 0 ≤ x1 then (if x1 ≤ x7 then (if x7 ≤ (x0.size : Int) then (some (1, x0.extract (x1 : Int).toNat (x7 : Int).toNat, 0, x1, x7, 0, 0)) else (none)) else (none)) else (none)))
def stratumref08_word.f (k : Nat) (a0 : ByteArray) (a1 : Int) : Option (Int × ByteArray × Int × Int × Int × Int × Int) := stratumref08_word.l0 k a0 a1 a1
theorem stratumref08_word.mono_l : ∀ k, (∀ y0 y1 y2, LeO (stratumref08_word.l0 k y0 y1 y2) (stratumref08_word.l0 (k + 1) y0 y1 y2))
  | 0 => fun _ _ _ r h => by simp [stratumref08_word.l0] at h
  | k + 1 => by
    have ih0 := stratumref08_word.mono_l k
    · intro y0 y1 y2
      unfold stratumref08_word.l0
      repeat' first
      | (with_reducible exact ih0 _ _ _)
      | (with_reducible exact LeO.refl _)
      | (with_reducible exact LeO.none _)
      | (with_reducible refine LeO.ite ?_ ?_)
      | (with_reducible refine LeO.bind ?_ (fun _ => ?_))
      | exact ih0 _ _ _
      | exact LeO.none _
      | refine LeO.ite ?_ ?_
      | refine LeO.bind ?_ (fun _ => ?_)
theorem stratumref08_word.mono : ∀ a0 a1 k, LeO (stratumref08_word.f k a0 a1) (stratumref08_word.f (k + 1) a0 a1) := by
  intro a0 a1 k
  have ih0 := stratumref08_word.mono_l k
  unfold stratumref08_word.f
  repeat' first
      | (with_reducible exact ih0 _ _ _)
      | (with_reducible exact LeO.refl _)
      | (with_reducible exact LeO.none _)
      | (with_reducible refine LeO.ite ?_ ?_)
      | (with_reducible refine LeO.bind ?_ (fun _ => ?_))
      | exact ih0 _ _ _
      | exact LeO.none _
      | refine LeO.ite ?_ ?_
      | refine LeO.bind ?_ (fun _ => ?_)
set_option maxHeartbeats 8000000 in
set_option maxRecDepth 100000 in
theorem stratumref08_word.calls (k : Nat) (a0 : ByteArray) (a1 : Int) (r1 : Int) (r2 : ByteArray) (r3 : Int) (r4 : Int) (r5 : Int) (r6 : Int) (r7 : Int) (w : World) (h : stratumref08_word.f k a0 a1 = some (r1, r2, r3, r4, r5, r6, r7)) :
    Calls Try.prog 31 #[.string a0, .int .i64 a1] w fun e w' => e = .returned (.tuple #[.agg #[.int .i64 r1, .string r2, .int .u64 r3, .int .i64 r4, .int .i64 r5], .int .i64 r6, .int .i64 r7]) ∧ Below w.heap.size w w' := by
  have hu32 := Try.underlying32
  have HB := Aside0.mk (Below.refl w.heap.size w)
  have H : (stratumref08_word.l0 k a0 a1 a1) = some (r1, r2, r3, r4, r5, r6, r7) := h
  clear h
  have H' := Aside0.mk H
  clear H
  go_enter Try.func31, Try.ntmps31
  go_wp2_with (first | ((with_reducible refine gate_dst (N := 4) rfl ?_); refine box_event ?hg (N := 4) ?hd (cs := #[.int .i64 0, .string (⟨#[]⟩ : ByteArray), .int .u64 0, .int .i64 0, .int .i64 0]) (t := 32) ?hr ?_; (case hd => rfl); (case hg => rfl); (case hr => first | (go_simp; done) | (go_simp; rfl)); intro gb204 hg w3 hbox hb; have n0_ := Aside0.mk (below_step (by repeat (first | (with_reducible first | exact HB.out | apply below_alloc | apply pw_below_drewN | apply below_drew1) | exact HB.out)) hb); have n1_ := Aside0.mk (hbox); have n2_ := Aside0.mk ((by rw [hg]; exact (below_size (by repeat (first | (with_reducible first | exact HB.out | apply below_alloc | apply pw_below_drewN | apply below_drew1) | exact HB.out))) : w.heap.size ≤ gb204)); have n3_ := Aside0.mk ((by rw [hg]; exact (below_size (by repeat (first | (with_reducible first | exact HB.out | apply below_alloc | apply pw_below_drewN | apply below_drew1) | exact HB.out))) : w.heap.size ≤ gb204)); clear HB; have HB := n0_; have BK204 := n1_; have GW204 := n2_; have GE204 := n3_; clear n0_ n1_ n2_ n3_; clear hb hbox hg))
  go_loopg [7] k (fun kq v7 w' => ∃ (x7_1 : Int), v7 = .int .i64 x7_1 ∧ Aside0 (stratumref08_word.l0 kq a0 a1 x7_1 = some (r1, r2, r3, r4, r5, r6, r7)) ∧ Aside0 (kq ≤ k) ∧ Aside0 (w'.heap[gb204]? = some (.cells #[.int .i64 0, .string (⟨#[]⟩ : ByteArray), .int .u64 0, .int .i64 0, .int .i64 0] 32 (0, 0))) ∧ Aside0 (Below w.heap.size w w'))
  case atStart => exact ⟨(a1), (by first | rfl | (simp; done) | (simp [*]; done)), H', ⟨Nat.le_refl _⟩, ⟨by (with_reducible repeat (first | refine blk_drewN ?_ _ | refine blk_drew ?_ | refine blk_alloc ?_ _)); exact BK204.out⟩, ⟨by repeat (first | (with_reducible first | exact HB.out | apply below_alloc | apply pw_below_drewN | apply below_drew1 | refine below_set ?_ GE204.out) | exact HB.out)⟩⟩
  case round =>
    clear H'
    try clear p2
    try clear c3
    obtain ⟨x7_1, rfl, HA, HK1, BK204, HB⟩ := hrel
    cases gk with
    | zero => exact absurd HA.out (by simp [stratumref08_word.l0])
    | succ k1 =>
      have H := HA.out
      clear HA
      simp only [stratumref08_word.l0] at H
      by_cases c4 : x7_1 < (a0.size : Int)
      · rw [if_pos c4] at H
        have c4b0 : decide (x7_1 < (a0.size : Int)) = true := decide_eq_true c4
        clear c4
        by_cases c5 : 0 ≤ x7_1
        · rw [if_pos c5] at H
          have c5b0 : decide (0 ≤ x7_1) = true := decide_eq_true c5
          clear c5
          replace H := Option.bind_eq_some_iff.mp H
          obtain ⟨t205, A70, H⟩ := H
          replace H : (if t205 = true then (stratumref08_word.l0 k1 a0 a1 (wrap64 (x7_1 + 1))) else ((stratumref08_digit.f (bt a0 x7_1)).bind fun t206 => (if t206 = true then (stratumref08_word.l0 k1 a0 a1 (wrap64 (x7_1 + 1))) else (if (wrap64 (x7_1 - a1)) > 64 then (some (0, (⟨#[]⟩ : ByteArray), 0, 0, 0, a1, 111)) else (if 0 ≤ a1 then (if a1 ≤ x7_1 then (if x7_1 ≤ (a0.size : Int) then (some (1, a0.extract (a1 : Int).toNat (x7_1 : Int).toNat, 0, a1, x7_1, 0, 0)) else (none)) else (none)) else (none)))))) = some (r1, r2, r3, r4, r5, r6, r7) := H
          have A7 := Aside0.mk A70
          clear A70
          by_cases c8 : t205 = true
          · subst c8
            have H1 : (stratumref08_word.l0 k1 a0 a1 (wrap64 (x7_1 + 1))) = some (r1, r2, r3, r4, r5, r6, r7) := by rw [if_pos rfl] at H; exact H
            clear H
            have H := H1
            clear H1
            have H' := Aside0.mk H
            clear H
            have p6 : 0 ≤ (x7_1 : Int) := of_decide_eq_true (by first | (with_reducible assumption) | assumption)
            have q6 : x7_1 < (a0.size : Int) := of_decide_eq_true (by first | (with_reducible assumption) | assumption)
            have hx6 := bt_at a0 x7_1
            replace p6 := eq_true p6
            replace q6 := eq_true q6
            go_wp2_with (first | (go_at_call 28; (with_reducible refine (stratumref08_letter.calls (bt a0 x7_1) true _ A7.out).mono ?_); rintro e w' ⟨rfl, ⟨nd, rfl⟩⟩))
            go_roundg k1
            case measure => have := HK1.out; omega
            case rel => exact ⟨(wrap64 (x7_1 + 1)), (by first | rfl | (simp; done) | (simp [*]; done)), H', ⟨by have := HK1.out; omega⟩, ⟨by (with_reducible repeat (first | refine blk_drewN ?_ _ | refine blk_drew ?_ | refine blk_alloc ?_ _)); exact BK204.out⟩, ⟨by repeat (first | (with_reducible first | exact HB.out | apply below_alloc | apply pw_below_drewN | apply below_drew1 | refine below_set ?_ GE204.out) | exact HB.out)⟩⟩
          · replace c8 := Bool.eq_false_iff.mpr c8
            subst c8
            have H1 : ((stratumref08_digit.f (bt a0 x7_1)).bind fun t206 => (if t206 = true then (stratumref08_word.l0 k1 a0 a1 (wrap64 (x7_1 + 1))) else (if (wrap64 (x7_1 - a1)) > 64 then (some (0, (⟨#[]⟩ : ByteArray), 0, 0, 0, a1, 111)) else (if 0 ≤ a1 then (if a1 ≤ x7_1 then (if x7_1 ≤ (a0.size : Int) then (some (1, a0.extract (a1 : Int).toNat (x7_1 : Int).toNat, 0, a1, x7_1, 0, 0)) else (none)) else (none)) else (none))))) = some (r1, r2, r3, r4, r5, r6, r7) := by rw [if_neg (show ¬ (false = true) by decide)] at H; exact H
            clear H
            have H := H1
            clear H1
            replace H := Option.bind_eq_some_iff.mp H
            obtain ⟨t206, A100, H⟩ := H
            replace H : (if t206 = true then (stratumref08_word.l0 k1 a0 a1 (wrap64 (x7_1 + 1))) else (if (wrap64 (x7_1 - a1)) > 64 then (some (0, (⟨#[]⟩ : ByteArray), 0, 0, 0, a1, 111)) else (if 0 ≤ a1 then (if a1 ≤ x7_1 then (if x7_1 ≤ (a0.size : Int) then (some (1, a0.extract (a1 : Int).toNat (x7_1 : Int).toNat, 0, a1, x7_1, 0, 0)) else (none)) else (none)) else (none)))) = some (r1, r2, r3, r4, r5, r6, r7) := H
            have A10 := Aside0.mk A100
            clear A100
            by_cases c11 : t206 = true
            · subst c11
              have H1 : (stratumref08_word.l0 k1 a0 a1 (wrap64 (x7_1 + 1))) = some (r1, r2, r3, r4, r5, r6, r7) := by rw [if_pos rfl] at H; exact H
              clear H
              have H := H1
              clear H1
              have H' := Aside0.mk H
              clear H
              have p6 : 0 ≤ (x7_1 : Int) := of_decide_eq_true (by first | (with_reducible assumption) | assumption)
              have q6 : x7_1 < (a0.size : Int) := of_decide_eq_true (by first | (with_reducible assumption) | assumption)
              have hx6 := bt_at a0 x7_1
              replace p6 := eq_true p6
              replace q6 := eq_true q6
              go_wp2_with (first | (go_at_call 28; (with_reducible refine (stratumref08_letter.calls (bt a0 x7_1) false _ A7.out).mono ?_); rintro e w' ⟨rfl, ⟨nd, rfl⟩⟩; have p9 : 0 ≤ (x7_1 : Int) := of_decide_eq_true (by first | (with_reducible assumption) | assumption); have q9 : x7_1 < (a0.size : Int) := of_decide_eq_true (by first | (with_reducible assumption) | assumption); have hx9 := bt_at a0 x7_1; replace p9 := eq_true p9; replace q9 := eq_true q9) | (go_at_call 29; (with_reducible refine (stratumref08_digit.calls (bt a0 x7_1) true _ A10.out).mono ?_); rintro e w' ⟨rfl, ⟨nd, rfl⟩⟩))
              go_roundg k1
              case measure => have := HK1.out; omega
              case rel => exact ⟨(wrap64 (x7_1 + 1)), (by first | rfl | (simp; done) | (simp [*]; done)), H', ⟨by have := HK1.out; omega⟩, ⟨by (with_reducible repeat (first | refine blk_drewN ?_ _ | refine blk_drew ?_ | refine blk_alloc ?_ _)); exact BK204.out⟩, ⟨by repeat (first | (with_reducible first | exact HB.out | apply below_alloc | apply pw_below_drewN | apply below_drew1 | refine below_set ?_ GE204.out) | exact HB.out)⟩⟩
            · replace c11 := Bool.eq_false_iff.mpr c11
              subst c11
              have H1 : (if (wrap64 (x7_1 - a1)) > 64 then (some (0, (⟨#[]⟩ : ByteArray), 0, 0, 0, a1, 111)) else (if 0 ≤ a1 then (if a1 ≤ x7_1 then (if x7_1 ≤ (a0.size : Int) then (some (1, a0.extract (a1 : Int).toNat (x7_1 : Int).toNat, 0, a1, x7_1, 0, 0)) else (none)) else (none)) else (none))) = some (r1, r2, r3, r4, r5, r6, r7) := by rw [if_neg (show ¬ (false = true) by decide)] at H; exact H
              clear H
              have H := H1
              clear H1
              by_cases c12 : (wrap64 (x7_1 - a1)) > 64
              · rw [if_pos c12] at H
                have c12b0 : decide (64 < (wrap64 (x7_1 - a1))) = true := decide_eq_true c12
                clear c12
                simp only [Option.some.injEq, Prod.mk.injEq] at H
                obtain ⟨rfl, rfl, rfl, rfl, rfl, rfl, rfl⟩ := H
                have p6 : 0 ≤ (x7_1 : Int) := of_decide_eq_true (by first | (with_reducible assumption) | assumption)
                have q6 : x7_1 < (a0.size : Int) := of_decide_eq_true (by first | (with_reducible assumption) | assumption)
                have hx6 := bt_at a0 x7_1
                replace p6 := eq_true p6
                replace q6 := eq_true q6
                go_wp2_with (first | (go_at_call 28; (with_reducible refine (stratumref08_letter.calls (bt a0 x7_1) false _ A7.out).mono ?_); rintro e w' ⟨rfl, ⟨nd, rfl⟩⟩; (try (rw [drewN_self wr]; generalize hq_ : World.drewN wr _ = wr; have n0_ : Aside0 (wr.heap[gb204]? = some (.cells #[.int .i64 0, .string (⟨#[]⟩ : ByteArray), .int .u64 0, .int .i64 0, .int .i64 0] 32 (0, 0))) := ⟨by rw [← hq_]; exact (by (with_reducible repeat (first | refine blk_drewN ?_ _ | refine blk_drew ?_ | refine blk_alloc ?_ _)); exact BK204.out)⟩; have n1_ : Aside0 (Below w.heap.size w wr) := ⟨by rw [← hq_]; exact (by repeat (first | (with_reducible first | exact HB.out | apply below_alloc | apply pw_below_drewN | apply below_drew1 | refine below_set ?_ GE204.out) | exact HB.out))⟩; clear BK204 HB hq_; have BK204 := n0_; have HB := n1_; clear n0_ n1_)); have p9 : 0 ≤ (x7_1 : Int) := of_decide_eq_true (by first | (with_reducible assumption) | assumption); have q9 : x7_1 < (a0.size : Int) := of_decide_eq_true (by first | (with_reducible assumption) | assumption); have hx9 := bt_at a0 x7_1; replace p9 := eq_true p9; replace q9 := eq_true q9) | (go_at_call 29; (with_reducible refine (stratumref08_digit.calls (bt a0 x7_1) false _ A10.out).mono ?_); rintro e w' ⟨rfl, ⟨nd, rfl⟩⟩; (try (rw [drewN_self wr]; generalize hq_ : World.drewN wr _ = wr; have n0_ : Aside0 (wr.heap[gb204]? = some (.cells #[.int .i64 0, .string (⟨#[]⟩ : ByteArray), .int .u64 0, .int .i64 0, .int .i64 0] 32 (0, 0))) := ⟨by rw [← hq_]; exact (by (with_reducible repeat (first | refine blk_drewN ?_ _ | refine blk_drew ?_ | refine blk_alloc ?_ _)); exact BK204.out)⟩; have n1_ : Aside0 (Below w.heap.size w wr) := ⟨by rw [← hq_]; exact (by repeat (first | (with_reducible first | exact HB.out | apply below_alloc | apply pw_below_drewN | apply below_drew1 | refine below_set ?_ GE204.out) | exact HB.out))⟩; clear BK204 HB hq_; have BK204 := n0_; have HB := n1_; clear n0_ n1_)); have hcz13_0 : wr.cell? ⟨gb204, 0, none⟩ = some (.int .i64 0) := (blk_cell BK204.out 0).trans rfl; have hcz13_1 : wr.cell? ⟨gb204, 1, none⟩ = some (.string (⟨#[]⟩ : ByteArray)) := (blk_cell BK204.out 1).trans rfl; have hcz13_2 : wr.cell? ⟨gb204, 2, none⟩ = some (.int .u64 0) := (blk_cell BK204.out 2).trans rfl; have hcz13_3 : wr.cell? ⟨gb204, 3, none⟩ = some (.int .i64 0) := (blk_cell BK204.out 3).trans rfl; have hcz13_4 : wr.cell? ⟨gb204, 4, none⟩ = some (.int .i64 0) := (blk_cell BK204.out 4).trans rfl; have hfz13_0 := blk_frozen BK204.out 0; have hfz13_1 := blk_frozen BK204.out 1; have hfz13_2 := blk_frozen BK204.out 2; have hfz13_3 := blk_frozen BK204.out 3; have hfz13_4 := blk_frozen BK204.out 4))
                refine bodyPost_ret (results_ctt rfl _ _ gb204 32 #[.int .i64 0, .string (⟨#[]⟩ : ByteArray), .int .u64 0, .int .i64 0, .int .i64 0] (0, 0) _ rfl (by (with_reducible repeat (first | refine blk_drewN ?_ _ | refine blk_drew ?_ | refine blk_alloc ?_ _)); refine blk_put (cs := #[.int .i64 0, .string (⟨#[]⟩ : ByteArray), .int .u64 0, .int .i64 0, .int .i64 0]) ?_ 4 _ rfl; (with_reducible repeat (first | refine blk_drewN ?_ _ | refine blk_drew ?_ | refine blk_alloc ?_ _)); refine blk_put (cs := #[.int .i64 0, .string (⟨#[]⟩ : ByteArray), .int .u64 0, .int .i64 0, .int .i64 0]) ?_ 3 _ rfl; (with_reducible repeat (first | refine blk_drewN ?_ _ | refine blk_drew ?_ | refine blk_alloc ?_ _)); refine blk_put (cs := #[.int .i64 0, .string (⟨#[]⟩ : ByteArray), .int .u64 0, .int .i64 0, .int .i64 0]) ?_ 2 _ rfl; (with_reducible repeat (first | refine blk_drewN ?_ _ | refine blk_drew ?_ | refine blk_alloc ?_ _)); refine blk_put (cs := #[.int .i64 0, .string (⟨#[]⟩ : ByteArray), .int .u64 0, .int .i64 0, .int .i64 0]) ?_ 1 _ rfl; (with_reducible repeat (first | refine blk_drewN ?_ _ | refine blk_drew ?_ | refine blk_alloc ?_ _)); refine blk_put (cs := #[.int .i64 0, .string (⟨#[]⟩ : ByteArray), .int .u64 0, .int .i64 0, .int .i64 0]) ?_ 0 _ rfl; (with_reducible repeat (first | refine blk_drewN ?_ _ | refine blk_drew ?_ | refine blk_alloc ?_ _)); exact BK204.out) Try.underlying32 rfl (by kernel_rfl)) rfl ?_
                exact ⟨by first | rfl | (simp [errW_none, errW_some] <;> rfl) | (simp [*, errW_none, errW_some] <;> rfl), by repeat (first | (with_reducible first | exact HB.out | apply below_alloc | apply pw_below_drewN | apply below_drew1 | refine below_set ?_ GE204.out) | exact HB.out)⟩
              · rw [if_neg c12] at H
                have c12b0 : decide (64 < (wrap64 (x7_1 - a1))) = false := decide_eq_false c12
                clear c12
                by_cases c14 : 0 ≤ a1
                · rw [if_pos c14] at H
                  have c14b0 := eq_true c14
                  have c14b1 : decide (0 ≤ a1) = true := decide_eq_true c14
                  clear c14
                  by_cases c15 : a1 ≤ x7_1
                  · rw [if_pos c15] at H
                    have c15b0 := eq_true c15
                    have c15b1 : decide (a1 ≤ x7_1) = true := decide_eq_true c15
                    clear c15
                    by_cases c16 : x7_1 ≤ (a0.size : Int)
                    · rw [if_pos c16] at H
                      have c16b0 := eq_true c16
                      have c16b1 : decide (x7_1 ≤ (a0.size : Int)) = true := decide_eq_true c16
                      clear c16
                      simp only [Option.some.injEq, Prod.mk.injEq] at H
                      obtain ⟨rfl, rfl, rfl, rfl, rfl, rfl, rfl⟩ := H
                      have p6 : 0 ≤ (x7_1 : Int) := of_decide_eq_true (by first | (with_reducible assumption) | assumption)
                      have q6 : x7_1 < (a0.size : Int) := of_decide_eq_true (by first | (with_reducible assumption) | assumption)
                      have hx6 := bt_at a0 x7_1
                      replace p6 := eq_true p6
                      replace q6 := eq_true q6
                      go_wp2_with (first | (go_at_call 28; (with_reducible refine (stratumref08_letter.calls (bt a0 x7_1) false _ A7.out).mono ?_); rintro e w' ⟨rfl, ⟨nd, rfl⟩⟩; (try (rw [drewN_self wr]; generalize hq_ : World.drewN wr _ = wr; have n0_ : Aside0 (wr.heap[gb204]? = some (.cells #[.int .i64 0, .string (⟨#[]⟩ : ByteArray), .int .u64 0, .int .i64 0, .int .i64 0] 32 (0, 0))) := ⟨by rw [← hq_]; exact (by (with_reducible repeat (first | refine blk_drewN ?_ _ | refine blk_drew ?_ | refine blk_alloc ?_ _)); exact BK204.out)⟩; have n1_ : Aside0 (Below w.heap.size w wr) := ⟨by rw [← hq_]; exact (by repeat (first | (with_reducible first | exact HB.out | apply below_alloc | apply pw_below_drewN | apply below_drew1 | refine below_set ?_ GE204.out) | exact HB.out))⟩; clear BK204 HB hq_; have BK204 := n0_; have HB := n1_; clear n0_ n1_)); have p9 : 0 ≤ (x7_1 : Int) := of_decide_eq_true (by first | (with_reducible assumption) | assumption); have q9 : x7_1 < (a0.size : Int) := of_decide_eq_true (by first | (with_reducible assumption) | assumption); have hx9 := bt_at a0 x7_1; replace p9 := eq_true p9; replace q9 := eq_true q9) | (go_at_call 29; (with_reducible refine (stratumref08_digit.calls (bt a0 x7_1) false _ A10.out).mono ?_); rintro e w' ⟨rfl, ⟨nd, rfl⟩⟩; (try (rw [drewN_self wr]; generalize hq_ : World.drewN wr _ = wr; have n0_ : Aside0 (wr.heap[gb204]? = some (.cells #[.int .i64 0, .string (⟨#[]⟩ : ByteArray), .int .u64 0, .int .i64 0, .int .i64 0] 32 (0, 0))) := ⟨by rw [← hq_]; exact (by (with_reducible repeat (first | refine blk_drewN ?_ _ | refine blk_drew ?_ | refine blk_alloc ?_ _)); exact BK204.out)⟩; have n1_ : Aside0 (Below w.heap.size w wr) := ⟨by rw [← hq_]; exact (by repeat (first | (with_reducible first | exact HB.out | apply below_alloc | apply pw_below_drewN | apply below_drew1 | refine below_set ?_ GE204.out) | exact HB.out))⟩; clear BK204 HB hq_; have BK204 := n0_; have HB := n1_; clear n0_ n1_)); have hcz17_0 : wr.cell? ⟨gb204, 0, none⟩ = some (.int .i64 0) := (blk_cell BK204.out 0).trans rfl; have hcz17_1 : wr.cell? ⟨gb204, 1, none⟩ = some (.string (⟨#[]⟩ : ByteArray)) := (blk_cell BK204.out 1).trans rfl; have hcz17_2 : wr.cell? ⟨gb204, 2, none⟩ = some (.int .u64 0) := (blk_cell BK204.out 2).trans rfl; have hcz17_3 : wr.cell? ⟨gb204, 3, none⟩ = some (.int .i64 0) := (blk_cell BK204.out 3).trans rfl; have hcz17_4 : wr.cell? ⟨gb204, 4, none⟩ = some (.int .i64 0) := (blk_cell BK204.out 4).trans rfl; have hfz17_0 := blk_frozen BK204.out 0; have hfz17_1 := blk_frozen BK204.out 1; have hfz17_2 := blk_frozen BK204.out 2; have hfz17_3 := blk_frozen BK204.out 3; have hfz17_4 := blk_frozen BK204.out 4))
                      refine bodyPost_ret (results_ctt rfl _ _ gb204 32 #[.int .i64 1, .string (a0.extract (a1 : Int).toNat (x7_1 : Int).toNat), .int .u64 0, .int .i64 a1, .int .i64 x7_1] (0, 0) _ rfl (by (with_reducible repeat (first | refine blk_drewN ?_ _ | refine blk_drew ?_ | refine blk_alloc ?_ _)); refine blk_put (cs := #[.int .i64 1, .string (a0.extract (a1 : Int).toNat (x7_1 : Int).toNat), .int .u64 0, .int .i64 a1, .int .i64 0]) ?_ 4 _ rfl; (with_reducible repeat (first | refine blk_drewN ?_ _ | refine blk_drew ?_ | refine blk_alloc ?_ _)); refine blk_put (cs := #[.int .i64 1, .string (a0.extract (a1 : Int).toNat (x7_1 : Int).toNat), .int .u64 0, .int .i64 0, .int .i64 0]) ?_ 3 _ rfl; (with_reducible repeat (first | refine blk_drewN ?_ _ | refine blk_drew ?_ | refine blk_alloc ?_ _)); refine blk_put (cs := #[.int .i64 1, .string (a0.extract (a1 : Int).toNat (x7_1 : Int).toNat), .int .u64 0, .int .i64 0, .int .i64 0]) ?_ 2 _ rfl; (with_reducible repeat (first | refine blk_drewN ?_ _ | refine blk_drew ?_ | refine blk_alloc ?_ _)); refine blk_put (cs := #[.int .i64 1, .string (⟨#[]⟩ : ByteArray), .int .u64 0, .int .i64 0, .int .i64 0]) ?_ 1 _ rfl; (with_reducible repeat (first | refine blk_drewN ?_ _ | refine blk_drew ?_ | refine blk_alloc ?_ _)); refine blk_put (cs := #[.int .i64 0, .string (⟨#[]⟩ : ByteArray), .int .u64 0, .int .i64 0, .int .i64 0]) ?_ 0 _ rfl; (with_reducible repeat (first | refine blk_drewN ?_ _ | refine blk_drew ?_ | refine blk_alloc ?_ _)); exact BK204.out) Try.underlying32 rfl (by kernel_rfl)) rfl ?_
                      exact ⟨by first | rfl | (simp [errW_none, errW_some] <;> rfl) | (simp [*, errW_none, errW_some] <;> rfl), by repeat (first | (with_reducible first | exact HB.out | apply below_alloc | apply pw_below_drewN | apply below_drew1 | refine below_set ?_ GE204.out) | exact HB.out)⟩
                    · rw [if_neg c16] at H
                      exact absurd H (by simp)
                  · rw [if_neg c15] at H
                    exact absurd H (by simp)
                · rw [if_neg c14] at H
                  exact absurd H (by simp)
        · rw [if_neg c5] at H
          exact absurd H (by simp)
      · rw [if_neg c4] at H
        have c4b0 : decide (x7_1 < (a0.size : Int)) = false := decide_eq_false c4
        clear c4
        by_cases c18 : (wrap64 (x7_1 - a1)) > 64
        · rw [if_pos c18] at H
          have c18b0 : decide (64 < (wrap64 (x7_1 - a1))) = true := decide_eq_true c18
          clear c18
          simp only [Option.some.injEq, Prod.mk.injEq] at H
          obtain ⟨rfl, rfl, rfl, rfl, rfl, rfl, rfl⟩ := H
          have hcz19_0 : wr.cell? ⟨gb204, 0, none⟩ = some (.int .i64 0) := (blk_cell BK204.out 0).trans rfl
          have hcz19_1 : wr.cell? ⟨gb204, 1, none⟩ = some (.string (⟨#[]⟩ : ByteArray)) := (blk_cell BK204.out 1).trans rfl
          have hcz19_2 : wr.cell? ⟨gb204, 2, none⟩ = some (.int .u64 0) := (blk_cell BK204.out 2).trans rfl
          have hcz19_3 : wr.cell? ⟨gb204, 3, none⟩ = some (.int .i64 0) := (blk_cell BK204.out 3).trans rfl
          have hcz19_4 : wr.cell? ⟨gb204, 4, none⟩ = some (.int .i64 0) := (blk_cell BK204.out 4).trans rfl
          have hfz19_0 := blk_frozen BK204.out 0
          have hfz19_1 := blk_frozen BK204.out 1
          have hfz19_2 := blk_frozen BK204.out 2
          have hfz19_3 := blk_frozen BK204.out 3
          have hfz19_4 := blk_frozen BK204.out 4
          go_wp2
          refine bodyPost_ret (results_ctt rfl _ _ gb204 32 #[.int .i64 0, .string (⟨#[]⟩ : ByteArray), .int .u64 0, .int .i64 0, .int .i64 0] (0, 0) _ rfl (by (with_reducible repeat (first | refine blk_drewN ?_ _ | refine blk_drew ?_ | refine blk_alloc ?_ _)); refine blk_put (cs := #[.int .i64 0, .string (⟨#[]⟩ : ByteArray), .int .u64 0, .int .i64 0, .int .i64 0]) ?_ 4 _ rfl; (with_reducible repeat (first | refine blk_drewN ?_ _ | refine blk_drew ?_ | refine blk_alloc ?_ _)); refine blk_put (cs := #[.int .i64 0, .string (⟨#[]⟩ : ByteArray), .int .u64 0, .int .i64 0, .int .i64 0]) ?_ 3 _ rfl; (with_reducible repeat (first | refine blk_drewN ?_ _ | refine blk_drew ?_ | refine blk_alloc ?_ _)); refine blk_put (cs := #[.int .i64 0, .string (⟨#[]⟩ : ByteArray), .int .u64 0, .int .i64 0, .int .i64 0]) ?_ 2 _ rfl; (with_reducible repeat (first | refine blk_drewN ?_ _ | refine blk_drew ?_ | refine blk_alloc ?_ _)); refine blk_put (cs := #[.int .i64 0, .string (⟨#[]⟩ : ByteArray), .int .u64 0, .int .i64 0, .int .i64 0]) ?_ 1 _ rfl; (with_reducible repeat (first | refine blk_drewN ?_ _ | refine blk_drew ?_ | refine blk_alloc ?_ _)); refine blk_put (cs := #[.int .i64 0, .string (⟨#[]⟩ : ByteArray), .int .u64 0, .int .i64 0, .int .i64 0]) ?_ 0 _ rfl; (with_reducible repeat (first | refine blk_drewN ?_ _ | refine blk_drew ?_ | refine blk_alloc ?_ _)); exact BK204.out) Try.underlying32 rfl (by kernel_rfl)) rfl ?_
          exact ⟨by first | rfl | (simp [errW_none, errW_some] <;> rfl) | (simp [*, errW_none, errW_some] <;> rfl), by repeat (first | (with_reducible first | exact HB.out | apply below_alloc | apply pw_below_drewN | apply below_drew1 | refine below_set ?_ GE204.out) | exact HB.out)⟩
        · rw [if_neg c18] at H
          have c18b0 : decide (64 < (wrap64 (x7_1 - a1))) = false := decide_eq_false c18
          clear c18
          by_cases c20 : 0 ≤ a1
          · rw [if_pos c20] at H
            have c20b0 := eq_true c20
            have c20b1 : decide (0 ≤ a1) = true := decide_eq_true c20
            clear c20
            by_cases c21 : a1 ≤ x7_1
            · rw [if_pos c21] at H
              have c21b0 := eq_true c21
              have c21b1 : decide (a1 ≤ x7_1) = true := decide_eq_true c21
              clear c21
              by_cases c22 : x7_1 ≤ (a0.size : Int)
              · rw [if_pos c22] at H
                have c22b0 := eq_true c22
                have c22b1 : decide (x7_1 ≤ (a0.size : Int)) = true := decide_eq_true c22
                clear c22
                simp only [Option.some.injEq, Prod.mk.injEq] at H
                obtain ⟨rfl, rfl, rfl, rfl, rfl, rfl, rfl⟩ := H
                have hcz23_0 : wr.cell? ⟨gb204, 0, none⟩ = some (.int .i64 0) := (blk_cell BK204.out 0).trans rfl
                have hcz23_1 : wr.cell? ⟨gb204, 1, none⟩ = some (.string (⟨#[]⟩ : ByteArray)) := (blk_cell BK204.out 1).trans rfl
                have hcz23_2 : wr.cell? ⟨gb204, 2, none⟩ = some (.int .u64 0) := (blk_cell BK204.out 2).trans rfl
                have hcz23_3 : wr.cell? ⟨gb204, 3, none⟩ = some (.int .i64 0) := (blk_cell BK204.out 3).trans rfl
                have hcz23_4 : wr.cell? ⟨gb204, 4, none⟩ = some (.int .i64 0) := (blk_cell BK204.out 4).trans rfl
                have hfz23_0 := blk_frozen BK204.out 0
                have hfz23_1 := blk_frozen BK204.out 1
                have hfz23_2 := blk_frozen BK204.out 2
                have hfz23_3 := blk_frozen BK204.out 3
                have hfz23_4 := blk_frozen BK204.out 4
                go_wp2
                refine bodyPost_ret (results_ctt rfl _ _ gb204 32 #[.int .i64 1, .string (a0.extract (a1 : Int).toNat (x7_1 : Int).toNat), .int .u64 0, .int .i64 a1, .int .i64 x7_1] (0, 0) _ rfl (by (with_reducible repeat (first | refine blk_drewN ?_ _ | refine blk_drew ?_ | refine blk_alloc ?_ _)); refine blk_put (cs := #[.int .i64 1, .string (a0.extract (a1 : Int).toNat (x7_1 : Int).toNat), .int .u64 0, .int .i64 a1, .int .i64 0]) ?_ 4 _ rfl; (with_reducible repeat (first | refine blk_drewN ?_ _ | refine blk_drew ?_ | refine blk_alloc ?_ _)); refine blk_put (cs := #[.int .i64 1, .string (a0.extract (a1 : Int).toNat (x7_1 : Int).toNat), .int .u64 0, .int .i64 0, .int .i64 0]) ?_ 3 _ rfl; (with_reducible repeat (first | refine blk_drewN ?_ _ | refine blk_drew ?_ | refine blk_alloc ?_ _)); refine blk_put (cs := #[.int .i64 1, .string (a0.extract (a1 : Int).toNat (x7_1 : Int).toNat), .int .u64 0, .int .i64 0, .int .i64 0]) ?_ 2 _ rfl; (with_reducible repeat (first | refine blk_drewN ?_ _ | refine blk_drew ?_ | refine blk_alloc ?_ _)); refine blk_put (cs := #[.int .i64 1, .string (⟨#[]⟩ : ByteArray), .int .u64 0, .int .i64 0, .int .i64 0]) ?_ 1 _ rfl; (with_reducible repeat (first | refine blk_drewN ?_ _ | refine blk_drew ?_ | refine blk_alloc ?_ _)); refine blk_put (cs := #[.int .i64 0, .string (⟨#[]⟩ : ByteArray), .int .u64 0, .int .i64 0, .int .i64 0]) ?_ 0 _ rfl; (with_reducible repeat (first | refine blk_drewN ?_ _ | refine blk_drew ?_ | refine blk_alloc ?_ _)); exact BK204.out) Try.underlying32 rfl (by kernel_rfl)) rfl ?_
                exact ⟨by first | rfl | (simp [errW_none, errW_some] <;> rfl) | (simp [*, errW_none, errW_some] <;> rfl), by repeat (first | (with_reducible first | exact HB.out | apply below_alloc | apply pw_below_drewN | apply below_drew1 | refine below_set ?_ GE204.out) | exact HB.out)⟩
              · rw [if_neg c22] at H
                exact absurd H (by simp)
            · rw [if_neg c21] at H
              exact absurd H (by simp)
          · rw [if_neg c20] at H
            exact absurd H (by simp)

/-! ### stratumref08_number: function 32 -/
mutual
def stratumref08_number.l0 : Nat → ByteArray → Int → Int → Int → Bool → Option (Int × ByteArray × Int × Int × Int × Int × Int)
  | 0, _, _, _, _, _ => none
  | k + 1, x0, x1, x7, x8, x9 => if x7 < (x0.size : Int) then (if 0 ≤ x7 then ((stratumref08_digit.f (bt x0 x7)).bind fun t208 => (stratumref08_number.j1 k x0 x1 x7 x8 x9 t208)) else (none)) else (stratumref08_number.j1 k x0 x1 x7 x8 x9 false)
def stratumref08_number.j1 : Nat → ByteArray → Int → Int → Int → Bool → Bool → Option (Int × ByteArray × Int × Int × Int × Int × Int)
  | 0, _, _, _, _, _, _ => none
  | k + 1, x0, x1, x7, x8, x9, x21 => if x21 = true then (if 0 ≤ x7 then (if x7 < (x0.size : Int) then (if x8 > 1844674407370955161 then (stratumref08_number.l0 k x0 x1 (wrap64 (x7 + 1)) (IntKind.u64.wrap ((IntKind.u64.wrap (x8 * 10)) + (((bt x0 x7) - 48) % 256))) true) else (if (IntKind.u64.wrap (x8 * 10)) > (18446744073709551615 - (((bt x0 x7) - 48) % 256)) then (stratumref08_number.l0 k x0 x1 (wrap64 (x7 + 1)) (IntKind.u64.wrap ((IntKind.u64.wrap (x8 * 10)) + (((bt x0 x7) - 48) % 256))) true) else (stratumref08_number.l0 k x0 x1 (wrap64 (x7 + 1)) (IntKind.u64.wrap ((IntKind.u64.wrap (x8 * 10)) + (((bt x0 x7) - 48) % 256))) x9))) else (none)) else (none)) else (if x9 = true then (some (0, (⟨#[]⟩ : ByteArray), 0, 0, 0, x1, 111)) else (some (2, (⟨#[]⟩ : ByteArray), x8, x1, x7, 0, 0)))
end
def stratumref08_number.f (k : Nat) (a0 : ByteArray) (a1 : Int) : Option (Int × ByteArray × Int × Int × Int × Int × Int) := stratumref08_number.l0 k a0 a1 a1 0 false
theorem stratumref08_number.mono_l : ∀ k, (∀ y0 y1 y2 y3 y4, LeO (stratumref08_number.l0 k y0 y1 y2 y3 y4) (stratumref08_number.l0 (k + 1) y0 y1 y2 y3 y4)) ∧ (∀ y0 y1 y2 y3 y4 y5, LeO (stratumref08_number.j1 k y0 y1 y2 y3 y4 y5) (stratumref08_number.j1 (k + 1) y0 y1 y2 y3 y4 y5))
  | 0 => ⟨fun _ _ _ _ _ r h => by simp [stratumref08_number.l0] at h, fun _ _ _ _ _ _ r h => by simp [stratumref08_number.j1] at h⟩
  | k + 1 => by
    obtain ⟨ih0, ih1⟩ := stratumref08_number.mono_l k
    refine ⟨?_, ?_⟩
    · intro y0 y1 y2 y3 y4
      unfold stratumref08_number.l0
      repeat' first
      | (with_reducible exact ih0 _ _ _ _ _)
      | (with_reducible exact ih1 _ _ _ _ _ _)
      | (with_reducible exact LeO.refl _)
      | (with_reducible exact LeO.none _)
      | (with_reducible refine LeO.ite ?_ ?_)
      | (with_reducible refine LeO.bind ?_ (fun _ => ?_))
      | exact ih0 _ _ _ _ _
      | exact ih1 _ _ _ _ _ _
      | exact LeO.none _
      | refine LeO.ite ?_ ?_
      | refine LeO.bind ?_ (fun _ => ?_)
    · intro y0 y1 y2 y3 y4 y5
      unfold stratumref08_number.j1
      repeat' first
      | (with_reducible exact ih0 _ _ _ _ _)
      | (with_reducible exact ih1 _ _ _ _ _ _)
      | (with_reducible exact LeO.refl _)
      | (with_reducible exact LeO.none _)
      | (with_reducible refine LeO.ite ?_ ?_)
      | (with_reducible refine LeO.bind ?_ (fun _ => ?_))
      | exact ih0 _ _ _ _ _
      | exact ih1 _ _ _ _ _ _
      | exact LeO.none _
      | refine LeO.ite ?_ ?_
      | refine LeO.bind ?_ (fun _ => ?_)
theorem stratumref08_number.mono : ∀ a0 a1 k, LeO (stratumref08_number.f k a0 a1) (stratumref08_number.f (k + 1) a0 a1) := by
  intro a0 a1 k
  obtain ⟨ih0, ih1⟩ := stratumref08_number.mono_l k
  unfold stratumref08_number.f
  repeat' first
      | (with_reducible exact ih0 _ _ _ _ _)
      | (with_reducible exact ih1 _ _ _ _ _ _)
      | (with_reducible exact LeO.refl _)
      | (with_reducible exact LeO.none _)
      | (with_reducible refine LeO.ite ?_ ?_)
      | (with_reducible refine LeO.bind ?_ (fun _ => ?_))
      | exact ih0 _ _ _ _ _
      | exact ih1 _ _ _ _ _ _
      | exact LeO.none _
      | refine LeO.ite ?_ ?_
      | refine LeO.bind ?_ (fun _ => ?_)
set_option maxHeartbeats 8000000 in
set_option maxRecDepth 100000 in
theorem stratumref08_number.calls (k : Nat) (a0 : ByteArray) (a1 : Int) (r1 : Int) (r2 : ByteArray) (r3 : Int) (r4 : Int) (r5 : Int) (r6 : Int) (r7 : Int) (w : World) (h : stratumref08_number.f k a0 a1 = some (r1, r2, r3, r4, r5, r6, r7)) :
    Calls Try.prog 32 #[.string a0, .int .i64 a1] w fun e w' => e = .returned (.tuple #[.agg #[.int .i64 r1, .string r2, .int .u64 r3, .int .i64 r4, .int .i64 r5], .int .i64 r6, .int .i64 r7]) ∧ Below w.heap.size w w' := by
  have hu32 := Try.underlying32
  have HB := Aside0.mk (Below.refl w.heap.size w)
  have H : (stratumref08_number.l0 k a0 a1 a1 0 false) = some (r1, r2, r3, r4, r5, r6, r7) := h
  clear h
  have H' := Aside0.mk H
  clear H
  go_enter Try.func32, Try.ntmps32
  go_wp2_with (first | ((with_reducible refine gate_dst (N := 4) rfl ?_); refine box_event ?hg (N := 4) ?hd (cs := #[.int .i64 0, .string (⟨#[]⟩ : ByteArray), .int .u64 0, .int .i64 0, .int .i64 0]) (t := 32) ?hr ?_; (case hd => rfl); (case hg => rfl); (case hr => first | (go_simp; done) | (go_simp; rfl)); intro gb207 hg w3 hbox hb; have n0_ := Aside0.mk (below_step (by repeat (first | (with_reducible first | exact HB.out | apply below_alloc | apply pw_below_drewN | apply below_drew1) | exact HB.out)) hb); have n1_ := Aside0.mk (hbox); have n2_ := Aside0.mk ((by rw [hg]; exact (below_size (by repeat (first | (with_reducible first | exact HB.out | apply below_alloc | apply pw_below_drewN | apply below_drew1) | exact HB.out))) : w.heap.size ≤ gb207)); have n3_ := Aside0.mk ((by rw [hg]; exact (below_size (by repeat (first | (with_reducible first | exact HB.out | apply below_alloc | apply pw_below_drewN | apply below_drew1) | exact HB.out))) : w.heap.size ≤ gb207)); clear HB; have HB := n0_; have BK207 := n1_; have GW207 := n2_; have GE207 := n3_; clear n0_ n1_ n2_ n3_; clear hb hbox hg))
  go_loopg [7, 8, 9] k (fun kq v7 v8 v9 w' => ∃ (x7_1 : Int) (x8_1 : Int) (x9_1 : Bool), v7 = .int .i64 x7_1 ∧ v8 = .int .u64 x8_1 ∧ v9 = .bool x9_1 ∧ Aside0 (stratumref08_number.l0 kq a0 a1 x7_1 x8_1 x9_1 = some (r1, r2, r3, r4, r5, r6, r7)) ∧ Aside0 (kq ≤ k) ∧ Aside0 (w'.heap[gb207]? = some (.cells #[.int .i64 0, .string (⟨#[]⟩ : ByteArray), .int .u64 0, .int .i64 0, .int .i64 0] 32 (0, 0))) ∧ Aside0 (Below w.heap.size w w'))
  case atStart => exact ⟨(a1), (0), (false), (by first | rfl | (simp; done) | (simp [*]; done)), (by first | rfl | (simp; done) | (simp [*]; done)), (by first | rfl | (simp; done) | (simp [*]; done)), H', ⟨Nat.le_refl _⟩, ⟨by (with_reducible repeat (first | refine blk_drewN ?_ _ | refine blk_drew ?_ | refine blk_alloc ?_ _)); exact BK207.out⟩, ⟨by repeat (first | (with_reducible first | exact HB.out | apply below_alloc | apply pw_below_drewN | apply below_drew1 | refine below_set ?_ GE207.out) | exact HB.out)⟩⟩
  case round =>
    clear H'
    try clear p2
    try clear c3
    obtain ⟨x7_1, x8_1, x9_1, rfl, rfl, rfl, HA, HK1, BK207, HB⟩ := hrel
    cases gk with
    | zero => exact absurd HA.out (by simp [stratumref08_number.l0])
    | succ k1 =>
      have H := HA.out
      clear HA
      simp only [stratumref08_number.l0] at H
      have HC4 := Aside0.mk H
      clear H
      go_upto_region 4 with (fail)
      go_cut [21] (fun v21 wc => ∃ (kq : Nat) (x21_3 : Bool), v21 = .bool x21_3 ∧ Aside0 (stratumref08_number.j1 kq a0 a1 x7_1 x8_1 x9_1 x21_3 = some (r1, r2, r3, r4, r5, r6, r7)) ∧ Aside0 (kq ≤ k1) ∧ Aside0 (wc.heap[gb207]? = some (.cells #[.int .i64 0, .string (⟨#[]⟩ : ByteArray), .int .u64 0, .int .i64 0, .int .i64 0] 32 (0, 0))) ∧ Aside0 (Below w.heap.size w wc))
      case first =>
        have H := HC4.out
        clear HC4
        by_cases c5 : x7_1 < (a0.size : Int)
        · rw [if_pos c5] at H
          have c5b0 : decide (x7_1 < (a0.size : Int)) = true := decide_eq_true c5
          clear c5
          (first | rw [c5b0] | (simp only [i64_w, i32_w]; rw [c5b0]) | skip)
          by_cases c6 : 0 ≤ x7_1
          · rw [if_pos c6] at H
            have c6b0 : decide (0 ≤ x7_1) = true := decide_eq_true c6
            clear c6
            replace H := Option.bind_eq_some_iff.mp H
            obtain ⟨t208, A80, H⟩ := H
            replace H : (stratumref08_number.j1 k1 a0 a1 x7_1 x8_1 x9_1 t208) = some (r1, r2, r3, r4, r5, r6, r7) := H
            have A8 := Aside0.mk A80
            clear A80
            have H' := Aside0.mk H
            clear H
            have p7 : 0 ≤ (x7_1 : Int) := of_decide_eq_true (by first | (with_reducible assumption) | assumption)
            have q7 : x7_1 < (a0.size : Int) := of_decide_eq_true (by first | (with_reducible assumption) | assumption)
            have hx7 := bt_at a0 x7_1
            replace p7 := eq_true p7
            replace q7 := eq_true q7
            go_wp2_with (first | (go_at_call 29; (with_reducible refine (stratumref08_digit.calls (bt a0 x7_1) t208 _ A8.out).mono ?_); rintro e w' ⟨rfl, ⟨nd, rfl⟩⟩))
            go_meet
            case rel => exact ⟨_, (t208), (by first | rfl | (simp; done) | (simp [*]; done)), H', ⟨by have := HK1.out; first | omega | exact Nat.le_refl _⟩, ⟨by (with_reducible repeat (first | refine blk_drewN ?_ _ | refine blk_drew ?_ | refine blk_alloc ?_ _)); exact BK207.out⟩, ⟨by repeat (first | (with_reducible first | exact HB.out | apply below_alloc | apply pw_below_drewN | apply below_drew1 | refine below_set ?_ GE207.out) | exact HB.out)⟩⟩
          · rw [if_neg c6] at H
            exact absurd H (by simp)
        · rw [if_neg c5] at H
          have c5b0 : decide (x7_1 < (a0.size : Int)) = false := decide_eq_false c5
          clear c5
          (first | rw [c5b0] | (simp only [i64_w, i32_w]; rw [c5b0]) | skip)
          have H' := Aside0.mk H
          clear H
          go_wp2
          go_meet
          case rel => exact ⟨_, (false), (by first | rfl | (simp; done) | (simp [*]; done)), H', ⟨by have := HK1.out; first | omega | exact Nat.le_refl _⟩, ⟨by (with_reducible repeat (first | refine blk_drewN ?_ _ | refine blk_drew ?_ | refine blk_alloc ?_ _)); exact BK207.out⟩, ⟨by repeat (first | (with_reducible first | exact HB.out | apply below_alloc | apply pw_below_drewN | apply below_drew1 | refine below_set ?_ GE207.out) | exact HB.out)⟩⟩
      case rest =>
        clear HC4
        try clear p2
        try clear c3
        try clear c5
        try clear c5b0
        try clear c6
        try clear c6b0
        try clear p7
        try clear q7
        try clear hx7
        try clear p2
        try clear p7
        try clear q7
        obtain ⟨kq, x21_3, rfl, HA, HJ3, BK207, HB⟩ := hcut
        cases kq with
        | zero => exact absurd HA.out (by simp [stratumref08_number.j1])
        | succ kj3 =>
          have H := HA.out
          clear HA
          simp only [stratumref08_number.j1] at H
          by_cases c9 : x21_3 = true
          · subst c9
            have H1 : (if 0 ≤ x7_1 then (if x7_1 < (a0.size : Int) then (if x8_1 > 1844674407370955161 then (stratumref08_number.l0 kj3 a0 a1 (wrap64 (x7_1 + 1)) (IntKind.u64.wrap ((IntKind.u64.wrap (x8_1 * 10)) + (((bt a0 x7_1) - 48) % 256))) true) else (if (IntKind.u64.wrap (x8_1 * 10)) > (18446744073709551615 - (((bt a0 x7_1) - 48) % 256)) then (stratumref08_number.l0 kj3 a0 a1 (wrap64 (x7_1 + 1)) (IntKind.u64.wrap ((IntKind.u64.wrap (x8_1 * 10)) + (((bt a0 x7_1) - 48) % 256))) true) else (stratumref08_number.l0 kj3 a0 a1 (wrap64 (x7_1 + 1)) (IntKind.u64.wrap ((IntKind.u64.wrap (x8_1 * 10)) + (((bt a0 x7_1) - 48) % 256))) x9_1))) else (none)) else (none)) = some (r1, r2, r3, r4, r5, r6, r7) := by rw [if_pos rfl] at H; exact H
            clear H
            have H := H1
            clear H1
            by_cases c10 : 0 ≤ x7_1
            · rw [if_pos c10] at H
              have c10b0 : decide (0 ≤ x7_1) = true := decide_eq_true c10
              clear c10
              by_cases c11 : x7_1 < (a0.size : Int)
              · rw [if_pos c11] at H
                have c11b0 : decide (x7_1 < (a0.size : Int)) = true := decide_eq_true c11
                clear c11
                by_cases c13 : x8_1 > 1844674407370955161
                · rw [if_pos c13] at H
                  have c13b0 : decide (1844674407370955161 < x8_1) = true := decide_eq_true c13
                  clear c13
                  have H' := Aside0.mk H
                  clear H
                  have p12 : 0 ≤ (x7_1 : Int) := of_decide_eq_true (by first | (with_reducible assumption) | assumption)
                  have q12 : x7_1 < (a0.size : Int) := of_decide_eq_true (by first | (with_reducible assumption) | assumption)
                  have hx12 := bt_at a0 x7_1
                  replace p12 := eq_true p12
                  replace q12 := eq_true q12
                  go_wp2
                  go_roundg kj3
                  case measure => have := HK1.out; have := HJ3.out; omega
                  case rel => exact ⟨(wrap64 (x7_1 + 1)), (IntKind.u64.wrap ((IntKind.u64.wrap (x8_1 * 10)) + (((bt a0 x7_1) - 48) % 256))), (true), (by first | rfl | (simp; done) | (simp [*]; done)), (by first | rfl | (simp; done) | (simp [*]; done)), (by first | rfl | (simp; done) | (simp [*]; done)), H', ⟨by have := HK1.out; have := HJ3.out; omega⟩, ⟨by (with_reducible repeat (first | refine blk_drewN ?_ _ | refine blk_drew ?_ | refine blk_alloc ?_ _)); exact BK207.out⟩, ⟨by repeat (first | (with_reducible first | exact HB.out | apply below_alloc | apply pw_below_drewN | apply below_drew1 | refine below_set ?_ GE207.out) | exact HB.out)⟩⟩
                · rw [if_neg c13] at H
                  have c13b0 : decide (1844674407370955161 < x8_1) = false := decide_eq_false c13
                  clear c13
                  by_cases c14 : (IntKind.u64.wrap (x8_1 * 10)) > (18446744073709551615 - (((bt a0 x7_1) - 48) % 256))
                  · rw [if_pos c14] at H
                    have c14b0 : decide ((18446744073709551615 - (((bt a0 x7_1) - 48) % 256)) < (IntKind.u64.wrap (x8_1 * 10))) = true := decide_eq_true c14
                    clear c14
                    have H' := Aside0.mk H
                    clear H
                    have p12 : 0 ≤ (x7_1 : Int) := of_decide_eq_true (by first | (with_reducible assumption) | assumption)
                    have q12 : x7_1 < (a0.size : Int) := of_decide_eq_true (by first | (with_reducible assumption) | assumption)
                    have hx12 := bt_at a0 x7_1
                    replace p12 := eq_true p12
                    replace q12 := eq_true q12
                    go_wp2
                    go_roundg kj3
                    case measure => have := HK1.out; have := HJ3.out; omega
                    case rel => exact ⟨(wrap64 (x7_1 + 1)), (IntKind.u64.wrap ((IntKind.u64.wrap (x8_1 * 10)) + (((bt a0 x7_1) - 48) % 256))), (true), (by first | rfl | (simp; done) | (simp [*]; done)), (by first | rfl | (simp; done) | (simp [*]; done)), (by first | rfl | (simp; done) | (simp [*]; done)), H', ⟨by have := HK1.out; have := HJ3.out; omega⟩, ⟨by (with_reducible repeat (first | refine blk_drewN ?_ _ | refine blk_drew ?_ | refine blk_alloc ?_ _)); exact BK207.out⟩, ⟨by repeat (first | (with_reducible first | exact HB.out | apply below_alloc | apply pw_below_drewN | apply below_drew1 | refine below_set ?_ GE207.out) | exact HB.out)⟩⟩
                  · rw [if_neg c14] at H
                    have c14b0 : decide ((18446744073709551615 - (((bt a0 x7_1) - 48) % 256)) < (IntKind.u64.wrap (x8_1 * 10))) = false := decide_eq_false c14
                    clear c14
                    have H' := Aside0.mk H
                    clear H
                    have p12 : 0 ≤ (x7_1 : Int) := of_decide_eq_true (by first | (with_reducible assumption) | assumption)
                    have q12 : x7_1 < (a0.size : Int) := of_decide_eq_true (by first | (with_reducible assumption) | assumption)
                    have hx12 := bt_at a0 x7_1
                    replace p12 := eq_true p12
                    replace q12 := eq_true q12
                    go_wp2
                    go_roundg kj3
                    case measure => have := HK1.out; have := HJ3.out; omega
                    case rel => exact ⟨(wrap64 (x7_1 + 1)), (IntKind.u64.wrap ((IntKind.u64.wrap (x8_1 * 10)) + (((bt a0 x7_1) - 48) % 256))), (x9_1), (by first | rfl | (simp; done) | (simp [*]; done)), (by first | rfl | (simp; done) | (simp [*]; done)), (by first | rfl | (simp; done) | (simp [*]; done)), H', ⟨by have := HK1.out; have := HJ3.out; omega⟩, ⟨by (with_reducible repeat (first | refine blk_drewN ?_ _ | refine blk_drew ?_ | refine blk_alloc ?_ _)); exact BK207.out⟩, ⟨by repeat (first | (with_reducible first | exact HB.out | apply below_alloc | apply pw_below_drewN | apply below_drew1 | refine below_set ?_ GE207.out) | exact HB.out)⟩⟩
              · rw [if_neg c11] at H
                exact absurd H (by simp)
            · rw [if_neg c10] at H
              exact absurd H (by simp)
          · replace c9 := Bool.eq_false_iff.mpr c9
            subst c9
            have H1 : (if x9_1 = true then (some (0, (⟨#[]⟩ : ByteArray), 0, 0, 0, a1, 111)) else (some (2, (⟨#[]⟩ : ByteArray), x8_1, a1, x7_1, 0, 0))) = some (r1, r2, r3, r4, r5, r6, r7) := by rw [if_neg (show ¬ (false = true) by decide)] at H; exact H
            clear H
            have H := H1
            clear H1
            by_cases c15 : x9_1 = true
            · subst c15
              have H1 : (some (0, (⟨#[]⟩ : ByteArray), 0, 0, 0, a1, 111)) = some (r1, r2, r3, r4, r5, r6, r7) := by rw [if_pos rfl] at H; exact H
              clear H
              have H := H1
              clear H1
              simp only [Option.some.injEq, Prod.mk.injEq] at H
              obtain ⟨rfl, rfl, rfl, rfl, rfl, rfl, rfl⟩ := H
              have hcz16_0 : wc.cell? ⟨gb207, 0, none⟩ = some (.int .i64 0) := (blk_cell BK207.out 0).trans rfl
              have hcz16_1 : wc.cell? ⟨gb207, 1, none⟩ = some (.string (⟨#[]⟩ : ByteArray)) := (blk_cell BK207.out 1).trans rfl
              have hcz16_2 : wc.cell? ⟨gb207, 2, none⟩ = some (.int .u64 0) := (blk_cell BK207.out 2).trans rfl
              have hcz16_3 : wc.cell? ⟨gb207, 3, none⟩ = some (.int .i64 0) := (blk_cell BK207.out 3).trans rfl
              have hcz16_4 : wc.cell? ⟨gb207, 4, none⟩ = some (.int .i64 0) := (blk_cell BK207.out 4).trans rfl
              have hfz16_0 := blk_frozen BK207.out 0
              have hfz16_1 := blk_frozen BK207.out 1
              have hfz16_2 := blk_frozen BK207.out 2
              have hfz16_3 := blk_frozen BK207.out 3
              have hfz16_4 := blk_frozen BK207.out 4
              go_wp2
              refine bodyPost_ret (results_ctt rfl _ _ gb207 32 #[.int .i64 0, .string (⟨#[]⟩ : ByteArray), .int .u64 0, .int .i64 0, .int .i64 0] (0, 0) _ rfl (by (with_reducible repeat (first | refine blk_drewN ?_ _ | refine blk_drew ?_ | refine blk_alloc ?_ _)); refine blk_put (cs := #[.int .i64 0, .string (⟨#[]⟩ : ByteArray), .int .u64 0, .int .i64 0, .int .i64 0]) ?_ 4 _ rfl; (with_reducible repeat (first | refine blk_drewN ?_ _ | refine blk_drew ?_ | refine blk_alloc ?_ _)); refine blk_put (cs := #[.int .i64 0, .string (⟨#[]⟩ : ByteArray), .int .u64 0, .int .i64 0, .int .i64 0]) ?_ 3 _ rfl; (with_reducible repeat (first | refine blk_drewN ?_ _ | refine blk_drew ?_ | refine blk_alloc ?_ _)); refine blk_put (cs := #[.int .i64 0, .string (⟨#[]⟩ : ByteArray), .int .u64 0, .int .i64 0, .int .i64 0]) ?_ 2 _ rfl; (with_reducible repeat (first | refine blk_drewN ?_ _ | refine blk_drew ?_ | refine blk_alloc ?_ _)); refine blk_put (cs := #[.int .i64 0, .string (⟨#[]⟩ : ByteArray), .int .u64 0, .int .i64 0, .int .i64 0]) ?_ 1 _ rfl; (with_reducible repeat (first | refine blk_drewN ?_ _ | refine blk_drew ?_ | refine blk_alloc ?_ _)); refine blk_put (cs := #[.int .i64 0, .string (⟨#[]⟩ : ByteArray), .int .u64 0, .int .i64 0, .int .i64 0]) ?_ 0 _ rfl; (with_reducible repeat (first | refine blk_drewN ?_ _ | refine blk_drew ?_ | refine blk_alloc ?_ _)); exact BK207.out) Try.underlying32 rfl (by kernel_rfl)) rfl ?_
              exact ⟨by first | rfl | (simp [errW_none, errW_some] <;> rfl) | (simp [*, errW_none, errW_some] <;> rfl), by repeat (first | (with_reducible first | exact HB.out | apply below_alloc | apply pw_below_drewN | apply below_drew1 | refine below_set ?_ GE207.out) | exact HB.out)⟩
            · replace c15 := Bool.eq_false_iff.mpr c15
              subst c15
              have H1 : (some (2, (⟨#[]⟩ : ByteArray), x8_1, a1, x7_1, 0, 0)) = some (r1, r2, r3, r4, r5, r6, r7) := by rw [if_neg (show ¬ (false = true) by decide)] at H; exact H
              clear H
              have H := H1
              clear H1
              simp only [Option.some.injEq, Prod.mk.injEq] at H
              obtain ⟨rfl, rfl, rfl, rfl, rfl, rfl, rfl⟩ := H
              have hcz17_0 : wc.cell? ⟨gb207, 0, none⟩ = some (.int .i64 0) := (blk_cell BK207.out 0).trans rfl
              have hcz17_1 : wc.cell? ⟨gb207, 1, none⟩ = some (.string (⟨#[]⟩ : ByteArray)) := (blk_cell BK207.out 1).trans rfl
              have hcz17_2 : wc.cell? ⟨gb207, 2, none⟩ = some (.int .u64 0) := (blk_cell BK207.out 2).trans rfl
              have hcz17_3 : wc.cell? ⟨gb207, 3, none⟩ = some (.int .i64 0) := (blk_cell BK207.out 3).trans rfl
              have hcz17_4 : wc.cell? ⟨gb207, 4, none⟩ = some (.int .i64 0) := (blk_cell BK207.out 4).trans rfl
              have hfz17_0 := blk_frozen BK207.out 0
              have hfz17_1 := blk_frozen BK207.out 1
              have hfz17_2 := blk_frozen BK207.out 2
              have hfz17_3 := blk_frozen BK207.out 3
              have hfz17_4 := blk_frozen BK207.out 4
              go_wp2
              refine bodyPost_ret (results_ctt rfl _ _ gb207 32 #[.int .i64 2, .string (⟨#[]⟩ : ByteArray), .int .u64 x8_1, .int .i64 a1, .int .i64 x7_1] (0, 0) _ rfl (by (with_reducible repeat (first | refine blk_drewN ?_ _ | refine blk_drew ?_ | refine blk_alloc ?_ _)); refine blk_put (cs := #[.int .i64 2, .string (⟨#[]⟩ : ByteArray), .int .u64 x8_1, .int .i64 a1, .int .i64 0]) ?_ 4 _ rfl; (with_reducible repeat (first | refine blk_drewN ?_ _ | refine blk_drew ?_ | refine blk_alloc ?_ _)); refine blk_put (cs := #[.int .i64 2, .string (⟨#[]⟩ : ByteArray), .int .u64 x8_1, .int .i64 0, .int .i64 0]) ?_ 3 _ rfl; (with_reducible repeat (first | refine blk_drewN ?_ _ | refine blk_drew ?_ | refine blk_alloc ?_ _)); refine blk_put (cs := #[.int .i64 2, .string (⟨#[]⟩ : ByteArray), .int .u64 0, .int .i64 0, .int .i64 0]) ?_ 2 _ rfl; (with_reducible repeat (first | refine blk_drewN ?_ _ | refine blk_drew ?_ | refine blk_alloc ?_ _)); refine blk_put (cs := #[.int .i64 2, .string (⟨#[]⟩ : ByteArray), .int .u64 0, .int .i64 0, .int .i64 0]) ?_ 1 _ rfl; (with_reducible repeat (first | refine blk_drewN ?_ _ | refine blk_drew ?_ | refine blk_alloc ?_ _)); refine blk_put (cs := #[.int .i64 0, .string (⟨#[]⟩ : ByteArray), .int .u64 0, .int .i64 0, .int .i64 0]) ?_ 0 _ rfl; (with_reducible repeat (first | refine blk_drewN ?_ _ | refine blk_drew ?_ | refine blk_alloc ?_ _)); exact BK207.out) Try.underlying32 rfl (by kernel_rfl)) rfl ?_
              exact ⟨by first | rfl | (simp [errW_none, errW_some] <;> rfl) | (simp [*, errW_none, errW_some] <;> rfl), by repeat (first | (with_reducible first | exact HB.out | apply below_alloc | apply pw_below_drewN | apply below_drew1 | refine below_set ?_ GE207.out) | exact HB.out)⟩

end Go.Proofs.Ytedhkelochpdnaa.X
