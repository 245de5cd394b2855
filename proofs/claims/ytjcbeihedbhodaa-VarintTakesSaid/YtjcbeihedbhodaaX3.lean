/- The machine's side of the laws of this seat: for each Go function a Lean function of lists and numbers, and that the call answers what it answers. No condition but those in the theorems. -/
import Derived.Test.YtjcbeihedbhodaaX0
import Derived.Test.YtjcbeihedbhodaaX1
namespace Go.Proofs.Ytjcbeihedbhodaa.X
open Go.RowKit Go.Proofs.YtjcbeihedbhodaaW.PrintWords Go.Proofs.YtjcbeihedbhodaaW.PrintLast Go.Proofs.YtjcbeihedbhodaaW.PrintMore
attribute [local go_sem] max2_int min2_int max_two min_two max_three min_three max_four min_four   -- for this text's walks alone
set_option linter.unusedVariables false
set_option linter.unusedSimpArgs false

/-! ### stratumref02_Take: function 19 -/
mutual
def stratumref02_Take.l0 : Nat → List Int → Int → Option (Int × Int × Int)
  | 0, _, _ => none
  | k + 1, x0, x5 => if x5 < (x0.length : Int) then (stratumref02_Take.j1 k x0 x5 (decide (x5 < 10))) else (stratumref02_Take.j1 k x0 x5 false)
def stratumref02_Take.j1 : Nat → List Int → Int → Bool → Option (Int × Int × Int)
  | 0, _, _, _ => none
  | k + 1, x0, x5, x15 => if x15 = true then (if x5 > 0 then (if 0 ≤ x5 then (if x5 < (x0.length : Int) then (stratumref02_Take.j2 k x0 x5 ((rd x0 x5) == 0)) else (none)) else (none)) else (stratumref02_Take.j2 k x0 x5 false)) else (some (0, 0, 5))
def stratumref02_Take.j2 : Nat → List Int → Int → Bool → Option (Int × Int × Int)
  | 0, _, _, _ => none
  | k + 1, x0, x5, x24 => if x24 = true then (some (0, 0, 3)) else (if x5 = 9 then (if 0 ≤ x5 then (if x5 < (x0.length : Int) then (stratumref02_Take.j3 k x0 x5 (decide ((rd x0 x5) > 1))) else (none)) else (none)) else (stratumref02_Take.j3 k x0 x5 false))
def stratumref02_Take.j3 : Nat → List Int → Int → Bool → Option (Int × Int × Int)
  | 0, _, _, _ => none
  | k + 1, x0, x5, x33 => if x33 = true then (some (0, 0, 3)) else (if 0 ≤ (wrap64 ((wrap64 (x5 + 1)) - 1)) then (if (wrap64 ((wrap64 (x5 + 1)) - 1)) < (x0.length : Int) then (if (rd x0 (wrap64 ((wrap64 (x5 + 1)) - 1))) < 128 then (stratumref02_Take.l1 k x0 (wrap64 (x5 + 1)) 0 (wrap64 ((wrap64 (x5 + 1)) - 1))) else (stratumref02_Take.l0 k x0 (wrap64 (x5 + 1)))) else (none)) else (none))
def stratumref02_Take.l1 : Nat → List Int → Int → Int → Int → Option (Int × Int × Int)
  | 0, _, _, _, _ => none
  | k + 1, x0, x5, x6, x7 => if x7 ≥ 0 then (if 0 ≤ x7 then (if x7 < (x0.length : Int) then (stratumref02_Take.l1 k x0 x5 (IntKind.u64.wrap ((IntKind.u64.wrap (x6 * 128)) + (IntKind.u64.wrap (Int.tmod (rd x0 x7) 128)))) (wrap64 (x7 - 1))) else (none)) else (none)) else (some (x6, x5, 0))
end
def stratumref02_Take.f (k : Nat) (l0 : List Int) : Option (Int × Int × Int) := stratumref02_Take.l0 k l0 0
theorem stratumref02_Take.mono_l : ∀ k, (∀ y0 y1, LeO (stratumref02_Take.l0 k y0 y1) (stratumref02_Take.l0 (k + 1) y0 y1)) ∧ (∀ y0 y1 y2, LeO (stratumref02_Take.j1 k y0 y1 y2) (stratumref02_Take.j1 (k + 1) y0 y1 y2)) ∧ (∀ y0 y1 y2, LeO (stratumref02_Take.j2 k y0 y1 y2) (stratumref02_Take.j2 (k + 1) y0 y1 y2)) ∧ (∀ y0 y1 y2, LeO (stratumref02_Take.j3 k y0 y1 y2) (stratumref02_Take.j3 (k + 1) y0 y1 y2)) ∧ (∀ y0 y1 y2 y3, LeO (stratumref02_Take.l1 k y0 y1 y2 y3) (stratumref02_Take.l1 (k + 1) y0 y1 y2 y3))
  | 0 => ⟨fun _ _ r h => by simp [stratumref02_Take.l0] at h, fun _ _ _ r h => by simp [stratumref02_Take.j1] at h, fun _ _ _ r h => by simp [stratumref02_Take.j2] at h, fun _ _ _ r h => by simp [stratumref02_Take.j3] at h, fun _ _ _ _ r h => by simp [stratumref02_Take.l1] at h⟩
  | k + 1 => by
    obtain ⟨ih0, ih1, ih2, ih3, ih4⟩ := stratumref02_Take.mono_l k
    refine ⟨?_, ?_, ?_, ?_, ?_⟩
    · intro y0 y1
      unfold stratumref02_Take.l0
      repeat' first
      | (with_reducible exact ih0 _ _)
      | (with_reducible exact ih1 _ _ _)
      | (with_reducible exact ih2 _ _ _)
      | (with_reducible exact ih3 _ _ _)
      | (with_reducible exact ih4 _ _ _ _)
      | (with_reducible exact LeO.refl _)
      | (with_reducible exact LeO.none _)
      | (with_reducible refine LeO.ite ?_ ?_)
      | (with_reducible refine LeO.bind ?_ (fun _ => ?_))
      | exact ih0 _ _
      | exact ih1 _ _ _
      | exact ih2 _ _ _
      | exact ih3 _ _ _
      | exact ih4 _ _ _ _
      | exact LeO.none _
      | refine LeO.ite ?_ ?_
      | refine LeO.bind ?_ (fun _ => ?_)
    · intro y0 y1 y2
      unfold stratumref02_Take.j1
      repeat' first
      | (with_reducible exact ih0 _ _)
      | (with_reducible exact ih1 _ _ _)
      | (with_reducible exact ih2 _ _ _)
      | (with_reducible exact ih3 _ _ _)
      | (with_reducible exact ih4 _ _ _ _)
      | (with_reducible exact LeO.refl _)
      | (with_reducible exact LeO.none _)
      | (with_reducible refine LeO.ite ?_ ?_)
      | (with_reducible refine LeO.bind ?_ (fun _ => ?_))
      | exact ih0 _ _
      | exact ih1 _ _ _
      | exact ih2 _ _ _
      | exact ih3 _ _ _
      | exact ih4 _ _ _ _
      | exact LeO.none _
      | refine LeO.ite ?_ ?_
      | refine LeO.bind ?_ (fun _ => ?_)
    · intro y0 y1 y2
      unfold stratumref02_Take.j2
      repeat' first
      | (with_reducible exact ih0 _ _)
      | (with_reducible exact ih1 _ _ _)
      | (with_reducible exact ih2 _ _ _)
      | (with_reducible exact ih3 _ _ _)
      | (with_reducible exact ih4 _ _ _ _)
      | (with_reducible exact LeO.refl _)
      | (with_reducible exact LeO.none _)
      | (with_reducible refine LeO.ite ?_ ?_)
      | (with_reducible refine LeO.bind ?_ (fun _ => ?_))
      | exact ih0 _ _
      | exact ih1 _ _ _
      | exact ih2 _ _ _
      | exact ih3 _ _ _
      | exact ih4 _ _ _ _
      | exact LeO.none _
      | refine LeO.ite ?_ ?_
      | refine LeO.bind ?_ (fun _ => ?_)
    · intro y0 y1 y2
      unfold stratumref02_Take.j3
      repeat' first
      | (with_reducible exact ih0 _ _)
      | (with_reducible exact ih1 _ _ _)
      | (with_reducible exact ih2 _ _ _)
      | (with_reducible exact ih3 _ _ _)
      | (with_reducible exact ih4 _ _ _ _)
      | (with_reducible exact LeO.refl _)
      | (with_reducible exact LeO.none _)
      | (with_reducible refine LeO.ite ?_ ?_)
      | (with_reducible refine LeO.bind ?_ (fun _ => ?_))
      | exact ih0 _ _
      | exact ih1 _ _ _
      | exact ih2 _ _ _
      | exact ih3 _ _ _
      | exact ih4 _ _ _ _
      | exact LeO.none _
      | refine LeO.ite ?_ ?_
      | refine LeO.bind ?_ (fun _ => ?_)
    · intro y0 y1 y2 y3
      unfold stratumref02_Take.l1
      repeat' first
      | (with_reducible exact ih0 _ _)
      | (with_reducible exact ih1 _ _ _)
      | (with_reducible exact ih2 _ _ _)
      | (with_reducible exact ih3 _ _ _)
      | (with_reducible exact ih4 _ _ _ _)
      | (with_reducible exact LeO.refl _)
      | (with_reducible exact LeO.none _)
      | (with_reducible refine LeO.ite ?_ ?_)
      | (with_reducible refine LeO.bind ?_ (fun _ => ?_))
      | exact ih0 _ _
      | exact ih1 _ _ _
      | exact ih2 _ _ _
      | exact ih3 _ _ _
      | exact ih4 _ _ _ _
      | exact LeO.none _
      | refine LeO.ite ?_ ?_
      | refine LeO.bind ?_ (fun _ => ?_)
theorem stratumref02_Take.mono : ∀ a0 k, LeO (stratumref02_Take.f k a0) (stratumref02_Take.f (k + 1) a0) := by
  intro a0 k
  obtain ⟨ih0, ih1, ih2, ih3, ih4⟩ := stratumref02_Take.mono_l k
  unfold stratumref02_Take.f
  repeat' first
      | (with_reducible exact ih0 _ _)
      | (with_reducible exact ih1 _ _ _)
      | (with_reducible exact ih2 _ _ _)
      | (with_reducible exact ih3 _ _ _)
      | (with_reducible exact ih4 _ _ _ _)
      | (with_reducible exact LeO.refl _)
      | (with_reducible exact LeO.none _)
      | (with_reducible refine LeO.ite ?_ ?_)
      | (with_reducible refine LeO.bind ?_ (fun _ => ?_))
      | exact ih0 _ _
      | exact ih1 _ _ _
      | exact ih2 _ _ _
      | exact ih3 _ _ _
      | exact ih4 _ _ _ _
      | exact LeO.none _
      | refine LeO.ite ?_ ?_
      | refine LeO.bind ?_ (fun _ => ?_)
set_option maxHeartbeats 8000000 in
set_option maxRecDepth 100000 in
theorem stratumref02_Take.calls (k : Nat) (A0 : Option Addr) (c0 : Nat) (l0 : List Int) (r1 : Int) (r2 : Int) (r3 : Int) (w : World) (hr0 : Kd.C (Kd.int .u8) w A0 l0.length l0) (hc0 : l0.length ≤ c0) (h : stratumref02_Take.f k l0 = some (r1, r2, r3)) :
    Calls Try.prog 19 #[.slice A0 l0.length c0] w fun e w' => e = .returned (.tuple #[.int .u64 r1, .int .i64 r2, .int .i64 r3]) ∧ Drawn0 w w' := by
  have HR0 := Aside0.mk hr0
  have HC0 := Aside0.mk hc0
  clear hr0 hc0
  have H : (stratumref02_Take.l0 k l0 0) = some (r1, r2, r3) := h
  clear h
  have H' := Aside0.mk H
  clear H
  go_enter Try.func19, Try.ntmps19
  go_wp2
  go_loopg [5] k (fun kq v5 w' => ∃ (x5_1 : Int), v5 = .int .i64 x5_1 ∧ Aside0 (stratumref02_Take.l0 kq l0 x5_1 = some (r1, r2, r3)) ∧ Aside0 (kq ≤ k) ∧ Drawn0 w w')
  case atStart => exact ⟨(0), (by first | rfl | (simp; done) | (simp [*]; done)), H', ⟨Nat.le_refl _⟩, by repeat (first | exact Drawn0.refl _ | apply Drawn0.step)⟩
  case round =>
    clear H'
    try clear c1
    obtain ⟨x5_1, rfl, HA, HK1, ⟨m1, rfl⟩⟩ := hrel
    cases gk with
    | zero => exact absurd HA.out (by simp [stratumref02_Take.l0])
    | succ k1 =>
      have H := HA.out
      clear HA
      simp only [stratumref02_Take.l0] at H
      have HC2 := Aside0.mk H
      clear H
      go_upto_region 2 with (fail)
      go_cut [15] (fun v15 wc => ∃ (kq : Nat) (x15_1 : Bool), v15 = .bool x15_1 ∧ Aside0 (stratumref02_Take.j1 kq l0 x5_1 x15_1 = some (r1, r2, r3)) ∧ Aside0 (kq ≤ k1) ∧ Drawn0 w wc)
      case first =>
        have H := HC2.out
        clear HC2
        by_cases c3 : x5_1 < (l0.length : Int)
        · rw [if_pos c3] at H
          have c3b0 : decide (x5_1 < (l0.length : Int)) = true := decide_eq_true c3
          clear c3
          (first | rw [c3b0] | (simp only [i64_w, i32_w]; rw [c3b0]) | skip)
          have H' := Aside0.mk H
          clear H
          go_wp2
          go_meet
          case rel => exact ⟨_, (decide (x5_1 < 10)), (by first | rfl | (simp; done) | (simp [*]; done)), H', ⟨by have := HK1.out; first | omega | exact Nat.le_refl _⟩, by repeat (first | exact Drawn0.refl _ | apply Drawn0.step)⟩
        · rw [if_neg c3] at H
          have c3b0 : decide (x5_1 < (l0.length : Int)) = false := decide_eq_false c3
          clear c3
          (first | rw [c3b0] | (simp only [i64_w, i32_w]; rw [c3b0]) | skip)
          have H' := Aside0.mk H
          clear H
          go_wp2
          go_meet
          case rel => exact ⟨_, (false), (by first | rfl | (simp; done) | (simp [*]; done)), H', ⟨by have := HK1.out; first | omega | exact Nat.le_refl _⟩, by repeat (first | exact Drawn0.refl _ | apply Drawn0.step)⟩
      case rest =>
        clear HC2
        try clear c1
        try clear p2
        try clear c3
        try clear c3b0
        obtain ⟨kq, x15_1, rfl, HA, HJ1, ⟨mc1, rfl⟩⟩ := hcut
        cases kq with
        | zero => exact absurd HA.out (by simp [stratumref02_Take.j1])
        | succ kj1 =>
          have H := HA.out
          clear HA
          simp only [stratumref02_Take.j1] at H
          by_cases c4 : x15_1 = true
          · subst c4
            have H1 : (if x5_1 > 0 then (if 0 ≤ x5_1 then (if x5_1 < (l0.length : Int) then (stratumref02_Take.j2 kj1 l0 x5_1 ((rd l0 x5_1) == 0)) else (none)) else (none)) else (stratumref02_Take.j2 kj1 l0 x5_1 false)) = some (r1, r2, r3) := by rw [if_pos rfl] at H; exact H
            clear H
            have H := H1
            clear H1
            have HC5 := Aside0.mk H
            clear H
            go_upto_region 3 with (fail)
            go_cut [24] (fun v24 wc => ∃ (kq : Nat) (x24_4 : Bool), v24 = .bool x24_4 ∧ Aside0 (stratumref02_Take.j2 kq l0 x5_1 x24_4 = some (r1, r2, r3)) ∧ Aside0 (kq ≤ kj1) ∧ Drawn0 w wc)
            case first =>
              have H := HC5.out
              clear HC5
              by_cases c6 : x5_1 > 0
              · rw [if_pos c6] at H
                have c6b0 : decide (0 < x5_1) = true := decide_eq_true c6
                clear c6
                (first | rw [c6b0] | (simp only [i64_w, i32_w]; rw [c6b0]) | skip)
                by_cases c7 : 0 ≤ x5_1
                · rw [if_pos c7] at H
                  have c7b0 : decide (0 ≤ x5_1) = true := decide_eq_true c7
                  clear c7
                  by_cases c8 : x5_1 < (l0.length : Int)
                  · rw [if_pos c8] at H
                    have c8b0 : decide (x5_1 < (l0.length : Int)) = true := decide_eq_true c8
                    clear c8
                    have H' := Aside0.mk H
                    clear H
                    have p141 : 0 ≤ (x5_1 : Int) := of_decide_eq_true (by first | (with_reducible assumption) | assumption)
                    have q141 : x5_1 < (l0.length : Int) := of_decide_eq_true (by first | (with_reducible assumption) | assumption)
                    obtain ⟨ad141, e141, hx141_0⟩ := Kd.at_int HR0.out x5_1 p141 q141
                    cases e141
                    replace p141 := eq_true p141
                    replace q141 := eq_true q141
                    go_wp2
                    go_meet
                    case rel => exact ⟨_, (((rd l0 x5_1) == 0)), (by first | rfl | (simp; done) | (simp [*]; done)), H', ⟨by have := HK1.out; have := HJ1.out; first | omega | exact Nat.le_refl _⟩, by repeat (first | exact Drawn0.refl _ | apply Drawn0.step)⟩
                  · rw [if_neg c8] at H
                    exact absurd H (by simp)
                · rw [if_neg c7] at H
                  exact absurd H (by simp)
              · rw [if_neg c6] at H
                have c6b0 : decide (0 < x5_1) = false := decide_eq_false c6
                clear c6
                (first | rw [c6b0] | (simp only [i64_w, i32_w]; rw [c6b0]) | skip)
                have H' := Aside0.mk H
                clear H
                go_wp2
                go_meet
                case rel => exact ⟨_, (false), (by first | rfl | (simp; done) | (simp [*]; done)), H', ⟨by have := HK1.out; have := HJ1.out; first | omega | exact Nat.le_refl _⟩, by repeat (first | exact Drawn0.refl _ | apply Drawn0.step)⟩
            case rest =>
              clear HC5
              try clear c1
              try clear p1
              try clear q1
              try clear hx1
              try clear p2
              try clear c3
              try clear c3b0
              try clear c4
              try clear c6
              try clear c6b0
              try clear c7
              try clear c7b0
              try clear c8
              try clear c8b0
              try clear hx141_0
              try clear p141
              try clear p2
              try clear q141
              obtain ⟨kq, x24_4, rfl, HA, HJ4, ⟨mc4, rfl⟩⟩ := hcut
              cases kq with
              | zero => exact absurd HA.out (by simp [stratumref02_Take.j2])
              | succ kj4 =>
                have H := HA.out
                clear HA
                simp only [stratumref02_Take.j2] at H
                by_cases c9 : x24_4 = true
                · subst c9
                  have H1 : (some (0, 0, 3)) = some (r1, r2, r3) := by rw [if_pos rfl] at H; exact H
                  clear H
                  have H := H1
                  clear H1
                  simp only [Option.some.injEq, Prod.mk.injEq] at H
                  obtain ⟨rfl, rfl, rfl⟩ := H
                  go_wp2
                  go_ret3
                  exact ⟨by first | rfl | (simp; done) | (simp [*]; done), by repeat (first | exact Drawn0.refl _ | apply Drawn0.step)⟩
                · replace c9 := Bool.eq_false_iff.mpr c9
                  subst c9
                  have H1 : (if x5_1 = 9 then (if 0 ≤ x5_1 then (if x5_1 < (l0.length : Int) then (stratumref02_Take.j3 kj4 l0 x5_1 (decide ((rd l0 x5_1) > 1))) else (none)) else (none)) else (stratumref02_Take.j3 kj4 l0 x5_1 false)) = some (r1, r2, r3) := by rw [if_neg (show ¬ (false = true) by decide)] at H; exact H
                  clear H
                  have H := H1
                  clear H1
                  have HC10 := Aside0.mk H
                  clear H
                  go_upto_region 5 with (fail)
                  go_cut [33] (fun v33 wc => ∃ (kq : Nat) (x33_9 : Bool), v33 = .bool x33_9 ∧ Aside0 (stratumref02_Take.j3 kq l0 x5_1 x33_9 = some (r1, r2, r3)) ∧ Aside0 (kq ≤ kj4) ∧ Drawn0 w wc)
                  case first =>
                    have H := HC10.out
                    clear HC10
                    by_cases c11 : x5_1 = 9
                    · rw [if_pos c11] at H
                      have c11b0 : (x5_1 == 9) = true := beq_iff_eq.mpr c11
                      have c11b1 : (x5_1 != 9) = false := bne_eq_false_iff_eq.mpr c11
                      clear c11
                      (first | rw [c11b0] | (simp only [i64_w, i32_w]; rw [c11b0]) | skip)
                      by_cases c12 : 0 ≤ x5_1
                      · rw [if_pos c12] at H
                        have c12b0 : decide (0 ≤ x5_1) = true := decide_eq_true c12
                        clear c12
                        by_cases c13 : x5_1 < (l0.length : Int)
                        · rw [if_pos c13] at H
                          have c13b0 : decide (x5_1 < (l0.length : Int)) = true := decide_eq_true c13
                          clear c13
                          have H' := Aside0.mk H
                          clear H
                          have p142 : 0 ≤ (x5_1 : Int) := of_decide_eq_true (by first | (with_reducible assumption) | assumption)
                          have q142 : x5_1 < (l0.length : Int) := of_decide_eq_true (by first | (with_reducible assumption) | assumption)
                          obtain ⟨ad142, e142, hx142_0⟩ := Kd.at_int HR0.out x5_1 p142 q142
                          cases e142
                          replace p142 := eq_true p142
                          replace q142 := eq_true q142
                          go_wp2
                          go_meet
                          case rel => exact ⟨_, (decide ((rd l0 x5_1) > 1)), (by first | rfl | (simp; done) | (simp [*]; done)), H', ⟨by have := HK1.out; have := HJ1.out; have := HJ4.out; first | omega | exact Nat.le_refl _⟩, by repeat (first | exact Drawn0.refl _ | apply Drawn0.step)⟩
                        · rw [if_neg c13] at H
                          exact absurd H (by simp)
                      · rw [if_neg c12] at H
                        exact absurd H (by simp)
                    · rw [if_neg c11] at H
                      have c11b0 : (x5_1 == 9) = false := beq_eq_false_iff_ne.mpr c11
                      have c11b1 : (x5_1 != 9) = true := bne_iff_ne.mpr c11
                      (first | rw [c11b0] | (simp only [i64_w, i32_w]; rw [c11b0]) | skip)
                      have H' := Aside0.mk H
                      clear H
                      go_wp2
                      go_meet
                      case rel => exact ⟨_, (false), (by first | rfl | (simp; done) | (simp [*]; done)), H', ⟨by have := HK1.out; have := HJ1.out; have := HJ4.out; first | omega | exact Nat.le_refl _⟩, by repeat (first | exact Drawn0.refl _ | apply Drawn0.step)⟩
                  case rest =>
                    clear HC10
                    try clear c1
                    try clear p1
                    try clear q1
                    try clear hx1
                    try clear p2
                    try clear c3
                    try clear c3b0
                    try clear c4
                    try clear c6
                    try clear c6b0
                    try clear c7
                    try clear c7b0
                    try clear c8
                    try clear c8b0
                    try clear c9
                    try clear c11
                    try clear c11b0
                    try clear c11b1
                    try clear c12
                    try clear c12b0
                    try clear c13
                    try clear c13b0
                    try clear hx141_0
                    try clear hx142_0
                    try clear p1
                    try clear p141
                    try clear p142
                    try clear p2
                    try clear q1
                    try clear q141
                    try clear q142
                    obtain ⟨kq, x33_9, rfl, HA, HJ9, ⟨mc9, rfl⟩⟩ := hcut
                    cases kq with
                    | zero => exact absurd HA.out (by simp [stratumref02_Take.j3])
                    | succ kj9 =>
                      have H := HA.out
                      clear HA
                      simp only [stratumref02_Take.j3] at H
                      by_cases c14 : x33_9 = true
                      · subst c14
                        have H1 : (some (0, 0, 3)) = some (r1, r2, r3) := by rw [if_pos rfl] at H; exact H
                        clear H
                        have H := H1
                        clear H1
                        simp only [Option.some.injEq, Prod.mk.injEq] at H
                        obtain ⟨rfl, rfl, rfl⟩ := H
                        go_wp2
                        go_ret3
                        exact ⟨by first | rfl | (simp; done) | (simp [*]; done), by repeat (first | exact Drawn0.refl _ | apply Drawn0.step)⟩
                      · replace c14 := Bool.eq_false_iff.mpr c14
                        subst c14
                        have H1 : (if 0 ≤ (wrap64 ((wrap64 (x5_1 + 1)) - 1)) then (if (wrap64 ((wrap64 (x5_1 + 1)) - 1)) < (l0.length : Int) then (if (rd l0 (wrap64 ((wrap64 (x5_1 + 1)) - 1))) < 128 then (stratumref02_Take.l1 kj9 l0 (wrap64 (x5_1 + 1)) 0 (wrap64 ((wrap64 (x5_1 + 1)) - 1))) else (stratumref02_Take.l0 kj9 l0 (wrap64 (x5_1 + 1)))) else (none)) else (none)) = some (r1, r2, r3) := by rw [if_neg (show ¬ (false = true) by decide)] at H; exact H
                        clear H
                        have H := H1
                        clear H1
                        obtain ⟨ji15, hji15⟩ : ∃ j_ : Int, (wrap64 ((wrap64 (x5_1 + 1)) - 1)) = j_ := ⟨_, rfl⟩
                        replace H : (if 0 ≤ (ji15) then (if (ji15) < (l0.length : Int) then (if (rd l0 (ji15)) < 128 then (stratumref02_Take.l1 kj9 l0 (wrap64 (x5_1 + 1)) 0 ji15) else (stratumref02_Take.l0 kj9 l0 (wrap64 (x5_1 + 1)))) else (none)) else (none)) = some (r1, r2, r3) := by first | (rw [hji15] at H; exact H) | (simp only [hji15] at H ⊢; exact H)
                        have hji15w : (IntKind.i64.wrap ((wrap64 (x5_1 + 1)) - 1)) = ji15 := (i64_w _).trans hji15
                        by_cases c16 : 0 ≤ (ji15)
                        · rw [if_pos c16] at H
                          have c16b0 : decide (0 ≤ (ji15)) = true := decide_eq_true c16
                          clear c16
                          by_cases c17 : (ji15) < (l0.length : Int)
                          · rw [if_pos c17] at H
                            have c17b0 : decide ((ji15) < (l0.length : Int)) = true := decide_eq_true c17
                            clear c17
                            by_cases c18 : (rd l0 (ji15)) < 128
                            · rw [if_pos c18] at H
                              have c18b0 : decide ((rd l0 (ji15)) < 128) = true := decide_eq_true c18
                              clear c18
                              have H' := Aside0.mk H
                              clear H
                              have p143 : 0 ≤ ((ji15) : Int) := of_decide_eq_true (by first | (with_reducible assumption) | assumption)
                              have q143 : (ji15) < (l0.length : Int) := of_decide_eq_true (by first | (with_reducible assumption) | assumption)
                              obtain ⟨ad143, e143, hx143_0⟩ := Kd.at_int HR0.out (ji15) p143 q143
                              cases e143
                              replace p143 := eq_true p143
                              replace q143 := eq_true q143
                              go_wp2
                              go_loopg [6, 7] kj9 (fun kq v6 v7 w' => ∃ (x6_5 : Int) (x7_5 : Int), v6 = .int .u64 x6_5 ∧ v7 = .int .i64 x7_5 ∧ Aside0 (stratumref02_Take.l1 kq l0 (wrap64 (x5_1 + 1)) x6_5 x7_5 = some (r1, r2, r3)) ∧ Aside0 (kq ≤ kj9) ∧ Drawn0 w w')
                              case atStart => exact ⟨(0), (ji15), (by first | rfl | (simp; done) | (simp [*]; done)), (by first | rfl | (simp; done) | (simp only [← hji15] <;> (first | rfl | simp)) | (simp [*]; done)), H', ⟨Nat.le_refl _⟩, by repeat (first | exact Drawn0.refl _ | apply Drawn0.step)⟩
                              case round =>
                                clear H'
                                try clear c1
                                try clear p1
                                try clear q1
                                try clear hx1
                                try clear p2
                                try clear c3
                                try clear c3b0
                                try clear c4
                                try clear c6
                                try clear c6b0
                                try clear p6
                                try clear c7
                                try clear c7b0
                                try clear c8
                                try clear c8b0
                                try clear c9
                                try clear c11
                                try clear c11b0
                                try clear c11b1
                                try clear c12
                                try clear c12b0
                                try clear c13
                                try clear c13b0
                                try clear c14
                                try clear p14
                                try clear q14
                                try clear hx14
                                try clear c16
                                try clear c16b0
                                try clear c17
                                try clear c17b0
                                try clear c18
                                try clear c18b0
                                try clear hx141_0
                                try clear hx142_0
                                try clear hx143_0
                                try clear p1
                                try clear p141
                                try clear p142
                                try clear p143
                                try clear p2
                                try clear q1
                                try clear q141
                                try clear q142
                                try clear q143
                                obtain ⟨x6_5, x7_5, rfl, rfl, HA, HK5, ⟨m5, rfl⟩⟩ := hrel
                                cases gk with
                                | zero => exact absurd HA.out (by simp [stratumref02_Take.l1])
                                | succ k5 =>
                                  have H := HA.out
                                  clear HA
                                  simp only [stratumref02_Take.l1] at H
                                  by_cases c19 : x7_5 ≥ 0
                                  · rw [if_pos c19] at H
                                    have c19b0 : decide (0 ≤ x7_5) = true := decide_eq_true c19
                                    clear c19
                                    by_cases c20 : 0 ≤ x7_5
                                    · rw [if_pos c20] at H
                                      have c20b0 : decide (0 ≤ x7_5) = true := decide_eq_true c20
                                      clear c20
                                      by_cases c21 : x7_5 < (l0.length : Int)
                                      · rw [if_pos c21] at H
                                        have c21b0 : decide (x7_5 < (l0.length : Int)) = true := decide_eq_true c21
                                        clear c21
                                        have H' := Aside0.mk H
                                        clear H
                                        have p144 : 0 ≤ (x7_5 : Int) := of_decide_eq_true (by first | (with_reducible assumption) | assumption)
                                        have q144 : x7_5 < (l0.length : Int) := of_decide_eq_true (by first | (with_reducible assumption) | assumption)
                                        obtain ⟨ad144, e144, hx144_0⟩ := Kd.at_int HR0.out x7_5 p144 q144
                                        obtain rfl : ad143 = ad144 := (by injection e144)
                                        replace p144 := eq_true p144
                                        replace q144 := eq_true q144
                                        go_wp2
                                        go_roundg k5
                                        case measure => have := HK1.out; have := HJ1.out; have := HJ4.out; have := HJ9.out; have := HK5.out; omega
                                        case rel => exact ⟨(IntKind.u64.wrap ((IntKind.u64.wrap (x6_5 * 128)) + (IntKind.u64.wrap (Int.tmod (rd l0 x7_5) 128)))), (wrap64 (x7_5 - 1)), (by first | rfl | (simp; done) | (simp [*]; done)), (by first | rfl | (simp; done) | (simp [*]; done)), H', ⟨by have := HK1.out; have := HJ1.out; have := HJ4.out; have := HJ9.out; have := HK5.out; omega⟩, by repeat (first | exact Drawn0.refl _ | apply Drawn0.step)⟩
                                      · rw [if_neg c21] at H
                                        exact absurd H (by simp)
                                    · rw [if_neg c20] at H
                                      exact absurd H (by simp)
                                  · rw [if_neg c19] at H
                                    have c19b0 : decide (0 ≤ x7_5) = false := decide_eq_false c19
                                    clear c19
                                    simp only [Option.some.injEq, Prod.mk.injEq] at H
                                    obtain ⟨rfl, rfl, rfl⟩ := H
                                    go_wp2
                                    go_ret3
                                    exact ⟨by first | rfl | (simp; done) | (simp only [← hji15] <;> (first | rfl | simp)) | (simp [*]; done), by repeat (first | exact Drawn0.refl _ | apply Drawn0.step)⟩
                            · rw [if_neg c18] at H
                              have c18b0 : decide ((rd l0 (ji15)) < 128) = false := decide_eq_false c18
                              clear c18
                              have H' := Aside0.mk H
                              clear H
                              have p143 : 0 ≤ ((ji15) : Int) := of_decide_eq_true (by first | (with_reducible assumption) | assumption)
                              have q143 : (ji15) < (l0.length : Int) := of_decide_eq_true (by first | (with_reducible assumption) | assumption)
                              obtain ⟨ad143, e143, hx143_0⟩ := Kd.at_int HR0.out (ji15) p143 q143
                              cases e143
                              replace p143 := eq_true p143
                              replace q143 := eq_true q143
                              go_wp2
                              go_roundg kj9
                              case measure => have := HK1.out; have := HJ1.out; have := HJ4.out; have := HJ9.out; omega
                              case rel => exact ⟨(wrap64 (x5_1 + 1)), (by first | rfl | (simp; done) | (simp [*]; done)), H', ⟨by have := HK1.out; have := HJ1.out; have := HJ4.out; have := HJ9.out; omega⟩, by repeat (first | exact Drawn0.refl _ | apply Drawn0.step)⟩
                          · rw [if_neg c17] at H
                            exact absurd H (by simp)
                        · rw [if_neg c16] at H
                          exact absurd H (by simp)
          · replace c4 := Bool.eq_false_iff.mpr c4
            subst c4
            have H1 : (some (0, 0, 5)) = some (r1, r2, r3) := by rw [if_neg (show ¬ (false = true) by decide)] at H; exact H
            clear H
            have H := H1
            clear H1
            simp only [Option.some.injEq, Prod.mk.injEq] at H
            obtain ⟨rfl, rfl, rfl⟩ := H
            go_wp2
            go_ret3
            exact ⟨by first | rfl | (simp; done) | (simp [*]; done), by repeat (first | exact Drawn0.refl _ | apply Drawn0.step)⟩

/-! ### stratumlaw02_VarintTakes: function 4 -/
def stratumlaw02_VarintTakes.l0 : Nat → List Int → Int → Option (Bool)
  | 0, _, _ => none
  | k + 1, x0, x3 => if x3 ≤ (x0.length : Int) then (if 0 ≤ x3 then ((stratumref02_Take.f k (x0.drop (x3 : Int).toNat)).bind fun bt147 => ((varint_Take.f k (x0.drop (x3 : Int).toNat)).bind fun bt151 => (if bt151.1 = bt147.1 then (if bt151.2.1 = bt147.2.1 then (if bt151.2.2 = bt147.2.2 then (stratumlaw02_VarintTakes.l0 k x0 (wrap64 (x3 + 1))) else (some false)) else (some false)) else (some false)))) else (none)) else (some true)
def stratumlaw02_VarintTakes.f (k : Nat) (l0 : List Int) : Option (Bool) := (stratumlaw02_lives.f k).bind fun t145 => (if t145 = true then (stratumlaw02_VarintTakes.l0 k l0 0) else (some false))
theorem stratumlaw02_VarintTakes.mono_l : ∀ k, (∀ y0 y1, LeO (stratumlaw02_VarintTakes.l0 k y0 y1) (stratumlaw02_VarintTakes.l0 (k + 1) y0 y1))
  | 0 => fun _ _ r h => by simp [stratumlaw02_VarintTakes.l0] at h
  | k + 1 => by
    have ih0 := stratumlaw02_VarintTakes.mono_l k
    · intro y0 y1
      unfold stratumlaw02_VarintTakes.l0
      repeat' first
      | (with_reducible exact ih0 _ _)
      | (with_reducible exact stratumlaw02_lives.mono _)
      | (with_reducible exact stratumref02_Take.mono _ _)
      | (with_reducible exact varint_Take.mono _ _)
      | (with_reducible exact LeO.refl _)
      | (with_reducible exact LeO.none _)
      | (with_reducible refine LeO.ite ?_ ?_)
      | (with_reducible refine LeO.bind ?_ (fun _ => ?_))
      | exact ih0 _ _
      | exact stratumlaw02_lives.mono _
      | exact stratumref02_Take.mono _ _
      | exact varint_Take.mono _ _
      | exact LeO.none _
      | refine LeO.ite ?_ ?_
      | refine LeO.bind ?_ (fun _ => ?_)
theorem stratumlaw02_VarintTakes.mono : ∀ a0 k, LeO (stratumlaw02_VarintTakes.f k a0) (stratumlaw02_VarintTakes.f (k + 1) a0) := by
  intro a0 k
  have ih0 := stratumlaw02_VarintTakes.mono_l k
  unfold stratumlaw02_VarintTakes.f
  repeat' first
      | (with_reducible exact ih0 _ _)
      | (with_reducible exact stratumlaw02_lives.mono _)
      | (with_reducible exact stratumref02_Take.mono _ _)
      | (with_reducible exact varint_Take.mono _ _)
      | (with_reducible exact LeO.refl _)
      | (with_reducible exact LeO.none _)
      | (with_reducible refine LeO.ite ?_ ?_)
      | (with_reducible refine LeO.bind ?_ (fun _ => ?_))
      | exact ih0 _ _
      | exact stratumlaw02_lives.mono _
      | exact stratumref02_Take.mono _ _
      | exact varint_Take.mono _ _
      | exact LeO.none _
      | refine LeO.ite ?_ ?_
      | refine LeO.bind ?_ (fun _ => ?_)
set_option maxHeartbeats 8000000 in
set_option maxRecDepth 100000 in
theorem stratumlaw02_VarintTakes.calls (k : Nat) (A0 : Option Addr) (c0 : Nat) (l0 : List Int) (r : Bool) (w : World) (hr0 : Kd.C (Kd.int .u8) w A0 l0.length l0) (hc0 : l0.length ≤ c0) (h : stratumlaw02_VarintTakes.f k l0 = some r) :
    Calls Try.prog 4 #[.slice A0 l0.length c0] w fun e w' => e = .returned (.bool r) ∧ Below w.heap.size w w' := by
  have HR0 := Aside0.mk hr0
  have HC0 := Aside0.mk hc0
  clear hr0 hc0
  have HB := Aside0.mk (Below.refl w.heap.size w)
  have H : ((stratumlaw02_lives.f k).bind fun t145 => (if t145 = true then (stratumlaw02_VarintTakes.l0 k l0 0) else (some false))) = some r := h
  clear h
  replace H := Option.bind_eq_some_iff.mp H
  obtain ⟨t145, A20, H⟩ := H
  replace H : (if t145 = true then (stratumlaw02_VarintTakes.l0 k l0 0) else (some false)) = some r := H
  have A2 := Aside0.mk A20
  clear A20
  by_cases c3 : t145 = true
  · subst c3
    have H1 : (stratumlaw02_VarintTakes.l0 k l0 0) = some r := by rw [if_pos rfl] at H; exact H
    clear H
    have H := H1
    clear H1
    have H' := Aside0.mk H
    clear H
    go_enter Try.func4, Try.ntmps4
    go_wp2_with (first | ((with_reducible refine gate_callee (f := 9) rfl ?_); refine goesL_ (some 10) rfl rfl Try.func9 (by kernel_rfl) rfl #[] rfl (by (try simp only [List.map_toArray, List.map_cons, List.map_nil]); first | done | rfl | (simp only [List.length_drop, List.length_take]; rfl)) ?_; (with_reducible refine (stratumlaw02_lives.calls k  true _ A2.out).mono ?_); rintro e w4 ⟨rfl, hb⟩; refine ⟨_, rfl, ?_⟩; have n0_ := Aside0.mk (below_step (by repeat (first | (with_reducible first | exact HB.out | apply below_alloc | apply pw_below_drewN | apply below_drew1) | exact HB.out)) hb); clear HB; have HB := n0_; clear n0_; (try clear hb); (try clear hb2); (try clear hk); (try clear hi)))
    go_loopg [3] k (fun kq v3 w' => ∃ (x3_1 : Int), v3 = .int .i64 x3_1 ∧ Aside0 (stratumlaw02_VarintTakes.l0 kq l0 x3_1 = some r) ∧ Aside0 (kq ≤ k) ∧ Aside0 (Below w.heap.size w w'))
    case atStart => exact ⟨(0), (by first | rfl | (simp; done) | (simp [*]; done)), H', ⟨Nat.le_refl _⟩, ⟨by repeat (first | (with_reducible first | exact HB.out | apply below_alloc | apply pw_below_drewN | apply below_drew1) | exact HB.out)⟩⟩
    case round =>
      clear H'
      try clear p2
      try clear c3
      try clear c4
      obtain ⟨x3_1, rfl, HA, HK1, HB⟩ := hrel
      cases gk with
      | zero => exact absurd HA.out (by simp [stratumlaw02_VarintTakes.l0])
      | succ k1 =>
        have H := HA.out
        clear HA
        simp only [stratumlaw02_VarintTakes.l0] at H
        by_cases c5 : x3_1 ≤ (l0.length : Int)
        · rw [if_pos c5] at H
          have c5b0 : decide (x3_1 ≤ (l0.length : Int)) = true := decide_eq_true c5
          clear c5
          by_cases c6 : 0 ≤ x3_1
          · rw [if_pos c6] at H
            have c6b0 := eq_true c6
            have c6b1 : decide (0 ≤ x3_1) = true := decide_eq_true c6
            clear c6
            have c7b0 := eq_true (of_decide_eq_true (by first | (with_reducible assumption) | assumption) : x3_1 ≤ (l0.length : Int))
            replace H := Option.bind_eq_some_iff.mp H
            obtain ⟨⟨t147, t148, t149⟩, A80, H⟩ := H
            replace H : ((varint_Take.f k1 (l0.drop (x3_1 : Int).toNat)).bind fun bt151 => (if bt151.1 = t147 then (if bt151.2.1 = t148 then (if bt151.2.2 = t149 then (stratumlaw02_VarintTakes.l0 k1 l0 (wrap64 (x3_1 + 1))) else (some false)) else (some false)) else (some false))) = some r := H
            have A8 := Aside0.mk A80
            clear A80
            have c9b0 := eq_true (of_decide_eq_true (by first | (with_reducible assumption) | assumption) : 0 ≤ x3_1)
            have c10b0 := eq_true (of_decide_eq_true (by first | (with_reducible assumption) | assumption) : x3_1 ≤ (l0.length : Int))
            replace H := Option.bind_eq_some_iff.mp H
            obtain ⟨⟨t151, t152, t153⟩, A110, H⟩ := H
            replace H : (if t151 = t147 then (if t152 = t148 then (if t153 = t149 then (stratumlaw02_VarintTakes.l0 k1 l0 (wrap64 (x3_1 + 1))) else (some false)) else (some false)) else (some false)) = some r := H
            have A11 := Aside0.mk A110
            clear A110
            by_cases c12 : t151 = t147
            · rw [if_pos c12] at H
              have c12b0 : (t151 == t147) = true := beq_iff_eq.mpr c12
              have c12b1 : (t151 != t147) = false := bne_eq_false_iff_eq.mpr c12
              clear c12
              by_cases c13 : t152 = t148
              · rw [if_pos c13] at H
                have c13b0 : (t152 == t148) = true := beq_iff_eq.mpr c13
                have c13b1 : (t152 != t148) = false := bne_eq_false_iff_eq.mpr c13
                clear c13
                by_cases c14 : t153 = t149
                · rw [if_pos c14] at H
                  have c14b0 : (t153 == t149) = true := beq_iff_eq.mpr c14
                  have c14b1 : (t153 != t149) = false := bne_eq_false_iff_eq.mpr c14
                  clear c14
                  have H' := Aside0.mk H
                  clear H
                  obtain ⟨i015, hi015, _, hsz15, _⟩ := info_parts info5
                  obtain ⟨A15, hcut15, hA15, hC15⟩ := print_drop_of (P := Try.prog) (Value.int .u8) 0 22 5 .i64 Try.underlying22 hi015 hsz15 A0 c0 l0 x3_1 (of_decide_eq_true (by first | (with_reducible assumption) | assumption)) (of_decide_eq_true (by first | (with_reducible assumption) | assumption)) HC0.out
                  have HR146 := Aside0.mk (Kd.C_of_reads (h1 := fun _ => rfl) (hA15 _ (Kd.reads_of_C HR0.out)))
                  have HC146 := Aside0.mk hC15
                  clear hA15 hC15 hi015 hsz15
                  go_wp2_with (first | ((with_reducible refine gate_callee (f := 19) rfl ?_); refine goesL_ (some 22) rfl rfl Try.func19 (by kernel_rfl) rfl #[.slice A15 (l0.drop (x3_1 : Int).toNat).length (c0 - x3_1.toNat)] rfl (by (try simp only [List.map_toArray, List.map_cons, List.map_nil]); first | done | (rw [show (l0.drop (x3_1 : Int).toNat).length = (l0.length - x3_1.toNat) from List.length_drop] <;> rfl) | rfl | (simp only [List.length_drop, List.length_take]; rfl)) ?_; (with_reducible refine (stratumref02_Take.calls k1 _ _ (l0.drop (x3_1 : Int).toNat) t147 t148 t149 _ ?side1 ?side2 A8.out).mono ?_); (case side1 => repeat (first | exact (Kd.C_below HR146.out HB.out) | (with_reducible refine Kd.C_alloc ?_ _) | (with_reducible refine Kd.C_drewN ?_ _) | (with_reducible refine Kd.C_drew ?_))); (case side2 => exact HC146.out); rintro e w' ⟨rfl, ⟨nd, rfl⟩⟩; refine ⟨_, rfl, ?_⟩; have HR150 := HR146; have HC150 := HC146) | ((with_reducible refine gate_callee (f := 20) rfl ?_); refine goesL_ (some 30) rfl rfl Try.func20 (by kernel_rfl) rfl #[.slice A15 (l0.drop (x3_1 : Int).toNat).length (c0 - x3_1.toNat)] rfl (by (try simp only [List.map_toArray, List.map_cons, List.map_nil]); first | done | (rw [show (l0.drop (x3_1 : Int).toNat).length = (l0.length - x3_1.toNat) from List.length_drop] <;> rfl) | rfl | (simp only [List.length_drop, List.length_take]; rfl)) ?_; (with_reducible refine (varint_Take.calls k1 _ _ (l0.drop (x3_1 : Int).toNat) t151 t152 t153 _ ?side1 ?side2 A11.out).mono ?_); (case side1 => repeat (first | exact (Kd.C_below HR150.out (by repeat (first | (with_reducible first | exact HB.out | apply below_alloc | apply pw_below_drewN | apply below_drew1) | exact HB.out))) | (with_reducible refine Kd.C_alloc ?_ _) | (with_reducible refine Kd.C_drewN ?_ _) | (with_reducible refine Kd.C_drew ?_))); (case side2 => exact HC150.out); rintro e w' ⟨rfl, ⟨nd, rfl⟩⟩; refine ⟨_, rfl, ?_⟩))
                  go_roundg k1
                  case measure => have := HK1.out; omega
                  case rel => exact ⟨(wrap64 (x3_1 + 1)), (by first | rfl | (simp; done) | (simp [*]; done)), H', ⟨by have := HK1.out; omega⟩, ⟨by repeat (first | (with_reducible first | exact HB.out | apply below_alloc | apply pw_below_drewN | apply below_drew1) | exact HB.out)⟩⟩
                · rw [if_neg c14] at H
                  have c14b0 : (t153 == t149) = false := beq_eq_false_iff_ne.mpr c14
                  have c14b1 : (t153 != t149) = true := bne_iff_ne.mpr c14
                  obtain rfl := Option.some.inj H
                  obtain ⟨i017, hi017, _, hsz17, _⟩ := info_parts info5
                  obtain ⟨A17, hcut17, hA17, hC17⟩ := print_drop_of (P := Try.prog) (Value.int .u8) 0 22 5 .i64 Try.underlying22 hi017 hsz17 A0 c0 l0 x3_1 (of_decide_eq_true (by first | (with_reducible assumption) | assumption)) (of_decide_eq_true (by first | (with_reducible assumption) | assumption)) HC0.out
                  have HR146 := Aside0.mk (Kd.C_of_reads (h1 := fun _ => rfl) (hA17 _ (Kd.reads_of_C HR0.out)))
                  have HC146 := Aside0.mk hC17
                  clear hA17 hC17 hi017 hsz17
                  go_wp2_with (first | ((with_reducible refine gate_callee (f := 19) rfl ?_); refine goesL_ (some 22) rfl rfl Try.func19 (by kernel_rfl) rfl #[.slice A17 (l0.drop (x3_1 : Int).toNat).length (c0 - x3_1.toNat)] rfl (by (try simp only [List.map_toArray, List.map_cons, List.map_nil]); first | done | (rw [show (l0.drop (x3_1 : Int).toNat).length = (l0.length - x3_1.toNat) from List.length_drop] <;> rfl) | rfl | (simp only [List.length_drop, List.length_take]; rfl)) ?_; (with_reducible refine (stratumref02_Take.calls k1 _ _ (l0.drop (x3_1 : Int).toNat) t147 t148 t149 _ ?side1 ?side2 A8.out).mono ?_); (case side1 => repeat (first | exact (Kd.C_below HR146.out HB.out) | (with_reducible refine Kd.C_alloc ?_ _) | (with_reducible refine Kd.C_drewN ?_ _) | (with_reducible refine Kd.C_drew ?_))); (case side2 => exact HC146.out); rintro e w' ⟨rfl, ⟨nd, rfl⟩⟩; refine ⟨_, rfl, ?_⟩; have HR150 := HR146; have HC150 := HC146) | ((with_reducible refine gate_callee (f := 20) rfl ?_); refine goesL_ (some 30) rfl rfl Try.func20 (by kernel_rfl) rfl #[.slice A17 (l0.drop (x3_1 : Int).toNat).length (c0 - x3_1.toNat)] rfl (by (try simp only [List.map_toArray, List.map_cons, List.map_nil]); first | done | (rw [show (l0.drop (x3_1 : Int).toNat).length = (l0.length - x3_1.toNat) from List.length_drop] <;> rfl) | rfl | (simp only [List.length_drop, List.length_take]; rfl)) ?_; (with_reducible refine (varint_Take.calls k1 _ _ (l0.drop (x3_1 : Int).toNat) t151 t152 t153 _ ?side1 ?side2 A11.out).mono ?_); (case side1 => repeat (first | exact (Kd.C_below HR150.out (by repeat (first | (with_reducible first | exact HB.out | apply below_alloc | apply pw_below_drewN | apply below_drew1) | exact HB.out))) | (with_reducible refine Kd.C_alloc ?_ _) | (with_reducible refine Kd.C_drewN ?_ _) | (with_reducible refine Kd.C_drew ?_))); (case side2 => exact HC150.out); rintro e w' ⟨rfl, ⟨nd, rfl⟩⟩; refine ⟨_, rfl, ?_⟩))
                  go_ret
                  exact ⟨by first | rfl | (simp [errW_none, errW_some] <;> rfl) | (simp [*, errW_none, errW_some] <;> rfl), by repeat (first | (with_reducible first | exact HB.out | apply below_alloc | apply pw_below_drewN | apply below_drew1) | exact HB.out)⟩
              · rw [if_neg c13] at H
                have c13b0 : (t152 == t148) = false := beq_eq_false_iff_ne.mpr c13
                have c13b1 : (t152 != t148) = true := bne_iff_ne.mpr c13
                obtain rfl := Option.some.inj H
                obtain ⟨i019, hi019, _, hsz19, _⟩ := info_parts info5
                obtain ⟨A19, hcut19, hA19, hC19⟩ := print_drop_of (P := Try.prog) (Value.int .u8) 0 22 5 .i64 Try.underlying22 hi019 hsz19 A0 c0 l0 x3_1 (of_decide_eq_true (by first | (with_reducible assumption) | assumption)) (of_decide_eq_true (by first | (with_reducible assumption) | assumption)) HC0.out
                have HR146 := Aside0.mk (Kd.C_of_reads (h1 := fun _ => rfl) (hA19 _ (Kd.reads_of_C HR0.out)))
                have HC146 := Aside0.mk hC19
                clear hA19 hC19 hi019 hsz19
                go_wp2_with (first | ((with_reducible refine gate_callee (f := 19) rfl ?_); refine goesL_ (some 22) rfl rfl Try.func19 (by kernel_rfl) rfl #[.slice A19 (l0.drop (x3_1 : Int).toNat).length (c0 - x3_1.toNat)] rfl (by (try simp only [List.map_toArray, List.map_cons, List.map_nil]); first | done | (rw [show (l0.drop (x3_1 : Int).toNat).length = (l0.length - x3_1.toNat) from List.length_drop] <;> rfl) | rfl | (simp only [List.length_drop, List.length_take]; rfl)) ?_; (with_reducible refine (stratumref02_Take.calls k1 _ _ (l0.drop (x3_1 : Int).toNat) t147 t148 t149 _ ?side1 ?side2 A8.out).mono ?_); (case side1 => repeat (first | exact (Kd.C_below HR146.out HB.out) | (with_reducible refine Kd.C_alloc ?_ _) | (with_reducible refine Kd.C_drewN ?_ _) | (with_reducible refine Kd.C_drew ?_))); (case side2 => exact HC146.out); rintro e w' ⟨rfl, ⟨nd, rfl⟩⟩; refine ⟨_, rfl, ?_⟩; have HR150 := HR146; have HC150 := HC146) | ((with_reducible refine gate_callee (f := 20) rfl ?_); refine goesL_ (some 30) rfl rfl Try.func20 (by kernel_rfl) rfl #[.slice A19 (l0.drop (x3_1 : Int).toNat).length (c0 - x3_1.toNat)] rfl (by (try simp only [List.map_toArray, List.map_cons, List.map_nil]); first | done | (rw [show (l0.drop (x3_1 : Int).toNat).length = (l0.length - x3_1.toNat) from List.length_drop] <;> rfl) | rfl | (simp only [List.length_drop, List.length_take]; rfl)) ?_; (with_reducible refine (varint_Take.calls k1 _ _ (l0.drop (x3_1 : Int).toNat) t151 t152 t153 _ ?side1 ?side2 A11.out).mono ?_); (case side1 => repeat (first | exact (Kd.C_below HR150.out (by repeat (first | (with_reducible first | exact HB.out | apply below_alloc | apply pw_below_drewN | apply below_drew1) | exact HB.out))) | (with_reducible refine Kd.C_alloc ?_ _) | (with_reducible refine Kd.C_drewN ?_ _) | (with_reducible refine Kd.C_drew ?_))); (case side2 => exact HC150.out); rintro e w' ⟨rfl, ⟨nd, rfl⟩⟩; refine ⟨_, rfl, ?_⟩))
                go_ret
                exact ⟨by first | rfl | (simp [errW_none, errW_some] <;> rfl) | (simp [*, errW_none, errW_some] <;> rfl), by repeat (first | (with_reducible first | exact HB.out | apply below_alloc | apply pw_below_drewN | apply below_drew1) | exact HB.out)⟩
            · rw [if_neg c12] at H
              have c12b0 : (t151 == t147) = false := beq_eq_false_iff_ne.mpr c12
              have c12b1 : (t151 != t147) = true := bne_iff_ne.mpr c12
              obtain rfl := Option.some.inj H
              obtain ⟨i021, hi021, _, hsz21, _⟩ := info_parts info5
              obtain ⟨A21, hcut21, hA21, hC21⟩ := print_drop_of (P := Try.prog) (Value.int .u8) 0 22 5 .i64 Try.underlying22 hi021 hsz21 A0 c0 l0 x3_1 (of_decide_eq_true (by first | (with_reducible assumption) | assumption)) (of_decide_eq_true (by first | (with_reducible assumption) | assumption)) HC0.out
              have HR146 := Aside0.mk (Kd.C_of_reads (h1 := fun _ => rfl) (hA21 _ (Kd.reads_of_C HR0.out)))
              have HC146 := Aside0.mk hC21
              clear hA21 hC21 hi021 hsz21
              go_wp2_with (first | ((with_reducible refine gate_callee (f := 19) rfl ?_); refine goesL_ (some 22) rfl rfl Try.func19 (by kernel_rfl) rfl #[.slice A21 (l0.drop (x3_1 : Int).toNat).length (c0 - x3_1.toNat)] rfl (by (try simp only [List.map_toArray, List.map_cons, List.map_nil]); first | done | (rw [show (l0.drop (x3_1 : Int).toNat).length = (l0.length - x3_1.toNat) from List.length_drop] <;> rfl) | rfl | (simp only [List.length_drop, List.length_take]; rfl)) ?_; (with_reducible refine (stratumref02_Take.calls k1 _ _ (l0.drop (x3_1 : Int).toNat) t147 t148 t149 _ ?side1 ?side2 A8.out).mono ?_); (case side1 => repeat (first | exact (Kd.C_below HR146.out HB.out) | (with_reducible refine Kd.C_alloc ?_ _) | (with_reducible refine Kd.C_drewN ?_ _) | (with_reducible refine Kd.C_drew ?_))); (case side2 => exact HC146.out); rintro e w' ⟨rfl, ⟨nd, rfl⟩⟩; refine ⟨_, rfl, ?_⟩; have HR150 := HR146; have HC150 := HC146) | ((with_reducible refine gate_callee (f := 20) rfl ?_); refine goesL_ (some 30) rfl rfl Try.func20 (by kernel_rfl) rfl #[.slice A21 (l0.drop (x3_1 : Int).toNat).length (c0 - x3_1.toNat)] rfl (by (try simp only [List.map_toArray, List.map_cons, List.map_nil]); first | done | (rw [show (l0.drop (x3_1 : Int).toNat).length = (l0.length - x3_1.toNat) from List.length_drop] <;> rfl) | rfl | (simp only [List.length_drop, List.length_take]; rfl)) ?_; (with_reducible refine (varint_Take.calls k1 _ _ (l0.drop (x3_1 : Int).toNat) t151 t152 t153 _ ?side1 ?side2 A11.out).mono ?_); (case side1 => repeat (first | exact (Kd.C_below HR150.out (by repeat (first | (with_reducible first | exact HB.out | apply below_alloc | apply pw_below_drewN | apply below_drew1) | exact HB.out))) | (with_reducible refine Kd.C_alloc ?_ _) | (with_reducible refine Kd.C_drewN ?_ _) | (with_reducible refine Kd.C_drew ?_))); (case side2 => exact HC150.out); rintro e w' ⟨rfl, ⟨nd, rfl⟩⟩; refine ⟨_, rfl, ?_⟩))
              go_ret
              exact ⟨by first | rfl | (simp [errW_none, errW_some] <;> rfl) | (simp [*, errW_none, errW_some] <;> rfl), by repeat (first | (with_reducible first | exact HB.out | apply below_alloc | apply pw_below_drewN | apply below_drew1) | exact HB.out)⟩
          · rw [if_neg c6] at H
            exact absurd H (by simp)
        · rw [if_neg c5] at H
          have c5b0 : decide (x3_1 ≤ (l0.length : Int)) = false := decide_eq_false c5
          clear c5
          obtain rfl := Option.some.inj H
          go_wp2
          go_ret
          exact ⟨by first | rfl | (simp [errW_none, errW_some] <;> rfl) | (simp [*, errW_none, errW_some] <;> rfl), by repeat (first | (with_reducible first | exact HB.out | apply below_alloc | apply pw_below_drewN | apply below_drew1) | exact HB.out)⟩
  · replace c3 := Bool.eq_false_iff.mpr c3
    subst c3
    have H1 : (some false) = some r := by rw [if_neg (show ¬ (false = true) by decide)] at H; exact H
    clear H
    have H := H1
    clear H1
    obtain rfl := Option.some.inj H
    go_enter Try.func4, Try.ntmps4
    go_wp2_with (first | ((with_reducible refine gate_callee (f := 9) rfl ?_); refine goesL_ (some 10) rfl rfl Try.func9 (by kernel_rfl) rfl #[] rfl (by (try simp only [List.map_toArray, List.map_cons, List.map_nil]); first | done | rfl | (simp only [List.length_drop, List.length_take]; rfl)) ?_; (with_reducible refine (stratumlaw02_lives.calls k  false _ A2.out).mono ?_); rintro e w23 ⟨rfl, hb⟩; refine ⟨_, rfl, ?_⟩; have n0_ := Aside0.mk (below_step (by repeat (first | (with_reducible first | exact HB.out | apply below_alloc | apply pw_below_drewN | apply below_drew1) | exact HB.out)) hb); clear HB; have HB := n0_; clear n0_; (try clear hb); (try clear hb2); (try clear hk); (try clear hi)))
    go_ret
    exact ⟨by first | rfl | (simp [errW_none, errW_some] <;> rfl) | (simp [*, errW_none, errW_some] <;> rfl), by repeat (first | (with_reducible first | exact HB.out | apply below_alloc | apply pw_below_drewN | apply below_drew1) | exact HB.out)⟩

/-- THE ONE PURE STATEMENT of stratumlaw02_VarintTakes: yours. -/
def stratumlaw02_VarintTakes.Pure : Prop := ∀ (l0 : List Int), l0.length ≤ maxLen → l0.length * 1 ≤ 140737488351232 → (∀ x ∈ l0, (Lit.int .u8 x).wf = true) → ∃ k, stratumlaw02_VarintTakes.f k l0 = some true
theorem stratumlaw02_VarintTakes.walk (P : stratumlaw02_VarintTakes.Pure) (a0 : Option Addr) (len0 cap0 : Nat) (z0 : List Int) (w : World) (w0 : (a0 = none ∧ len0 = 0 ∧ cap0 = 0 ∧ z0 = []) ∨ ∃ x, a0 = some x ∧ len0 ≤ cap0 ∧ cap0 ≤ maxLen ∧ z0.length = cap0 ∧ (∀ i, i < z0.length → w.cell? (x.add i) = some (.int .u8 (z0.getD i 0))) ∧ ∀ n ∈ z0, (Lit.int .u8 n).wf = true) (y0 : len0 * 1 ≤ 140737488351232) :
    Calls Try.prog 4 #[.slice a0 len0 cap0] w fun e w' => e = .returned (.bool true) ∧ Below w.heap.size w w' := by
  obtain ⟨l0, rfl, hr0, hm0, hw0, hc0⟩ := ReadsInt.ofRowC w0
  obtain ⟨k, h⟩ := P l0 hm0 y0 hw0
  refine (stratumlaw02_VarintTakes.calls k _ _ l0 true w (Kd.C_of_reads (d := (0 : Int)) (h1 := fun _ => rfl) hr0) hc0 h).mono ?_
  rintro e w' ⟨rfl, hd⟩
  exact ⟨rfl, hd⟩

end Go.Proofs.Ytjcbeihedbhodaa.X
