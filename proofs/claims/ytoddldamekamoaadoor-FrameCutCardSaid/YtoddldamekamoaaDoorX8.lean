/- The machine's side of the laws of this seat: for each Go function a Lean function of lists and numbers, and that the call answers what it answers. No condition but those in the theorems. -/
import Derived.Test.YtoddldamekamoaaDoorX0
import Derived.Test.YtoddldamekamoaaDoorX1
import Derived.Test.YtoddldamekamoaaDoorX4
namespace Go.Proofs.YtoddldamekamoaaDoor.X
open Go.RowKit Go.Proofs.YtoddldamekamoaaDoorW.PrintWords Go.Proofs.YtoddldamekamoaaDoorW.PrintLast Go.Proofs.YtoddldamekamoaaDoorW.PrintMore
attribute [local go_sem] max2_int min2_int max_two min_two max_three min_three max_four min_four   -- for this text's walks alone
set_option linter.unusedVariables false
set_option linter.unusedSimpArgs false

/-! ### stratumlaw21_FrameCut: function 6 -/
mutual
def stratumlaw21_FrameCut.j0 : Nat → List Int → Int → Bool → Bool → List Int → Option (Bool)
  | 0, _, _, _, _, _ => none
  | k + 1, x0, x1, x5, x29, x999 => if x29 = true then (some x5) else ((stratumlaw21_copied.f x0).bind fun t302 => ((frame_Scan.f t302 x999).bind fun bt305 => (if 0 ≤ x1 then (if x1 ≤ (x0.length : Int) then ((stratumlaw21_copied.f (x0.take (x1 : Int).toNat)).bind fun t310 => ((frame_Scan.f t310 x999).bind fun bt313 => (stratumlaw21_FrameCut.l0 k x1 bt305.1 bt313.1 bt313.2 0 0))) else (none)) else (none))))
def stratumlaw21_FrameCut.l0 : Nat → Int → List (List Int) → List (List Int) → Int → Int → Int → Option (Bool)
  | 0, _, _, _, _, _, _ => none
  | k + 1, x1, x6, x8, x9, x10, x11 => if x10 < (x6.length : Int) then (if 0 ≤ x10 then (if (wrap64 ((wrap64 (x11 + 8)) + ((rd_L1 x6 x10).length : Int))) ≤ x1 then (stratumlaw21_FrameCut.l0 k x1 x6 x8 x9 (wrap64 (x10 + 1)) (wrap64 ((wrap64 (x11 + 8)) + ((rd_L1 x6 x10).length : Int)))) else (if x9 = x11 then (if x10 ≤ (x6.length : Int) then ((stratumlaw21_alike.f k x8 (x6.take (x10 : Int).toNat)).bind fun t323 => (some t323)) else (none)) else (some false))) else (none)) else (if x9 = x11 then (if 0 ≤ x10 then (if x10 ≤ (x6.length : Int) then ((stratumlaw21_alike.f k x8 (x6.take (x10 : Int).toNat)).bind fun t328 => (some t328)) else (none)) else (none)) else (some false))
end
def stratumlaw21_FrameCut.f (k : Nat) (l0 : List Int) (a1 : Int) (lG : List Int) : Option (Bool) := (stratumlaw21_awake.f k lG).bind fun t301 => (if t301 = true then (if (l0.length : Int) > 16777216 then (stratumlaw21_FrameCut.j0 k l0 a1 t301 true lG) else (if a1 < 0 then (stratumlaw21_FrameCut.j0 k l0 a1 t301 true lG) else (stratumlaw21_FrameCut.j0 k l0 a1 t301 (decide (a1 > (l0.length : Int))) lG))) else (stratumlaw21_FrameCut.j0 k l0 a1 t301 true lG))
theorem stratumlaw21_FrameCut.mono_l : ∀ k, (∀ y0 y1 y2 y3 y4, LeO (stratumlaw21_FrameCut.j0 k y0 y1 y2 y3 y4) (stratumlaw21_FrameCut.j0 (k + 1) y0 y1 y2 y3 y4)) ∧ (∀ y0 y1 y2 y3 y4 y5, LeO (stratumlaw21_FrameCut.l0 k y0 y1 y2 y3 y4 y5) (stratumlaw21_FrameCut.l0 (k + 1) y0 y1 y2 y3 y4 y5))
  | 0 => ⟨fun _ _ _ _ _ r h => by simp [stratumlaw21_FrameCut.j0] at h, fun _ _ _ _ _ _ r h => by simp [stratumlaw21_FrameCut.l0] at h⟩
  | k + 1 => by
    obtain ⟨ih0, ih1⟩ := stratumlaw21_FrameCut.mono_l k
    refine ⟨?_, ?_⟩
    · intro y0 y1 y2 y3 y4
      unfold stratumlaw21_FrameCut.j0
      repeat' first
      | (with_reducible exact ih0 _ _ _ _ _)
      | (with_reducible exact ih1 _ _ _ _ _ _)
      | (with_reducible exact stratumlaw21_alike.mono _ _ _)
      | (with_reducible exact stratumlaw21_awake.mono _ _)
      | (with_reducible exact LeO.refl _)
      | (with_reducible exact LeO.none _)
      | (with_reducible refine LeO.ite ?_ ?_)
      | (with_reducible refine LeO.bind ?_ (fun _ => ?_))
      | exact ih0 _ _ _ _ _
      | exact ih1 _ _ _ _ _ _
      | exact stratumlaw21_alike.mono _ _ _
      | exact stratumlaw21_awake.mono _ _
      | exact LeO.none _
      | refine LeO.ite ?_ ?_
      | refine LeO.bind ?_ (fun _ => ?_)
    · intro y0 y1 y2 y3 y4 y5
      unfold stratumlaw21_FrameCut.l0
      repeat' first
      | (with_reducible exact ih0 _ _ _ _ _)
      | (with_reducible exact ih1 _ _ _ _ _ _)
      | (with_reducible exact stratumlaw21_alike.mono _ _ _)
      | (with_reducible exact stratumlaw21_awake.mono _ _)
      | (with_reducible exact LeO.refl _)
      | (with_reducible exact LeO.none _)
      | (with_reducible refine LeO.ite ?_ ?_)
      | (with_reducible refine LeO.bind ?_ (fun _ => ?_))
      | exact ih0 _ _ _ _ _
      | exact ih1 _ _ _ _ _ _
      | exact stratumlaw21_alike.mono _ _ _
      | exact stratumlaw21_awake.mono _ _
      | exact LeO.none _
      | refine LeO.ite ?_ ?_
      | refine LeO.bind ?_ (fun _ => ?_)
theorem stratumlaw21_FrameCut.mono : ∀ a0 a1 a2 k, LeO (stratumlaw21_FrameCut.f k a0 a1 a2) (stratumlaw21_FrameCut.f (k + 1) a0 a1 a2) := by
  intro a0 a1 a2 k
  obtain ⟨ih0, ih1⟩ := stratumlaw21_FrameCut.mono_l k
  unfold stratumlaw21_FrameCut.f
  repeat' first
      | (with_reducible exact ih0 _ _ _ _ _)
      | (with_reducible exact ih1 _ _ _ _ _ _)
      | (with_reducible exact stratumlaw21_alike.mono _ _ _)
      | (with_reducible exact stratumlaw21_awake.mono _ _)
      | (with_reducible exact LeO.refl _)
      | (with_reducible exact LeO.none _)
      | (with_reducible refine LeO.ite ?_ ?_)
      | (with_reducible refine LeO.bind ?_ (fun _ => ?_))
      | exact ih0 _ _ _ _ _
      | exact ih1 _ _ _ _ _ _
      | exact stratumlaw21_alike.mono _ _ _
      | exact stratumlaw21_awake.mono _ _
      | exact LeO.none _
      | refine LeO.ite ?_ ?_
      | refine LeO.bind ?_ (fun _ => ?_)
set_option maxHeartbeats 8000000 in
set_option maxRecDepth 100000 in
theorem stratumlaw21_FrameCut.calls (k : Nat) (A0 : Option Addr) (c0 : Nat) (l0 : List Int) (a1 : Int) (lG : List Int) (r : Bool) (w : World) (hr0 : Kd.C (Kd.int .u8) w A0 l0.length l0) (hc0 : l0.length ≤ c0) (hrG : Kd.C (Kd.int .u32) w (some ⟨0, 0, none⟩) lG.length lG) (hcG : lG.length ≤ 16) (h : stratumlaw21_FrameCut.f k l0 a1 lG = some r) :
    Calls Tryd.prog 6 #[.slice A0 l0.length c0, .int .i64 a1] w fun e w' => e = .returned (.bool r) ∧ Below w.heap.size w w' := by
  have HR0 := Aside0.mk hr0
  have HC0 := Aside0.mk hc0
  clear hr0 hc0
  have HRG := Aside0.mk hrG
  have HCG := Aside0.mk hcG
  clear hrG hcG
  have HB := Aside0.mk (Below.refl w.heap.size w)
  have H : ((stratumlaw21_awake.f k lG).bind fun t301 => (if t301 = true then (if (l0.length : Int) > 16777216 then (stratumlaw21_FrameCut.j0 k l0 a1 t301 true lG) else (if a1 < 0 then (stratumlaw21_FrameCut.j0 k l0 a1 t301 true lG) else (stratumlaw21_FrameCut.j0 k l0 a1 t301 (decide (a1 > (l0.length : Int))) lG))) else (stratumlaw21_FrameCut.j0 k l0 a1 t301 true lG))) = some r := h
  clear h
  replace H := Option.bind_eq_some_iff.mp H
  obtain ⟨t301, A40, H⟩ := H
  replace H : (if t301 = true then (if (l0.length : Int) > 16777216 then (stratumlaw21_FrameCut.j0 k l0 a1 t301 true lG) else (if a1 < 0 then (stratumlaw21_FrameCut.j0 k l0 a1 t301 true lG) else (stratumlaw21_FrameCut.j0 k l0 a1 t301 (decide (a1 > (l0.length : Int))) lG))) else (stratumlaw21_FrameCut.j0 k l0 a1 t301 true lG)) = some r := H
  have A4 := Aside0.mk A40
  clear A40
  have HC5 := Aside0.mk H
  clear H
  go_enter Tryd.func6, Tryd.ntmps6
  go_upto_region 2 with (first | ((with_reducible refine gate_callee (f := 9) rfl ?_); refine goesL_ (some 12) rfl rfl Tryd.func9 (by kernel_rfl) rfl #[] rfl (by (try simp only [List.map_toArray, List.map_cons, List.map_nil]); first | done | rfl | (simp only [List.length_drop, List.length_take]; rfl)) ?_; (with_reducible refine (stratumlaw21_awake.calls k lG t301 _ ?side1 ?side2 A4.out).mono ?_); (case side1 => repeat (first | exact HRG.out | (with_reducible refine Kd.C_alloc ?_ _) | (with_reducible refine Kd.C_drewN ?_ _) | (with_reducible refine Kd.C_drew ?_))); (case side2 => exact HCG.out); rintro e w6 ⟨rfl, hb⟩; refine ⟨_, rfl, ?_⟩; have n0_ := Aside0.mk (below_step (by repeat (first | (with_reducible first | exact HB.out | apply below_alloc | apply pw_below_drewN | apply below_drew1) | exact HB.out)) hb); clear HB; have HB := n0_; clear n0_; (try clear hb); (try clear hb2); (try clear hk); (try clear hi)))
  (try simp only [Act.put, List.setIfInBounds_toArray, List.set_cons_zero, List.set_cons_succ])
  go_cut [29] (fun v29 wc => ∃ (kq : Nat) (x29_4 : Bool), v29 = .bool x29_4 ∧ Aside0 (stratumlaw21_FrameCut.j0 kq l0 a1 t301 x29_4 lG = some r) ∧ Aside0 (kq ≤ k) ∧ Aside0 (Below w.heap.size w wc))
  case first =>
    have H := HC5.out
    clear HC5
    by_cases c7 : t301 = true
    · subst c7
      have H1 : (if (l0.length : Int) > 16777216 then (stratumlaw21_FrameCut.j0 k l0 a1 true true lG) else (if a1 < 0 then (stratumlaw21_FrameCut.j0 k l0 a1 true true lG) else (stratumlaw21_FrameCut.j0 k l0 a1 true (decide (a1 > (l0.length : Int))) lG))) = some r := by rw [if_pos rfl] at H; exact H
      clear H
      have H := H1
      clear H1
      by_cases c8 : (l0.length : Int) > 16777216
      · rw [if_pos c8] at H
        have c8b0 : decide (16777216 < (l0.length : Int)) = true := decide_eq_true c8
        have c8b1 : decide (16777216 < l0.length) = true := decide_eq_true (by omega)
        clear c8
        (first | rw [c8b0] | (simp only [i64_w, i32_w]; rw [c8b0]) | skip)
        have H' := Aside0.mk H
        clear H
        go_wp2
        go_meet
        case rel => exact ⟨_, (true), (by first | rfl | (simp; done) | (simp [*]; done)), H', ⟨by first | omega | exact Nat.le_refl _⟩, ⟨by repeat (first | (with_reducible first | exact HB.out | apply below_alloc | apply pw_below_drewN | apply below_drew1) | exact HB.out)⟩⟩
      · rw [if_neg c8] at H
        have c8b0 : decide (16777216 < (l0.length : Int)) = false := decide_eq_false c8
        have c8b1 : decide (16777216 < l0.length) = false := decide_eq_false (by omega)
        clear c8
        (first | rw [c8b0] | (simp only [i64_w, i32_w]; rw [c8b0]) | skip)
        by_cases c9 : a1 < 0
        · rw [if_pos c9] at H
          have c9b0 : decide (a1 < 0) = true := decide_eq_true c9
          clear c9
          have H' := Aside0.mk H
          clear H
          go_wp2
          go_meet
          case rel => exact ⟨_, (true), (by first | rfl | (simp; done) | (simp [*]; done)), H', ⟨by first | omega | exact Nat.le_refl _⟩, ⟨by repeat (first | (with_reducible first | exact HB.out | apply below_alloc | apply pw_below_drewN | apply below_drew1) | exact HB.out)⟩⟩
        · rw [if_neg c9] at H
          have c9b0 : decide (a1 < 0) = false := decide_eq_false c9
          clear c9
          have H' := Aside0.mk H
          clear H
          go_wp2
          go_meet
          case rel => exact ⟨_, (decide (a1 > (l0.length : Int))), (by first | rfl | (simp; done) | (simp [*]; done)), H', ⟨by first | omega | exact Nat.le_refl _⟩, ⟨by repeat (first | (with_reducible first | exact HB.out | apply below_alloc | apply pw_below_drewN | apply below_drew1) | exact HB.out)⟩⟩
    · replace c7 := Bool.eq_false_iff.mpr c7
      subst c7
      have H1 : (stratumlaw21_FrameCut.j0 k l0 a1 false true lG) = some r := by rw [if_neg (show ¬ (false = true) by decide)] at H; exact H
      clear H
      have H := H1
      clear H1
      have H' := Aside0.mk H
      clear H
      go_wp2
      go_meet
      case rel => exact ⟨_, (true), (by first | rfl | (simp; done) | (simp [*]; done)), H', ⟨by first | omega | exact Nat.le_refl _⟩, ⟨by repeat (first | (with_reducible first | exact HB.out | apply below_alloc | apply pw_below_drewN | apply below_drew1) | exact HB.out)⟩⟩
  case rest =>
    clear HC5
    try clear p2
    try clear c6
    try clear c7
    try clear c8
    try clear c8b0
    try clear c8b1
    try clear c9
    try clear c9b0
    obtain ⟨kq, x29_4, rfl, HA, HJ4, HB⟩ := hcut
    cases kq with
    | zero => exact absurd HA.out (by simp [stratumlaw21_FrameCut.j0])
    | succ kj4 =>
      have H := HA.out
      clear HA
      simp only [stratumlaw21_FrameCut.j0] at H
      by_cases c10 : x29_4 = true
      · subst c10
        have H1 : (some t301) = some r := by rw [if_pos rfl] at H; exact H
        clear H
        have H := H1
        clear H1
        obtain rfl := Option.some.inj H
        go_wp2
        go_ret
        exact ⟨by first | rfl | (simp [errW_none, errW_some] <;> rfl) | (simp [*, errW_none, errW_some] <;> rfl), by repeat (first | (with_reducible first | exact HB.out | apply below_alloc | apply pw_below_drewN | apply below_drew1) | exact HB.out)⟩
      · replace c10 := Bool.eq_false_iff.mpr c10
        subst c10
        have H1 : ((stratumlaw21_copied.f l0).bind fun t302 => ((frame_Scan.f t302 lG).bind fun bt305 => (if 0 ≤ a1 then (if a1 ≤ (l0.length : Int) then ((stratumlaw21_copied.f (l0.take (a1 : Int).toNat)).bind fun t310 => ((frame_Scan.f t310 lG).bind fun bt313 => (stratumlaw21_FrameCut.l0 kj4 a1 bt305.1 bt313.1 bt313.2 0 0))) else (none)) else (none)))) = some r := by rw [if_neg (show ¬ (false = true) by decide)] at H; exact H
        clear H
        have H := H1
        clear H1
        replace H := Option.bind_eq_some_iff.mp H
        obtain ⟨t302, A110, H⟩ := H
        replace H : ((frame_Scan.f t302 lG).bind fun bt305 => (if 0 ≤ a1 then (if a1 ≤ (l0.length : Int) then ((stratumlaw21_copied.f (l0.take (a1 : Int).toNat)).bind fun t310 => ((frame_Scan.f t310 lG).bind fun bt313 => (stratumlaw21_FrameCut.l0 kj4 a1 bt305.1 bt313.1 bt313.2 0 0))) else (none)) else (none))) = some r := H
        have A11 := Aside0.mk A110
        clear A110
        replace H := Option.bind_eq_some_iff.mp H
        obtain ⟨⟨t305, t306⟩, A120, H⟩ := H
        replace H : (if 0 ≤ a1 then (if a1 ≤ (l0.length : Int) then ((stratumlaw21_copied.f (l0.take (a1 : Int).toNat)).bind fun t310 => ((frame_Scan.f t310 lG).bind fun bt313 => (stratumlaw21_FrameCut.l0 kj4 a1 t305 bt313.1 bt313.2 0 0))) else (none)) else (none)) = some r := H
        have A12 := Aside0.mk A120
        clear A120
        by_cases c13 : 0 ≤ a1
        · rw [if_pos c13] at H
          have c13b0 := eq_true c13
          have c13b1 : decide (0 ≤ a1) = true := decide_eq_true c13
          clear c13
          by_cases c14 : a1 ≤ (l0.length : Int)
          · rw [if_pos c14] at H
            have c14b0 := eq_true c14
            have c14b1 : decide (a1 ≤ (l0.length : Int)) = true := decide_eq_true c14
            clear c14
            replace H := Option.bind_eq_some_iff.mp H
            obtain ⟨t310, A150, H⟩ := H
            replace H : ((frame_Scan.f t310 lG).bind fun bt313 => (stratumlaw21_FrameCut.l0 kj4 a1 t305 bt313.1 bt313.2 0 0)) = some r := H
            have A15 := Aside0.mk A150
            clear A150
            replace H := Option.bind_eq_some_iff.mp H
            obtain ⟨⟨t313, t314⟩, A160, H⟩ := H
            replace H : (stratumlaw21_FrameCut.l0 kj4 a1 t305 t313 t314 0 0) = some r := H
            have A16 := Aside0.mk A160
            clear A160
            have H' := Aside0.mk H
            clear H
            go_wp2_with (first | ((with_reducible refine gate_callee (f := 12) rfl ?_); refine goesL_ (some 33) rfl rfl Tryd.func12 (by kernel_rfl) rfl #[.slice A0 l0.length c0] rfl (by (try simp only [List.map_toArray, List.map_cons, List.map_nil]); first | done | rfl | (simp only [List.length_drop, List.length_take]; rfl)) ?_; (with_reducible refine (stratumlaw21_copied.calls _ _ l0 t302 _ ?side1 ?side2 A11.out).mono ?_); (case side1 => repeat (first | exact (Kd.C_below HR0.out HB.out) | (with_reducible refine Kd.C_alloc ?_ _) | (with_reducible refine Kd.C_drewN ?_ _) | (with_reducible refine Kd.C_drew ?_))); (case side2 => exact HC0.out); rintro e w17 ⟨v303, rfl, ho0, hb⟩; refine ⟨_, rfl, ?_⟩; have n0_ := Aside0.mk (Kd.R_lower ho0 (below_size (by repeat (first | (with_reducible first | exact HB.out | apply below_alloc | apply pw_below_drewN | apply below_drew1) | exact HB.out)))); have n1_ := Aside0.mk (below_step (by repeat (first | (with_reducible first | exact HB.out | apply below_alloc | apply pw_below_drewN | apply below_drew1) | exact HB.out)) hb); clear HB; have HO304 := n0_; have HB := n1_; clear n0_ n1_; (try clear hb); (try clear hb2); (try clear hk); (try clear hi); (try clear ho0); obtain ⟨Ao18, co18, eo18⟩ := Kd.R_slice HO304.out; subst eo18) | ((with_reducible refine gate_callee (f := 16) rfl ?_); refine goesL_ (some 34) rfl rfl Tryd.func16 (by kernel_rfl) rfl #[.slice Ao18 t302.length co18] rfl (by (try simp only [List.map_toArray, List.map_cons, List.map_nil]); first | done | rfl | (simp only [List.length_drop, List.length_take]; rfl)) ?_; (with_reducible refine (frame_Scan.calls _ _ t302 lG t305 t306 _ ?side1 ?side2 ?side3 ?side4 A12.out).mono ?_); (case side1 => repeat (first | exact (Kd.R_reads' HO304.out).2.2 | (with_reducible refine Kd.C_alloc ?_ _) | (with_reducible refine Kd.C_drewN ?_ _) | (with_reducible refine Kd.C_drew ?_))); (case side2 => exact (Kd.R_reads' HO304.out).2.1); (case side3 => repeat (first | exact (Kd.C_below HRG.out HB.out) | (with_reducible refine Kd.C_alloc ?_ _) | (with_reducible refine Kd.C_drewN ?_ _) | (with_reducible refine Kd.C_drew ?_))); (case side4 => exact HCG.out); rintro e w19 ⟨v307, rfl, ho0, hb⟩; refine ⟨_, rfl, ?_⟩; have n0_ := Aside0.mk (Kd.R_below (by (with_reducible repeat (first | apply Kd.R_alloc | apply Kd.R_drewN | apply Kd.R_drew)); exact HO304.out) hb); have n1_ := Aside0.mk (Kd.S_lower (Kd.S_new' ho0 (Kd.R_lt (by (with_reducible repeat (first | apply Kd.R_alloc | apply Kd.R_drewN | apply Kd.R_drew)); exact HO304.out))) (below_size (by repeat (first | (with_reducible first | exact HB.out | apply below_alloc | apply pw_below_drewN | apply below_drew1) | exact HB.out)))); have n2_ := Aside0.mk (below_step (by repeat (first | (with_reducible first | exact HB.out | apply below_alloc | apply pw_below_drewN | apply below_drew1) | exact HB.out)) hb); clear HO304; clear HB; have HO304 := n0_; have HO308 := n1_; have HB := n2_; clear n0_ n1_ n2_; (try clear hb); (try clear hb2); (try clear hk); (try clear hi); (try clear ho0); obtain ⟨i020, hi020, _, hsz20, _⟩ := info_parts info5; obtain ⟨hcut20, hA20, hC20⟩ := print_take_of (P := Tryd.prog) (Value.int .u8) 0 27 5 .i64 Tryd.underlying27 hi020 hsz20 A0 c0 l0 a1 (of_decide_eq_true (by first | (with_reducible assumption) | assumption)) (of_decide_eq_true (by first | (with_reducible assumption) | assumption)) HC0.out; have HR309 := Aside0.mk (Kd.C_of_reads (h1 := fun _ => rfl) (hA20 _ (Kd.reads_of_C HR0.out))); have HC309 := Aside0.mk hC20; clear hA20 hC20 hi020 hsz20) | ((with_reducible refine gate_callee (f := 12) rfl ?_); refine goesL_ (some 41) rfl rfl Tryd.func12 (by kernel_rfl) rfl #[.slice A0 (l0.take (a1 : Int).toNat).length c0] rfl (by (try simp only [List.map_toArray, List.map_cons, List.map_nil]); first | done | (rw [show (l0.take (a1 : Int).toNat).length = a1.toNat from (by rw [List.length_take]; have h_ : (a1 : Int) ≤ (l0.length : Int) := of_decide_eq_true (by first | (with_reducible assumption) | assumption); omega)] <;> rfl) | rfl | (simp only [List.length_drop, List.length_take]; rfl)) ?_; (with_reducible refine (stratumlaw21_copied.calls _ _ (l0.take (a1 : Int).toNat) t310 _ ?side1 ?side2 A15.out).mono ?_); (case side1 => repeat (first | exact (Kd.C_below HR309.out HB.out) | (with_reducible refine Kd.C_alloc ?_ _) | (with_reducible refine Kd.C_drewN ?_ _) | (with_reducible refine Kd.C_drew ?_))); (case side2 => exact HC309.out); rintro e w21 ⟨v311, rfl, ho0, hb⟩; refine ⟨_, rfl, ?_⟩; have n0_ := Aside0.mk (Kd.R_elder' (by (with_reducible repeat (first | apply Kd.R_alloc | apply Kd.R_drewN | apply Kd.R_drew)); exact HO304.out) (Kd.R_base ho0) hb); have n1_ := Aside0.mk (Kd.S_elder' (by (with_reducible repeat (first | apply Kd.S_alloc | apply Kd.S_drewN | apply Kd.S_drew)); exact HO308.out) (Kd.R_base ho0) hb); have n2_ := Aside0.mk (Kd.R_lower (Kd.R_new' ho0 (Kd.R_lt (by (with_reducible repeat (first | apply Kd.R_alloc | apply Kd.R_drewN | apply Kd.R_drew)); exact HO304.out))) (below_size (by repeat (first | (with_reducible first | exact HB.out | apply below_alloc | apply pw_below_drewN | apply below_drew1) | exact HB.out)))); have n3_ := Aside0.mk (below_step (by repeat (first | (with_reducible first | exact HB.out | apply below_alloc | apply pw_below_drewN | apply below_drew1) | exact HB.out)) hb); clear HO304; clear HO308; clear HB; have HO304 := n0_; have HO308 := n1_; have HO312 := n2_; have HB := n3_; clear n0_ n1_ n2_ n3_; (try clear hb); (try clear hb2); (try clear hk); (try clear hi); (try clear ho0); obtain ⟨Ao22, co22, eo22⟩ := Kd.R_slice HO312.out; subst eo22) | ((with_reducible refine gate_callee (f := 16) rfl ?_); refine goesL_ (some 42) rfl rfl Tryd.func16 (by kernel_rfl) rfl #[.slice Ao22 t310.length co22] rfl (by (try simp only [List.map_toArray, List.map_cons, List.map_nil]); first | done | rfl | (simp only [List.length_drop, List.length_take]; rfl)) ?_; (with_reducible refine (frame_Scan.calls _ _ t310 lG t313 t314 _ ?side1 ?side2 ?side3 ?side4 A16.out).mono ?_); (case side1 => repeat (first | exact (Kd.R_reads' HO312.out).2.2 | (with_reducible refine Kd.C_alloc ?_ _) | (with_reducible refine Kd.C_drewN ?_ _) | (with_reducible refine Kd.C_drew ?_))); (case side2 => exact (Kd.R_reads' HO312.out).2.1); (case side3 => repeat (first | exact (Kd.C_below HRG.out HB.out) | (with_reducible refine Kd.C_alloc ?_ _) | (with_reducible refine Kd.C_drewN ?_ _) | (with_reducible refine Kd.C_drew ?_))); (case side4 => exact HCG.out); rintro e w23 ⟨v315, rfl, ho0, hb⟩; refine ⟨_, rfl, ?_⟩; have n0_ := Aside0.mk (Kd.R_below (by (with_reducible repeat (first | apply Kd.R_alloc | apply Kd.R_drewN | apply Kd.R_drew)); exact HO304.out) hb); have n1_ := Aside0.mk (Kd.S_elder' (by (with_reducible repeat (first | apply Kd.S_alloc | apply Kd.S_drewN | apply Kd.S_drew)); exact HO308.out) (Kd.S_base ho0) hb); have n2_ := Aside0.mk (Kd.R_below (by (with_reducible repeat (first | apply Kd.R_alloc | apply Kd.R_drewN | apply Kd.R_drew)); exact HO312.out) hb); have n3_ := Aside0.mk (Kd.S_lower (Kd.S_new' (Kd.S_new' (Kd.S_new' ho0 (Kd.R_lt (by (with_reducible repeat (first | apply Kd.R_alloc | apply Kd.R_drewN | apply Kd.R_drew)); exact HO304.out))) (Kd.S_lt (by (with_reducible repeat (first | apply Kd.S_alloc | apply Kd.S_drewN | apply Kd.S_drew)); exact HO308.out))) (Kd.R_lt (by (with_reducible repeat (first | apply Kd.R_alloc | apply Kd.R_drewN | apply Kd.R_drew)); exact HO312.out))) (below_size (by repeat (first | (with_reducible first | exact HB.out | apply below_alloc | apply pw_below_drewN | apply below_drew1) | exact HB.out)))); have n4_ := Aside0.mk (below_step (by repeat (first | (with_reducible first | exact HB.out | apply below_alloc | apply pw_below_drewN | apply below_drew1) | exact HB.out)) hb); clear HO304; clear HO308; clear HO312; clear HB; have HO304 := n0_; have HO308 := n1_; have HO312 := n2_; have HO316 := n3_; have HB := n4_; clear n0_ n1_ n2_ n3_ n4_; (try clear hb); (try clear hb2); (try clear hk); (try clear hi); (try clear ho0)))
            go_loopg [10, 11] kj4 (fun kq v10 v11 w' => ∃ (x10_2 : Int) (x11_2 : Int), v10 = .int .i64 x10_2 ∧ v11 = .int .i64 x11_2 ∧ Aside0 (stratumlaw21_FrameCut.l0 kq a1 t305 t313 t314 x10_2 x11_2 = some r) ∧ Aside0 (kq ≤ kj4) ∧ Aside0 (Kd.S (Kd.slice 5 (Kd.int .u8)) 27 w' w.heap.size (fun k_ => some k_ ≠ (v315 : Value).ownBlock) v307 t305) ∧ Aside0 (Kd.S (Kd.slice 5 (Kd.int .u8)) 27 w' w.heap.size (fun k_ => some k_ ≠ (v307 : Value).ownBlock) v315 t313) ∧ Aside0 (Below w.heap.size w w'))
            case atStart => exact ⟨(0), (0), (by first | rfl | (simp; done) | (simp [*]; done)), (by first | rfl | (simp; done) | (simp [*]; done)), H', ⟨Nat.le_refl _⟩, ⟨by (with_reducible repeat (first | apply Kd.S_alloc | apply Kd.S_drewN | apply Kd.S_drew)); exact Kd.S_mono HO308.out (fun _ hk => hk.2)⟩, ⟨by (with_reducible repeat (first | apply Kd.S_alloc | apply Kd.S_drewN | apply Kd.S_drew)); exact Kd.S_mono HO316.out (fun _ hk => hk.1.2)⟩, ⟨by repeat (first | (with_reducible first | exact HB.out | apply below_alloc | apply pw_below_drewN | apply below_drew1) | exact HB.out)⟩⟩
            case round =>
              clear H'
              try clear c1
              try clear p2
              try clear c6
              try clear c7
              try clear c8
              try clear c8b0
              try clear c8b1
              try clear c9
              try clear c9b0
              try clear c10
              try clear c12
              try clear c13
              try clear c13b0
              try clear c13b1
              try clear c14
              try clear c14b0
              try clear c14b1
              try clear c16
              try clear p2
              obtain ⟨x10_2, x11_2, rfl, rfl, HA, HK2, HO_6, HO_8, HB⟩ := hrel
              cases gk with
              | zero => exact absurd HA.out (by simp [stratumlaw21_FrameCut.l0])
              | succ k2 =>
                have H := HA.out
                clear HA
                simp only [stratumlaw21_FrameCut.l0] at H
                by_cases c24 : x10_2 < (t305.length : Int)
                · rw [if_pos c24] at H
                  have c24b0 : decide (x10_2 < (t305.length : Int)) = true := decide_eq_true c24
                  clear c24
                  by_cases c25 : 0 ≤ x10_2
                  · rw [if_pos c25] at H
                    have c25b0 : decide (0 ≤ x10_2) = true := decide_eq_true c25
                    clear c25
                    by_cases c26 : (wrap64 ((wrap64 (x11_2 + 8)) + ((rd_L1 t305 x10_2).length : Int))) ≤ a1
                    · rw [if_pos c26] at H
                      have c26b0 : decide ((wrap64 ((wrap64 (x11_2 + 8)) + ((rd_L1 t305 x10_2).length : Int))) ≤ a1) = true := decide_eq_true c26
                      clear c26
                      have H' := Aside0.mk H
                      clear H
                      obtain ⟨Ao27, co27, eo27⟩ := Kd.S_slice HO_6.out
                      subst eo27
                      have p317 : 0 ≤ (x10_2 : Int) := of_decide_eq_true (by first | (with_reducible assumption) | assumption)
                      have q317 : x10_2 < (t305.length : Int) := of_decide_eq_true (by first | (with_reducible assumption) | assumption)
                      obtain ⟨ad317, A317_0, c317_0, e317, hx317_0, hl317_0, hi317_0⟩ := at_L1 (Kd.S_reads' HO_6.out).2.2 x10_2 p317 q317
                      cases e317
                      obtain ⟨ce317, hce317, hMe317, hcc317⟩ := Kd.S_get HO_6.out [] x10_2 p317 (by first | exact q317 | exact of_decide_eq_true (by first | (with_reducible assumption) | assumption) | (have e_ := (Kd.S_reads' HO_6.out).1; omega))
                      obtain ⟨ve317_0, rfl, ge317_0⟩ := hMe317
                      have hv317_0 := hcc317 0 _ rfl
                      rw [Nat.add_zero, show ((Kd.slice 5 (Kd.int .u8))).sz = 1 from rfl, Nat.mul_one] at hv317_0
                      replace hv317_0 := Option.some.inj (hv317_0.symm.trans hx317_0)
                      rw [hv317_0] at ge317_0
                      have HL317_0 := Aside0.mk (show Kd.R (Kd.int .u8) 5 _ _ _ _ (rd_L1 t305 x10_2) from ge317_0)
                      clear hv317_0 ge317_0
                      clear hcc317 hce317
                      have HR317_0 := Aside0.mk hi317_0
                      have HC317_0 := Aside0.mk hl317_0
                      clear hi317_0 hl317_0
                      replace p317 := eq_true p317
                      replace q317 := eq_true q317
                      have p318 : 0 ≤ (x10_2 : Int) := of_decide_eq_true (by first | (with_reducible assumption) | assumption)
                      have q318 : x10_2 < (t305.length : Int) := of_decide_eq_true (by first | (with_reducible assumption) | assumption)
                      obtain ⟨ad318, A318_0, c318_0, e318, hx318_0, hl318_0, hi318_0⟩ := at_L1 (Kd.S_reads' HO_6.out).2.2 x10_2 p318 q318
                      obtain rfl : ad317 = ad318 := (by injection e318)
                      obtain ⟨ce318, hce318, hMe318, hcc318⟩ := Kd.S_get HO_6.out [] x10_2 p318 (by first | exact q318 | exact of_decide_eq_true (by first | (with_reducible assumption) | assumption) | (have e_ := (Kd.S_reads' HO_6.out).1; omega))
                      obtain ⟨ve318_0, rfl, ge318_0⟩ := hMe318
                      have hv318_0 := hcc318 0 _ rfl
                      rw [Nat.add_zero, show ((Kd.slice 5 (Kd.int .u8))).sz = 1 from rfl, Nat.mul_one] at hv318_0
                      replace hv318_0 := Option.some.inj (hv318_0.symm.trans hx318_0)
                      rw [hv318_0] at ge318_0
                      have HL318_0 := Aside0.mk (show Kd.R (Kd.int .u8) 5 _ _ _ _ (rd_L1 t305 x10_2) from ge318_0)
                      clear hv318_0 ge318_0
                      clear hcc318 hce318
                      have HR318_0 := Aside0.mk hi318_0
                      have HC318_0 := Aside0.mk hl318_0
                      clear hi318_0 hl318_0
                      replace p318 := eq_true p318
                      replace q318 := eq_true q318
                      have ea_ := Option.some.inj (hx317_0.symm.trans hx318_0)
                      injection ea_ with ea_ en_ ec_
                      subst ea_
                      subst ec_
                      clear en_
                      go_wp2
                      go_roundg k2
                      case measure => have := HJ4.out; have := HK2.out; omega
                      case rel => exact ⟨(wrap64 (x10_2 + 1)), (wrap64 ((wrap64 (x11_2 + 8)) + ((rd_L1 t305 x10_2).length : Int))), (by first | rfl | (simp; done) | (simp [*]; done)), (by first | rfl | (simp; done) | (simp [*]; done)), H', ⟨by have := HJ4.out; have := HK2.out; omega⟩, ⟨by (with_reducible repeat (first | apply Kd.S_alloc | apply Kd.S_drewN | apply Kd.S_drew)); exact HO_6.out⟩, ⟨by (with_reducible repeat (first | apply Kd.S_alloc | apply Kd.S_drewN | apply Kd.S_drew)); exact HO_8.out⟩, ⟨by repeat (first | (with_reducible first | exact HB.out | apply below_alloc | apply pw_below_drewN | apply below_drew1) | exact HB.out)⟩⟩
                    · rw [if_neg c26] at H
                      have c26b0 : decide ((wrap64 ((wrap64 (x11_2 + 8)) + ((rd_L1 t305 x10_2).length : Int))) ≤ a1) = false := decide_eq_false c26
                      clear c26
                      by_cases c28 : t314 = x11_2
                      · rw [if_pos c28] at H
                        have c28b0 : (t314 == x11_2) = true := beq_iff_eq.mpr c28
                        have c28b1 : (t314 != x11_2) = false := bne_eq_false_iff_eq.mpr c28
                        clear c28
                        have c29b0 := eq_true (of_decide_eq_true (by first | (with_reducible assumption) | assumption) : 0 ≤ x10_2)
                        by_cases c30 : x10_2 ≤ (t305.length : Int)
                        · rw [if_pos c30] at H
                          have c30b0 := eq_true c30
                          have c30b1 : decide (x10_2 ≤ (t305.length : Int)) = true := decide_eq_true c30
                          clear c30
                          obtain ⟨y319, hy319⟩ : ∃ y_ : List (List Int), y_ = (t305.take (x10_2 : Int).toNat) := ⟨_, rfl⟩
                          replace H : ((stratumlaw21_alike.f k2 t313 y319).bind fun t323 => (some t323)) = some r := by first | (rw [hy319]; with_reducible exact H) | (have H2_ := (Option.bind_some _ _).symm.trans H; rw [hy319]; with_reducible exact H2_) | (have H2_ := (Option.bind_some _ _).symm.trans H; with_reducible exact H2_) | with_reducible exact H | (rw [hy319]; exact H) | exact H
                          have Ny319 := Aside0.mk hy319
                          clear hy319
                          replace H := Option.bind_eq_some_iff.mp H
                          obtain ⟨t323, A310, H⟩ := H
                          replace H : (some t323) = some r := H
                          have A31 := Aside0.mk A310
                          clear A310
                          obtain rfl := Option.some.inj H
                          obtain ⟨Ao32, co32, eo32⟩ := Kd.S_slice HO_6.out
                          subst eo32
                          have p317 : 0 ≤ (x10_2 : Int) := of_decide_eq_true (by first | (with_reducible assumption) | assumption)
                          have q317 : x10_2 < (t305.length : Int) := of_decide_eq_true (by first | (with_reducible assumption) | assumption)
                          obtain ⟨ad317, A317_0, c317_0, e317, hx317_0, hl317_0, hi317_0⟩ := at_L1 (Kd.S_reads' HO_6.out).2.2 x10_2 p317 q317
                          cases e317
                          obtain ⟨ce317, hce317, hMe317, hcc317⟩ := Kd.S_get HO_6.out [] x10_2 p317 (by first | exact q317 | exact of_decide_eq_true (by first | (with_reducible assumption) | assumption) | (have e_ := (Kd.S_reads' HO_6.out).1; omega))
                          obtain ⟨ve317_0, rfl, ge317_0⟩ := hMe317
                          have hv317_0 := hcc317 0 _ rfl
                          rw [Nat.add_zero, show ((Kd.slice 5 (Kd.int .u8))).sz = 1 from rfl, Nat.mul_one] at hv317_0
                          replace hv317_0 := Option.some.inj (hv317_0.symm.trans hx317_0)
                          rw [hv317_0] at ge317_0
                          have HL317_0 := Aside0.mk (show Kd.R (Kd.int .u8) 5 _ _ _ _ (rd_L1 t305 x10_2) from ge317_0)
                          clear hv317_0 ge317_0
                          clear hcc317 hce317
                          have HR317_0 := Aside0.mk hi317_0
                          have HC317_0 := Aside0.mk hl317_0
                          clear hi317_0 hl317_0
                          replace p317 := eq_true p317
                          replace q317 := eq_true q317
                          have q33 : (x10_2 : Int) ≤ ((t305.length : Int) : Int) := of_decide_eq_true (by first | (with_reducible assumption) | assumption)
                          obtain ⟨i033, hi033, _, hsz33, _⟩ := info_parts info27
                          have hroom33 : t305.length ≤ co32 := (Kd.S_reads' HO_6.out).2.1
                          have hC33 : Kd.C (Kd.slice 5 (Kd.int .u8)) _ (some ad317) t305.length t305 := (Kd.S_reads' HO_6.out).2.2
                          have hcut33 := cut_to (P := Tryd.prog) 22 27 .i64 Tryd.underlying22 hi033 (some ad317) t305.length co32 x10_2 (of_decide_eq_true (by first | (with_reducible assumption) | assumption)) q33 hroom33
                          have hr33 := Kd.C_take (m := (x10_2 : Int).toNat) hC33 (by omega)
                          have hy33 : y319.length = (x10_2 : Int).toNat := (by rw [Ny319.out, List.length_take]; omega)
                          rw [← Ny319.out] at hr33
                          rw [← hy33] at hcut33
                          have HR322 := Aside0.mk hr33
                          have HC322 := Aside0.mk (show y319.length ≤ co32 from by omega)
                          clear hr33 hC33 hroom33 hi033 hsz33
                          have KY33 := Aside0.mk hy33
                          clear hy33
                          have KL33 := Aside0.mk (show (x10_2 : Int).toNat ≤ t305.length from by omega)
                          replace q33 := eq_true q33
                          obtain ⟨Ao34, co34, eo34⟩ := Kd.S_slice HO_8.out
                          subst eo34
                          go_wp2_with (first | (go_at_call 19; (with_reducible refine (stratumlaw21_alike.calls k2 _ _ t313 _ _ y319 t323 _ ?side1 ?side2 ?side3 ?side4 A31.out).mono ?_); (case side1 => repeat (first | exact (Kd.S_reads' HO_8.out).2.2 | (with_reducible refine Kd.C_alloc ?_ _) | (with_reducible refine Kd.C_drewN ?_ _) | (with_reducible refine Kd.C_drew ?_))); (case side2 => exact (Kd.S_reads' HO_8.out).2.1); (case side3 => repeat (first | exact (by repeat (first | (with_reducible exact HR322.out) | (with_reducible refine Kd.C_alloc ?_ _) | (with_reducible refine Kd.C_drewN ?_ _) | (with_reducible refine Kd.C_drew ?_) | exact HR322.out)) | (with_reducible refine Kd.C_alloc ?_ _) | (with_reducible refine Kd.C_drewN ?_ _) | (with_reducible refine Kd.C_drew ?_))); (case side4 => exact HC322.out); rintro e w' ⟨rfl, ⟨nd, rfl⟩⟩))
                          go_ret
                          exact ⟨by first | rfl | (simp [errW_none, errW_some] <;> rfl) | (simp [*, errW_none, errW_some] <;> rfl), by repeat (first | (with_reducible first | exact HB.out | apply below_alloc | apply pw_below_drewN | apply below_drew1) | exact HB.out)⟩
                        · rw [if_neg c30] at H
                          exact absurd H (by simp)
                      · rw [if_neg c28] at H
                        have c28b0 : (t314 == x11_2) = false := beq_eq_false_iff_ne.mpr c28
                        have c28b1 : (t314 != x11_2) = true := bne_iff_ne.mpr c28
                        obtain rfl := Option.some.inj H
                        obtain ⟨Ao35, co35, eo35⟩ := Kd.S_slice HO_6.out
                        subst eo35
                        have p317 : 0 ≤ (x10_2 : Int) := of_decide_eq_true (by first | (with_reducible assumption) | assumption)
                        have q317 : x10_2 < (t305.length : Int) := of_decide_eq_true (by first | (with_reducible assumption) | assumption)
                        obtain ⟨ad317, A317_0, c317_0, e317, hx317_0, hl317_0, hi317_0⟩ := at_L1 (Kd.S_reads' HO_6.out).2.2 x10_2 p317 q317
                        cases e317
                        obtain ⟨ce317, hce317, hMe317, hcc317⟩ := Kd.S_get HO_6.out [] x10_2 p317 (by first | exact q317 | exact of_decide_eq_true (by first | (with_reducible assumption) | assumption) | (have e_ := (Kd.S_reads' HO_6.out).1; omega))
                        obtain ⟨ve317_0, rfl, ge317_0⟩ := hMe317
                        have hv317_0 := hcc317 0 _ rfl
                        rw [Nat.add_zero, show ((Kd.slice 5 (Kd.int .u8))).sz = 1 from rfl, Nat.mul_one] at hv317_0
                        replace hv317_0 := Option.some.inj (hv317_0.symm.trans hx317_0)
                        rw [hv317_0] at ge317_0
                        have HL317_0 := Aside0.mk (show Kd.R (Kd.int .u8) 5 _ _ _ _ (rd_L1 t305 x10_2) from ge317_0)
                        clear hv317_0 ge317_0
                        clear hcc317 hce317
                        have HR317_0 := Aside0.mk hi317_0
                        have HC317_0 := Aside0.mk hl317_0
                        clear hi317_0 hl317_0
                        replace p317 := eq_true p317
                        replace q317 := eq_true q317
                        go_wp2
                        go_ret
                        exact ⟨by first | rfl | (simp [errW_none, errW_some] <;> rfl) | (simp [*, errW_none, errW_some] <;> rfl), by repeat (first | (with_reducible first | exact HB.out | apply below_alloc | apply pw_below_drewN | apply below_drew1) | exact HB.out)⟩
                  · rw [if_neg c25] at H
                    exact absurd H (by simp)
                · rw [if_neg c24] at H
                  have c24b0 : decide (x10_2 < (t305.length : Int)) = false := decide_eq_false c24
                  clear c24
                  by_cases c36 : t314 = x11_2
                  · rw [if_pos c36] at H
                    have c36b0 : (t314 == x11_2) = true := beq_iff_eq.mpr c36
                    have c36b1 : (t314 != x11_2) = false := bne_eq_false_iff_eq.mpr c36
                    clear c36
                    by_cases c37 : 0 ≤ x10_2
                    · rw [if_pos c37] at H
                      have c37b0 := eq_true c37
                      have c37b1 : decide (0 ≤ x10_2) = true := decide_eq_true c37
                      clear c37
                      by_cases c38 : x10_2 ≤ (t305.length : Int)
                      · rw [if_pos c38] at H
                        have c38b0 := eq_true c38
                        have c38b1 : decide (x10_2 ≤ (t305.length : Int)) = true := decide_eq_true c38
                        clear c38
                        obtain ⟨y324, hy324⟩ : ∃ y_ : List (List Int), y_ = (t305.take (x10_2 : Int).toNat) := ⟨_, rfl⟩
                        replace H : ((stratumlaw21_alike.f k2 t313 y324).bind fun t328 => (some t328)) = some r := by first | (rw [hy324]; with_reducible exact H) | (have H2_ := (Option.bind_some _ _).symm.trans H; rw [hy324]; with_reducible exact H2_) | (have H2_ := (Option.bind_some _ _).symm.trans H; with_reducible exact H2_) | with_reducible exact H | (rw [hy324]; exact H) | exact H
                        have Ny324 := Aside0.mk hy324
                        clear hy324
                        replace H := Option.bind_eq_some_iff.mp H
                        obtain ⟨t328, A390, H⟩ := H
                        replace H : (some t328) = some r := H
                        have A39 := Aside0.mk A390
                        clear A390
                        obtain rfl := Option.some.inj H
                        obtain ⟨Ao40, co40, eo40⟩ := Kd.S_slice HO_6.out
                        subst eo40
                        have q41 : (x10_2 : Int) ≤ ((t305.length : Int) : Int) := of_decide_eq_true (by first | (with_reducible assumption) | assumption)
                        obtain ⟨i041, hi041, _, hsz41, _⟩ := info_parts info27
                        have hroom41 : t305.length ≤ co40 := (Kd.S_reads' HO_6.out).2.1
                        have hC41 : Kd.C (Kd.slice 5 (Kd.int .u8)) _ Ao40 t305.length t305 := (Kd.S_reads' HO_6.out).2.2
                        have hcut41 := cut_to (P := Tryd.prog) 22 27 .i64 Tryd.underlying22 hi041 Ao40 t305.length co40 x10_2 (of_decide_eq_true (by first | (with_reducible assumption) | assumption)) q41 hroom41
                        have hr41 := Kd.C_take (m := (x10_2 : Int).toNat) hC41 (by omega)
                        have hy41 : y324.length = (x10_2 : Int).toNat := (by rw [Ny324.out, List.length_take]; omega)
                        rw [← Ny324.out] at hr41
                        rw [← hy41] at hcut41
                        have HR327 := Aside0.mk hr41
                        have HC327 := Aside0.mk (show y324.length ≤ co40 from by omega)
                        clear hr41 hC41 hroom41 hi041 hsz41
                        have KY41 := Aside0.mk hy41
                        clear hy41
                        have KL41 := Aside0.mk (show (x10_2 : Int).toNat ≤ t305.length from by omega)
                        replace q41 := eq_true q41
                        obtain ⟨Ao42, co42, eo42⟩ := Kd.S_slice HO_8.out
                        subst eo42
                        go_wp2_with (first | (go_at_call 19; (with_reducible refine (stratumlaw21_alike.calls k2 _ _ t313 _ _ y324 t328 _ ?side1 ?side2 ?side3 ?side4 A39.out).mono ?_); (case side1 => repeat (first | exact (Kd.S_reads' HO_8.out).2.2 | (with_reducible refine Kd.C_alloc ?_ _) | (with_reducible refine Kd.C_drewN ?_ _) | (with_reducible refine Kd.C_drew ?_))); (case side2 => exact (Kd.S_reads' HO_8.out).2.1); (case side3 => repeat (first | exact (by repeat (first | (with_reducible exact HR327.out) | (with_reducible refine Kd.C_alloc ?_ _) | (with_reducible refine Kd.C_drewN ?_ _) | (with_reducible refine Kd.C_drew ?_) | exact HR327.out)) | (with_reducible refine Kd.C_alloc ?_ _) | (with_reducible refine Kd.C_drewN ?_ _) | (with_reducible refine Kd.C_drew ?_))); (case side4 => exact HC327.out); rintro e w' ⟨rfl, ⟨nd, rfl⟩⟩))
                        go_ret
                        exact ⟨by first | rfl | (simp [errW_none, errW_some] <;> rfl) | (simp [*, errW_none, errW_some] <;> rfl), by repeat (first | (with_reducible first | exact HB.out | apply below_alloc | apply pw_below_drewN | apply below_drew1) | exact HB.out)⟩
                      · rw [if_neg c38] at H
                        exact absurd H (by simp)
                    · rw [if_neg c37] at H
                      exact absurd H (by simp)
                  · rw [if_neg c36] at H
                    have c36b0 : (t314 == x11_2) = false := beq_eq_false_iff_ne.mpr c36
                    have c36b1 : (t314 != x11_2) = true := bne_iff_ne.mpr c36
                    obtain rfl := Option.some.inj H
                    obtain ⟨Ao43, co43, eo43⟩ := Kd.S_slice HO_6.out
                    subst eo43
                    go_wp2
                    go_ret
                    exact ⟨by first | rfl | (simp [errW_none, errW_some] <;> rfl) | (simp [*, errW_none, errW_some] <;> rfl), by repeat (first | (with_reducible first | exact HB.out | apply below_alloc | apply pw_below_drewN | apply below_drew1) | exact HB.out)⟩
          · rw [if_neg c14] at H
            exact absurd H (by simp)
        · rw [if_neg c13] at H
          exact absurd H (by simp)

/-! ### stratumlaw21_FrameTurned: function 7 -/
mutual
def stratumlaw21_FrameTurned.j0 : Nat → List Int → Int → Int → Bool → Bool → List Int → Option (Bool)
  | 0, _, _, _, _, _, _ => none
  | k + 1, x0, x1, x2, x7, x20, x999 => if x20 = true then (some x7) else ((stratumlaw21_copied.f x0).bind fun t330 => ((frame_Encode.f t330 x999).bind fun bt333 => (if bt333.2 = 0 then (if x2 = 0 then (stratumlaw21_FrameTurned.j1 k x0 x1 x2 bt333.1 bt333.2 true x999) else (if x1 < 4 then (stratumlaw21_FrameTurned.j1 k x0 x1 x2 bt333.1 bt333.2 true x999) else (stratumlaw21_FrameTurned.j1 k x0 x1 x2 bt333.1 bt333.2 (decide (x1 ≥ (bt333.1.length : Int))) x999))) else (stratumlaw21_FrameTurned.j1 k x0 x1 x2 bt333.1 bt333.2 true x999))))
def stratumlaw21_FrameTurned.j1 : Nat → List Int → Int → Int → List Int → Int → Bool → List Int → Option (Bool)
  | 0, _, _, _, _, _, _, _ => none
  | k + 1, x0, x1, x2, x8, x9, x43, x999 => if x43 = true then (if x9 = 0 then (some true) else (some ((x0.length : Int) == 0))) else ((stratumlaw21_copied.f x8).bind fun t337 => (if 0 ≤ x1 then (if x1 < (t337.length : Int) then ((frame_Scan.f (t337.set (x1 : Int).toNat (Go.bits .xor .u8 (rd t337 x1) x2)) x999).bind fun bt342 => (if (bt342.1.length : Int) = 0 then (some (bt342.2 == 0)) else (some false))) else (none)) else (none)))
end
def stratumlaw21_FrameTurned.f (k : Nat) (l0 : List Int) (a1 : Int) (a2 : Int) (lG : List Int) : Option (Bool) := (stratumlaw21_awake.f k lG).bind fun t329 => (if t329 = true then (stratumlaw21_FrameTurned.j0 k l0 a1 a2 t329 (decide ((l0.length : Int) > 1048576)) lG) else (stratumlaw21_FrameTurned.j0 k l0 a1 a2 t329 true lG))
theorem stratumlaw21_FrameTurned.mono_l : ∀ k, (∀ y0 y1 y2 y3 y4 y5, LeO (stratumlaw21_FrameTurned.j0 k y0 y1 y2 y3 y4 y5) (stratumlaw21_FrameTurned.j0 (k + 1) y0 y1 y2 y3 y4 y5)) ∧ (∀ y0 y1 y2 y3 y4 y5 y6, LeO (stratumlaw21_FrameTurned.j1 k y0 y1 y2 y3 y4 y5 y6) (stratumlaw21_FrameTurned.j1 (k + 1) y0 y1 y2 y3 y4 y5 y6))
  | 0 => ⟨fun _ _ _ _ _ _ r h => by simp [stratumlaw21_FrameTurned.j0] at h, fun _ _ _ _ _ _ _ r h => by simp [stratumlaw21_FrameTurned.j1] at h⟩
  | k + 1 => by
    obtain ⟨ih0, ih1⟩ := stratumlaw21_FrameTurned.mono_l k
    refine ⟨?_, ?_⟩
    · intro y0 y1 y2 y3 y4 y5
      unfold stratumlaw21_FrameTurned.j0
      repeat' first
      | (with_reducible exact ih0 _ _ _ _ _ _)
      | (with_reducible exact ih1 _ _ _ _ _ _ _)
      | (with_reducible exact stratumlaw21_awake.mono _ _)
      | (with_reducible exact LeO.refl _)
      | (with_reducible exact LeO.none _)
      | (with_reducible refine LeO.ite ?_ ?_)
      | (with_reducible refine LeO.bind ?_ (fun _ => ?_))
      | exact ih0 _ _ _ _ _ _
      | exact ih1 _ _ _ _ _ _ _
      | exact stratumlaw21_awake.mono _ _
      | exact LeO.none _
      | refine LeO.ite ?_ ?_
      | refine LeO.bind ?_ (fun _ => ?_)
    · intro y0 y1 y2 y3 y4 y5 y6
      unfold stratumlaw21_FrameTurned.j1
      repeat' first
      | (with_reducible exact ih0 _ _ _ _ _ _)
      | (with_reducible exact ih1 _ _ _ _ _ _ _)
      | (with_reducible exact stratumlaw21_awake.mono _ _)
      | (with_reducible exact LeO.refl _)
      | (with_reducible exact LeO.none _)
      | (with_reducible refine LeO.ite ?_ ?_)
      | (with_reducible refine LeO.bind ?_ (fun _ => ?_))
      | exact ih0 _ _ _ _ _ _
      | exact ih1 _ _ _ _ _ _ _
      | exact stratumlaw21_awake.mono _ _
      | exact LeO.none _
      | refine LeO.ite ?_ ?_
      | refine LeO.bind ?_ (fun _ => ?_)
theorem stratumlaw21_FrameTurned.mono : ∀ a0 a1 a2 a3 k, LeO (stratumlaw21_FrameTurned.f k a0 a1 a2 a3) (stratumlaw21_FrameTurned.f (k + 1) a0 a1 a2 a3) := by
  intro a0 a1 a2 a3 k
  obtain ⟨ih0, ih1⟩ := stratumlaw21_FrameTurned.mono_l k
  unfold stratumlaw21_FrameTurned.f
  repeat' first
      | (with_reducible exact ih0 _ _ _ _ _ _)
      | (with_reducible exact ih1 _ _ _ _ _ _ _)
      | (with_reducible exact stratumlaw21_awake.mono _ _)
      | (with_reducible exact LeO.refl _)
      | (with_reducible exact LeO.none _)
      | (with_reducible refine LeO.ite ?_ ?_)
      | (with_reducible refine LeO.bind ?_ (fun _ => ?_))
      | exact ih0 _ _ _ _ _ _
      | exact ih1 _ _ _ _ _ _ _
      | exact stratumlaw21_awake.mono _ _
      | exact LeO.none _
      | refine LeO.ite ?_ ?_
      | refine LeO.bind ?_ (fun _ => ?_)
set_option maxHeartbeats 8000000 in
set_option maxRecDepth 100000 in
theorem stratumlaw21_FrameTurned.calls (k : Nat) (A0 : Option Addr) (c0 : Nat) (l0 : List Int) (a1 : Int) (a2 : Int) (lG : List Int) (r : Bool) (w : World) (hr0 : Kd.C (Kd.int .u8) w A0 l0.length l0) (hc0 : l0.length ≤ c0) (hrG : Kd.C (Kd.int .u32) w (some ⟨0, 0, none⟩) lG.length lG) (hcG : lG.length ≤ 16) (h : stratumlaw21_FrameTurned.f k l0 a1 a2 lG = some r) :
    Calls Tryd.prog 7 #[.slice A0 l0.length c0, .int .i64 a1, .int .u8 a2] w fun e w' => e = .returned (.bool r) ∧ Below w.heap.size w w' := by
  have HR0 := Aside0.mk hr0
  have HC0 := Aside0.mk hc0
  clear hr0 hc0
  have HRG := Aside0.mk hrG
  have HCG := Aside0.mk hcG
  clear hrG hcG
  have HB := Aside0.mk (Below.refl w.heap.size w)
  have H : ((stratumlaw21_awake.f k lG).bind fun t329 => (if t329 = true then (stratumlaw21_FrameTurned.j0 k l0 a1 a2 t329 (decide ((l0.length : Int) > 1048576)) lG) else (stratumlaw21_FrameTurned.j0 k l0 a1 a2 t329 true lG))) = some r := h
  clear h
  replace H := Option.bind_eq_some_iff.mp H
  obtain ⟨t329, A50, H⟩ := H
  replace H : (if t329 = true then (stratumlaw21_FrameTurned.j0 k l0 a1 a2 t329 (decide ((l0.length : Int) > 1048576)) lG) else (stratumlaw21_FrameTurned.j0 k l0 a1 a2 t329 true lG)) = some r := H
  have A5 := Aside0.mk A50
  clear A50
  have HC6 := Aside0.mk H
  clear H
  go_enter Tryd.func7, Tryd.ntmps7
  go_upto_region 2 with (first | ((with_reducible refine gate_callee (f := 9) rfl ?_); refine goesL_ (some 13) rfl rfl Tryd.func9 (by kernel_rfl) rfl #[] rfl (by (try simp only [List.map_toArray, List.map_cons, List.map_nil]); first | done | rfl | (simp only [List.length_drop, List.length_take]; rfl)) ?_; (with_reducible refine (stratumlaw21_awake.calls k lG t329 _ ?side1 ?side2 A5.out).mono ?_); (case side1 => repeat (first | exact HRG.out | (with_reducible refine Kd.C_alloc ?_ _) | (with_reducible refine Kd.C_drewN ?_ _) | (with_reducible refine Kd.C_drew ?_))); (case side2 => exact HCG.out); rintro e w7 ⟨rfl, hb⟩; refine ⟨_, rfl, ?_⟩; have n0_ := Aside0.mk (below_step (by repeat (first | (with_reducible first | exact HB.out | apply below_alloc | apply pw_below_drewN | apply below_drew1) | exact HB.out)) hb); clear HB; have HB := n0_; clear n0_; (try clear hb); (try clear hb2); (try clear hk); (try clear hi)))
  (try simp only [Act.put, List.setIfInBounds_toArray, List.set_cons_zero, List.set_cons_succ])
  go_cut [20] (fun v20 wc => ∃ (kq : Nat) (x20_5 : Bool), v20 = .bool x20_5 ∧ Aside0 (stratumlaw21_FrameTurned.j0 kq l0 a1 a2 t329 x20_5 lG = some r) ∧ Aside0 (kq ≤ k) ∧ Aside0 (Below w.heap.size w wc))
  case first =>
    have H := HC6.out
    clear HC6
    by_cases c8 : t329 = true
    · subst c8
      have H1 : (stratumlaw21_FrameTurned.j0 k l0 a1 a2 true (decide ((l0.length : Int) > 1048576)) lG) = some r := by rw [if_pos rfl] at H; exact H
      clear H
      have H := H1
      clear H1
      have H' := Aside0.mk H
      clear H
      go_wp2
      go_meet
      case rel => exact ⟨_, (decide ((l0.length : Int) > 1048576)), (by first | rfl | (simp; done) | (simp [*]; done)), H', ⟨by first | omega | exact Nat.le_refl _⟩, ⟨by repeat (first | (with_reducible first | exact HB.out | apply below_alloc | apply pw_below_drewN | apply below_drew1) | exact HB.out)⟩⟩
    · replace c8 := Bool.eq_false_iff.mpr c8
      subst c8
      have H1 : (stratumlaw21_FrameTurned.j0 k l0 a1 a2 false true lG) = some r := by rw [if_neg (show ¬ (false = true) by decide)] at H; exact H
      clear H
      have H := H1
      clear H1
      have H' := Aside0.mk H
      clear H
      go_wp2
      go_meet
      case rel => exact ⟨_, (true), (by first | rfl | (simp; done) | (simp [*]; done)), H', ⟨by first | omega | exact Nat.le_refl _⟩, ⟨by repeat (first | (with_reducible first | exact HB.out | apply below_alloc | apply pw_below_drewN | apply below_drew1) | exact HB.out)⟩⟩
  case rest =>
    clear HC6
    try clear p2
    try clear c7
    try clear c8
    obtain ⟨kq, x20_5, rfl, HA, HJ5, HB⟩ := hcut
    cases kq with
    | zero => exact absurd HA.out (by simp [stratumlaw21_FrameTurned.j0])
    | succ kj5 =>
      have H := HA.out
      clear HA
      simp only [stratumlaw21_FrameTurned.j0] at H
      by_cases c9 : x20_5 = true
      · subst c9
        have H1 : (some t329) = some r := by rw [if_pos rfl] at H; exact H
        clear H
        have H := H1
        clear H1
        obtain rfl := Option.some.inj H
        go_wp2
        go_ret
        exact ⟨by first | rfl | (simp [errW_none, errW_some] <;> rfl) | (simp [*, errW_none, errW_some] <;> rfl), by repeat (first | (with_reducible first | exact HB.out | apply below_alloc | apply pw_below_drewN | apply below_drew1) | exact HB.out)⟩
      · replace c9 := Bool.eq_false_iff.mpr c9
        subst c9
        have H1 : ((stratumlaw21_copied.f l0).bind fun t330 => ((frame_Encode.f t330 lG).bind fun bt333 => (if bt333.2 = 0 then (if a2 = 0 then (stratumlaw21_FrameTurned.j1 kj5 l0 a1 a2 bt333.1 bt333.2 true lG) else (if a1 < 4 then (stratumlaw21_FrameTurned.j1 kj5 l0 a1 a2 bt333.1 bt333.2 true lG) else (stratumlaw21_FrameTurned.j1 kj5 l0 a1 a2 bt333.1 bt333.2 (decide (a1 ≥ (bt333.1.length : Int))) lG))) else (stratumlaw21_FrameTurned.j1 kj5 l0 a1 a2 bt333.1 bt333.2 true lG)))) = some r := by rw [if_neg (show ¬ (false = true) by decide)] at H; exact H
        clear H
        have H := H1
        clear H1
        replace H := Option.bind_eq_some_iff.mp H
        obtain ⟨t330, A100, H⟩ := H
        replace H : ((frame_Encode.f t330 lG).bind fun bt333 => (if bt333.2 = 0 then (if a2 = 0 then (stratumlaw21_FrameTurned.j1 kj5 l0 a1 a2 bt333.1 bt333.2 true lG) else (if a1 < 4 then (stratumlaw21_FrameTurned.j1 kj5 l0 a1 a2 bt333.1 bt333.2 true lG) else (stratumlaw21_FrameTurned.j1 kj5 l0 a1 a2 bt333.1 bt333.2 (decide (a1 ≥ (bt333.1.length : Int))) lG))) else (stratumlaw21_FrameTurned.j1 kj5 l0 a1 a2 bt333.1 bt333.2 true lG))) = some r := H
        have A10 := Aside0.mk A100
        clear A100
        replace H := Option.bind_eq_some_iff.mp H
        obtain ⟨⟨t333, t334⟩, A110, H⟩ := H
        replace H : (if t334 = 0 then (if a2 = 0 then (stratumlaw21_FrameTurned.j1 kj5 l0 a1 a2 t333 t334 true lG) else (if a1 < 4 then (stratumlaw21_FrameTurned.j1 kj5 l0 a1 a2 t333 t334 true lG) else (stratumlaw21_FrameTurned.j1 kj5 l0 a1 a2 t333 t334 (decide (a1 ≥ (t333.length : Int))) lG))) else (stratumlaw21_FrameTurned.j1 kj5 l0 a1 a2 t333 t334 true lG)) = some r := H
        have A11 := Aside0.mk A110
        clear A110
        have HC12 := Aside0.mk H
        clear H
        go_upto_region 5 with (first | ((with_reducible refine gate_callee (f := 12) rfl ?_); refine goesL_ (some 24) rfl rfl Tryd.func12 (by kernel_rfl) rfl #[.slice A0 l0.length c0] rfl (by (try simp only [List.map_toArray, List.map_cons, List.map_nil]); first | done | rfl | (simp only [List.length_drop, List.length_take]; rfl)) ?_; (with_reducible refine (stratumlaw21_copied.calls _ _ l0 t330 _ ?side1 ?side2 A10.out).mono ?_); (case side1 => repeat (first | exact (Kd.C_below HR0.out HB.out) | (with_reducible refine Kd.C_alloc ?_ _) | (with_reducible refine Kd.C_drewN ?_ _) | (with_reducible refine Kd.C_drew ?_))); (case side2 => exact HC0.out); rintro e w13 ⟨v331, rfl, ho0, hb⟩; refine ⟨_, rfl, ?_⟩; have n0_ := Aside0.mk (Kd.R_lower ho0 (below_size (by repeat (first | (with_reducible first | exact HB.out | apply below_alloc | apply pw_below_drewN | apply below_drew1) | exact HB.out)))); have n1_ := Aside0.mk (below_step (by repeat (first | (with_reducible first | exact HB.out | apply below_alloc | apply pw_below_drewN | apply below_drew1) | exact HB.out)) hb); clear HB; have HO332 := n0_; have HB := n1_; clear n0_ n1_; (try clear hb); (try clear hb2); (try clear hk); (try clear hi); (try clear ho0); obtain ⟨Ao14, co14, eo14⟩ := Kd.R_slice HO332.out; subst eo14) | ((with_reducible refine gate_callee (f := 14) rfl ?_); refine goesL_ (some 25) rfl rfl Tryd.func14 (by kernel_rfl) rfl #[.slice Ao14 t330.length co14] rfl (by (try simp only [List.map_toArray, List.map_cons, List.map_nil]); first | done | rfl | (simp only [List.length_drop, List.length_take]; rfl)) ?_; (with_reducible refine (frame_Encode.calls _ _ t330 lG t333 t334 _ ?side1 ?side2 ?side3 ?side4 A11.out).mono ?_); (case side1 => repeat (first | exact (Kd.R_reads' HO332.out).2.2 | (with_reducible refine Kd.C_alloc ?_ _) | (with_reducible refine Kd.C_drewN ?_ _) | (with_reducible refine Kd.C_drew ?_))); (case side2 => exact (Kd.R_reads' HO332.out).2.1); (case side3 => repeat (first | exact (Kd.C_below HRG.out HB.out) | (with_reducible refine Kd.C_alloc ?_ _) | (with_reducible refine Kd.C_drewN ?_ _) | (with_reducible refine Kd.C_drew ?_))); (case side4 => exact HCG.out); rintro e w15 ⟨v335, rfl, ho0, hb⟩; refine ⟨_, rfl, ?_⟩; have n0_ := Aside0.mk (Kd.R_elder' (by (with_reducible repeat (first | apply Kd.R_alloc | apply Kd.R_drewN | apply Kd.R_drew)); exact HO332.out) (Kd.R_base ho0) hb); have n1_ := Aside0.mk (Kd.R_lower (Kd.R_new' ho0 (Kd.R_lt (by (with_reducible repeat (first | apply Kd.R_alloc | apply Kd.R_drewN | apply Kd.R_drew)); exact HO332.out))) (below_size (by repeat (first | (with_reducible first | exact HB.out | apply below_alloc | apply pw_below_drewN | apply below_drew1) | exact HB.out)))); have n2_ := Aside0.mk (below_step (by repeat (first | (with_reducible first | exact HB.out | apply below_alloc | apply pw_below_drewN | apply below_drew1) | exact HB.out)) hb); clear HO332; clear HB; have HO332 := n0_; have HO336 := n1_; have HB := n2_; clear n0_ n1_ n2_; (try clear hb); (try clear hb2); (try clear hk); (try clear hi); (try clear ho0)))
        (try simp only [Act.put, List.setIfInBounds_toArray, List.set_cons_zero, List.set_cons_succ])
        go_cut [43] (fun v43 wc => ∃ (kq : Nat) (x43_11 : Bool), v43 = .bool x43_11 ∧ Aside0 (stratumlaw21_FrameTurned.j1 kq l0 a1 a2 t333 t334 x43_11 lG = some r) ∧ Aside0 (kq ≤ kj5) ∧ Aside0 (Kd.R (Kd.int .u8) 5 wc w.heap.size (fun _ => True) v335 t333) ∧ Aside0 (Below w.heap.size w wc))
        case first =>
          have H := HC12.out
          clear HC12
          by_cases c16 : t334 = 0
          · rw [if_pos c16] at H
            have c16b0 : (t334 == 0) = true := beq_iff_eq.mpr c16
            have c16b1 : (t334 != 0) = false := bne_eq_false_iff_eq.mpr c16
            clear c16
            (first | rw [c16b0] | (simp only [i64_w, i32_w]; rw [c16b0]) | skip)
            by_cases c17 : a2 = 0
            · rw [if_pos c17] at H
              have c17b0 : (a2 == 0) = true := beq_iff_eq.mpr c17
              have c17b1 : (a2 != 0) = false := bne_eq_false_iff_eq.mpr c17
              clear c17
              have H' := Aside0.mk H
              clear H
              go_wp2
              go_meet
              case rel => exact ⟨_, (true), (by first | rfl | (simp; done) | (simp [*]; done)), H', ⟨by have := HJ5.out; first | omega | exact Nat.le_refl _⟩, ⟨by (with_reducible repeat (first | apply Kd.R_alloc | apply Kd.R_drewN | apply Kd.R_drew)); exact Kd.R_mono HO336.out (fun _ hk => trivial)⟩, ⟨by repeat (first | (with_reducible first | exact HB.out | apply below_alloc | apply pw_below_drewN | apply below_drew1) | exact HB.out)⟩⟩
            · rw [if_neg c17] at H
              have c17b0 : (a2 == 0) = false := beq_eq_false_iff_ne.mpr c17
              have c17b1 : (a2 != 0) = true := bne_iff_ne.mpr c17
              by_cases c18 : a1 < 4
              · rw [if_pos c18] at H
                have c18b0 : decide (a1 < 4) = true := decide_eq_true c18
                clear c18
                have H' := Aside0.mk H
                clear H
                go_wp2
                go_meet
                case rel => exact ⟨_, (true), (by first | rfl | (simp; done) | (simp [*]; done)), H', ⟨by have := HJ5.out; first | omega | exact Nat.le_refl _⟩, ⟨by (with_reducible repeat (first | apply Kd.R_alloc | apply Kd.R_drewN | apply Kd.R_drew)); exact Kd.R_mono HO336.out (fun _ hk => trivial)⟩, ⟨by repeat (first | (with_reducible first | exact HB.out | apply below_alloc | apply pw_below_drewN | apply below_drew1) | exact HB.out)⟩⟩
              · rw [if_neg c18] at H
                have c18b0 : decide (a1 < 4) = false := decide_eq_false c18
                clear c18
                have H' := Aside0.mk H
                clear H
                obtain ⟨Ao19, co19, eo19⟩ := Kd.R_slice HO336.out
                subst eo19
                go_wp2
                go_meet
                case rel => exact ⟨_, (decide (a1 ≥ (t333.length : Int))), (by first | rfl | (simp; done) | (simp [*]; done)), H', ⟨by have := HJ5.out; first | omega | exact Nat.le_refl _⟩, ⟨by (with_reducible repeat (first | apply Kd.R_alloc | apply Kd.R_drewN | apply Kd.R_drew)); exact Kd.R_mono HO336.out (fun _ hk => trivial)⟩, ⟨by repeat (first | (with_reducible first | exact HB.out | apply below_alloc | apply pw_below_drewN | apply below_drew1) | exact HB.out)⟩⟩
          · rw [if_neg c16] at H
            have c16b0 : (t334 == 0) = false := beq_eq_false_iff_ne.mpr c16
            have c16b1 : (t334 != 0) = true := bne_iff_ne.mpr c16
            (first | rw [c16b0] | (simp only [i64_w, i32_w]; rw [c16b0]) | skip)
            have H' := Aside0.mk H
            clear H
            go_wp2
            go_meet
            case rel => exact ⟨_, (true), (by first | rfl | (simp; done) | (simp [*]; done)), H', ⟨by have := HJ5.out; first | omega | exact Nat.le_refl _⟩, ⟨by (with_reducible repeat (first | apply Kd.R_alloc | apply Kd.R_drewN | apply Kd.R_drew)); exact Kd.R_mono HO336.out (fun _ hk => trivial)⟩, ⟨by repeat (first | (with_reducible first | exact HB.out | apply below_alloc | apply pw_below_drewN | apply below_drew1) | exact HB.out)⟩⟩
        case rest =>
          clear HC12
          try clear c1
          try clear p2
          try clear c7
          try clear c8
          try clear c9
          try clear c12
          try clear c14
          try clear c16
          try clear c16b0
          try clear c16b1
          try clear c17
          try clear c17b0
          try clear c17b1
          try clear c18
          try clear c18b0
          try clear p2
          obtain ⟨kq, x43_11, rfl, HA, HJ11, HO_8, HB⟩ := hcut
          cases kq with
          | zero => exact absurd HA.out (by simp [stratumlaw21_FrameTurned.j1])
          | succ kj11 =>
            have H := HA.out
            clear HA
            simp only [stratumlaw21_FrameTurned.j1] at H
            by_cases c20 : x43_11 = true
            · subst c20
              have H1 : (if t334 = 0 then (some true) else (some ((l0.length : Int) == 0))) = some r := by rw [if_pos rfl] at H; exact H
              clear H
              have H := H1
              clear H1
              by_cases c21 : t334 = 0
              · rw [if_pos c21] at H
                have c21b0 : (t334 == 0) = true := beq_iff_eq.mpr c21
                have c21b1 : (t334 != 0) = false := bne_eq_false_iff_eq.mpr c21
                clear c21
                obtain rfl := Option.some.inj H
                go_wp2
                go_ret
                exact ⟨by first | rfl | (simp [errW_none, errW_some] <;> rfl) | (simp [*, errW_none, errW_some] <;> rfl), by repeat (first | (with_reducible first | exact HB.out | apply below_alloc | apply pw_below_drewN | apply below_drew1) | exact HB.out)⟩
              · rw [if_neg c21] at H
                have c21b0 : (t334 == 0) = false := beq_eq_false_iff_ne.mpr c21
                have c21b1 : (t334 != 0) = true := bne_iff_ne.mpr c21
                obtain rfl := Option.some.inj H
                go_wp2
                go_ret
                exact ⟨by first | rfl | (simp [errW_none, errW_some] <;> rfl) | (simp [*, errW_none, errW_some] <;> rfl), by repeat (first | (with_reducible first | exact HB.out | apply below_alloc | apply pw_below_drewN | apply below_drew1) | exact HB.out)⟩
            · replace c20 := Bool.eq_false_iff.mpr c20
              subst c20
              have H1 : ((stratumlaw21_copied.f t333).bind fun t337 => (if 0 ≤ a1 then (if a1 < (t337.length : Int) then ((frame_Scan.f (t337.set (a1 : Int).toNat (Go.bits .xor .u8 (rd t337 a1) a2)) lG).bind fun bt342 => (if (bt342.1.length : Int) = 0 then (some (bt342.2 == 0)) else (some false))) else (none)) else (none))) = some r := by rw [if_neg (show ¬ (false = true) by decide)] at H; exact H
              clear H
              have H := H1
              clear H1
              replace H := Option.bind_eq_some_iff.mp H
              obtain ⟨t337, A220, H⟩ := H
              replace H : (if 0 ≤ a1 then (if a1 < (t337.length : Int) then ((frame_Scan.f (t337.set (a1 : Int).toNat (Go.bits .xor .u8 (rd t337 a1) a2)) lG).bind fun bt342 => (if (bt342.1.length : Int) = 0 then (some (bt342.2 == 0)) else (some false))) else (none)) else (none)) = some r := H
              have A22 := Aside0.mk A220
              clear A220
              by_cases c23 : 0 ≤ a1
              · rw [if_pos c23] at H
                have c23b0 : decide (0 ≤ a1) = true := decide_eq_true c23
                clear c23
                by_cases c24 : a1 < (t337.length : Int)
                · rw [if_pos c24] at H
                  have c24b0 : decide (a1 < (t337.length : Int)) = true := decide_eq_true c24
                  clear c24
                  obtain ⟨y341, hy341⟩ : ∃ y_ : List Int, y_ = (t337.set (a1 : Int).toNat (Go.bits .xor .u8 (rd t337 a1) a2)) := ⟨_, rfl⟩
                  replace H : ((frame_Scan.f y341 lG).bind fun bt342 => (if (bt342.1.length : Int) = 0 then (some (bt342.2 == 0)) else (some false))) = some r := by first | (rw [hy341]; with_reducible exact H) | (have H2_ := (Option.bind_some _ _).symm.trans H; rw [hy341]; with_reducible exact H2_) | (have H2_ := (Option.bind_some _ _).symm.trans H; with_reducible exact H2_) | with_reducible exact H | (rw [hy341]; exact H) | exact H
                  have Ny341 := Aside0.mk hy341
                  clear hy341
                  replace H := Option.bind_eq_some_iff.mp H
                  obtain ⟨⟨t342, t343⟩, A260, H⟩ := H
                  replace H : (if (t342.length : Int) = 0 then (some (t343 == 0)) else (some false)) = some r := H
                  have A26 := Aside0.mk A260
                  clear A260
                  by_cases c27 : (t342.length : Int) = 0
                  · rw [if_pos c27] at H
                    have c27b0 : ((t342.length : Int) == 0) = true := beq_iff_eq.mpr c27
                    have c27b1 : ((t342.length : Int) != 0) = false := bne_eq_false_iff_eq.mpr c27
                    clear c27
                    obtain rfl := Option.some.inj H
                    obtain ⟨Ao28, co28, eo28⟩ := Kd.R_slice HO_8.out
                    subst eo28
                    go_wp2_with (first | ((with_reducible refine gate_callee (f := 12) rfl ?_); refine goesL_ (some 52) rfl rfl Tryd.func12 (by kernel_rfl) rfl #[.slice Ao28 t333.length co28] rfl (by (try simp only [List.map_toArray, List.map_cons, List.map_nil]); first | done | rfl | (simp only [List.length_drop, List.length_take]; rfl)) ?_; (with_reducible refine (stratumlaw21_copied.calls _ _ t333 t337 _ ?side1 ?side2 A22.out).mono ?_); (case side1 => repeat (first | exact (Kd.R_reads' HO_8.out).2.2 | (with_reducible refine Kd.C_alloc ?_ _) | (with_reducible refine Kd.C_drewN ?_ _) | (with_reducible refine Kd.C_drew ?_))); (case side2 => exact (Kd.R_reads' HO_8.out).2.1); rintro e w29 ⟨v338, rfl, ho0, hb⟩; refine ⟨_, rfl, ?_⟩; have n0_ := Aside0.mk (Kd.R_elder' (by (with_reducible repeat (first | apply Kd.R_alloc | apply Kd.R_drewN | apply Kd.R_drew)); exact HO_8.out) (Kd.R_base ho0) hb); have n1_ := Aside0.mk (Kd.R_lower (Kd.R_new' ho0 (Kd.R_lt (by (with_reducible repeat (first | apply Kd.R_alloc | apply Kd.R_drewN | apply Kd.R_drew)); exact HO_8.out))) (below_size (by repeat (first | (with_reducible first | exact HB.out | apply below_alloc | apply pw_below_drewN | apply below_drew1) | exact HB.out)))); have n2_ := Aside0.mk (below_step (by repeat (first | (with_reducible first | exact HB.out | apply below_alloc | apply pw_below_drewN | apply below_drew1) | exact HB.out)) hb); clear HO_8; clear HB; have HO_8 := n0_; have HO339 := n1_; have HB := n2_; clear n0_ n1_ n2_; (try clear hb); (try clear hb2); (try clear hk); (try clear hi); (try clear ho0); obtain ⟨Ao30, co30, eo30⟩ := Kd.R_slice HO339.out; subst eo30; have p340 : 0 ≤ (a1 : Int) := of_decide_eq_true (by first | (with_reducible assumption) | assumption); have q340 : a1 < (t337.length : Int) := of_decide_eq_true (by first | (with_reducible assumption) | assumption); obtain ⟨ad340, e340, hx340_0⟩ := Kd.at_int (Kd.R_reads' HO339.out).2.2 a1 p340 q340; cases e340; replace p340 := eq_true p340; replace q340 := eq_true q340; have p25 : 0 ≤ (a1 : Int) := of_decide_eq_true (by first | (with_reducible assumption) | assumption); have q25 : (a1 : Int) < ((t337.length : Int) : Int) := of_decide_eq_true (by first | (with_reducible assumption) | assumption); obtain ⟨go25, co25, eo25, gb25, gl25, cl25, HG25⟩ := Kd.R_form HO339.out (by omega); (first | cases eo25 | (injection eo25 with ea_ en_ ec_; (first | subst ea_ | (injection ea_ with ea_; subst ea_)); subst ec_; clear en_)); have GB25 := Aside0.mk gb25; have GG25 := Aside0.mk HG25; clear gb25 gl25 HG25; (first | simp only [add_plain] at hx340_0 | skip); obtain ⟨hx25_0, hf25_0⟩ := Kd.R_celln 0 HO339.out (a1 : Int) p25 q25; replace p25 := eq_true p25; replace q25 := eq_true q25; have n_ := Aside0.mk (Kd.R_mono (ok' := (fun k_ => some k_ ≠ (.slice Ao28 t333.length co28 : Value).ownBlock)) HO339.out (fun k_ hk => hk.2)); clear HO339; have HO339 := n_; clear n_; obtain ⟨hy31_, hz31_⟩ := Kd.R_celln 0 HO339.out (a1 : Int) (of_decide_eq_true (by first | (with_reducible assumption) | assumption)) (of_decide_eq_true (by first | (with_reducible assumption) | assumption)); have HP31 := Kd.R_putg HO339.out (a1 : Int) (Go.bits .xor .u8 (rd t337 a1) a2)) | ((with_reducible refine gate_store (t := 5) (p := 61) rfl ?_); refine store_event (t := 5) (p := 61) (v := ?vo_w32) (w1 := (w29.setCell ⟨go25, (a1 : Int).toNat, none⟩ (.int .u8 (Go.bits .xor .u8 (rd t337 a1) a2)))) ?hg ?ho ?hn ?hr ?_; (case ho => rfl); (case hg => rfl); (case hn => rfl); (case hr => first | (go_simp; done) | (go_simp; rfl)); intro w32 hw; have hg : w29.grownBy w32 (some go25) := (by rw [hw]; exact HP31.2); have hp_ : Kd.R (Kd.int .u8) 5 w32 w.heap.size (fun k_ => some k_ ≠ (.slice Ao28 t333.length co28 : Value).ownBlock) (.slice (some ⟨go25, 0, none⟩) t337.length co30) y341 := (by rw [hw, Ny341.out]; exact HP31.1); clear HP31; have n0_ := Aside0.mk (Kd.R_after (v := (.slice (some ⟨go25, 0, none⟩) t337.length co30)) (v1 := (.slice (some ⟨go25, 0, none⟩) t337.length co30)) (ok := (fun _ => True)) (by (with_reducible repeat (first | apply Kd.R_alloc | apply Kd.R_drewN | apply Kd.R_drew)); exact HO_8.out) hg (.inl rfl)); have n1_ := Aside0.mk (hp_); have n2_ := Aside0.mk ((by rw [hw]; exact below_set (HB.out) GB25.out : Below w.heap.size w w32)); clear HO_8; clear HO339; clear HB; have HO_8 := n0_; have HO339 := n1_; have HB := n2_; clear n0_ n1_ n2_; clear hg hw hp_) | ((with_reducible refine gate_callee (f := 16) rfl ?_); refine goesL_ (some 64) rfl rfl Tryd.func16 (by kernel_rfl) rfl #[.slice (some ⟨go25, 0, none⟩) y341.length co30] rfl (by (try simp only [List.map_toArray, List.map_cons, List.map_nil]); first | done | (rw [show y341.length = t337.length from (Kd.R_reads' HO339.out).1.symm] <;> rfl) | rfl | (simp only [List.length_drop, List.length_take]; rfl)) ?_; (with_reducible refine (frame_Scan.calls _ _ y341 lG t342 t343 _ ?side1 ?side2 ?side3 ?side4 A26.out).mono ?_); (case side1 => repeat (first | exact (Kd.R_reads' HO339.out).2.2 | (with_reducible refine Kd.C_alloc ?_ _) | (with_reducible refine Kd.C_drewN ?_ _) | (with_reducible refine Kd.C_drew ?_))); (case side2 => rw [show y341.length = t337.length from (Kd.R_reads' HO339.out).1.symm]; exact (Kd.R_reads' HO339.out).2.1); (case side3 => repeat (first | exact (Kd.C_below HRG.out HB.out) | (with_reducible refine Kd.C_alloc ?_ _) | (with_reducible refine Kd.C_drewN ?_ _) | (with_reducible refine Kd.C_drew ?_))); (case side4 => exact HCG.out); rintro e w33 ⟨v344, rfl, ho0, hb⟩; refine ⟨_, rfl, ?_⟩; have n0_ := Aside0.mk (Kd.R_below (by (with_reducible repeat (first | apply Kd.R_alloc | apply Kd.R_drewN | apply Kd.R_drew)); exact HO_8.out) hb); have n1_ := Aside0.mk (Kd.R_below (by (with_reducible repeat (first | apply Kd.R_alloc | apply Kd.R_drewN | apply Kd.R_drew)); exact HO339.out) hb); have n2_ := Aside0.mk (Kd.S_lower (Kd.S_new' (Kd.S_new' ho0 (Kd.R_lt (by (with_reducible repeat (first | apply Kd.R_alloc | apply Kd.R_drewN | apply Kd.R_drew)); exact HO_8.out))) (Kd.R_lt (by (with_reducible repeat (first | apply Kd.R_alloc | apply Kd.R_drewN | apply Kd.R_drew)); exact HO339.out))) (below_size (by repeat (first | (with_reducible first | exact HB.out | apply below_alloc | apply pw_below_drewN | apply below_drew1) | exact HB.out)))); have n3_ := Aside0.mk (below_step (by repeat (first | (with_reducible first | exact HB.out | apply below_alloc | apply pw_below_drewN | apply below_drew1) | exact HB.out)) hb); clear HO_8; clear HO339; clear HB; have HO_8 := n0_; have HO339 := n1_; have HO345 := n2_; have HB := n3_; clear n0_ n1_ n2_ n3_; (try clear hb); (try clear hb2); (try clear hk); (try clear hi); (try clear ho0); obtain ⟨Ao34, co34, eo34⟩ := Kd.S_slice HO345.out; subst eo34))
                    go_ret
                    exact ⟨by first | rfl | (simp [errW_none, errW_some] <;> rfl) | (simp [*, errW_none, errW_some] <;> rfl), by repeat (first | (with_reducible first | exact HB.out | apply below_alloc | apply pw_below_drewN | apply below_drew1) | exact HB.out)⟩
                  · rw [if_neg c27] at H
                    have c27b0 : ((t342.length : Int) == 0) = false := beq_eq_false_iff_ne.mpr c27
                    have c27b1 : ((t342.length : Int) != 0) = true := bne_iff_ne.mpr c27
                    have c27b2 : ¬ (t342 = []) := fun h_ => c27 (by rw [h_]; rfl)
                    obtain rfl := Option.some.inj H
                    obtain ⟨Ao35, co35, eo35⟩ := Kd.R_slice HO_8.out
                    subst eo35
                    go_wp2_with (first | ((with_reducible refine gate_callee (f := 12) rfl ?_); refine goesL_ (some 52) rfl rfl Tryd.func12 (by kernel_rfl) rfl #[.slice Ao35 t333.length co35] rfl (by (try simp only [List.map_toArray, List.map_cons, List.map_nil]); first | done | rfl | (simp only [List.length_drop, List.length_take]; rfl)) ?_; (with_reducible refine (stratumlaw21_copied.calls _ _ t333 t337 _ ?side1 ?side2 A22.out).mono ?_); (case side1 => repeat (first | exact (Kd.R_reads' HO_8.out).2.2 | (with_reducible refine Kd.C_alloc ?_ _) | (with_reducible refine Kd.C_drewN ?_ _) | (with_reducible refine Kd.C_drew ?_))); (case side2 => exact (Kd.R_reads' HO_8.out).2.1); rintro e w36 ⟨v338, rfl, ho0, hb⟩; refine ⟨_, rfl, ?_⟩; have n0_ := Aside0.mk (Kd.R_elder' (by (with_reducible repeat (first | apply Kd.R_alloc | apply Kd.R_drewN | apply Kd.R_drew)); exact HO_8.out) (Kd.R_base ho0) hb); have n1_ := Aside0.mk (Kd.R_lower (Kd.R_new' ho0 (Kd.R_lt (by (with_reducible repeat (first | apply Kd.R_alloc | apply Kd.R_drewN | apply Kd.R_drew)); exact HO_8.out))) (below_size (by repeat (first | (with_reducible first | exact HB.out | apply below_alloc | apply pw_below_drewN | apply below_drew1) | exact HB.out)))); have n2_ := Aside0.mk (below_step (by repeat (first | (with_reducible first | exact HB.out | apply below_alloc | apply pw_below_drewN | apply below_drew1) | exact HB.out)) hb); clear HO_8; clear HB; have HO_8 := n0_; have HO339 := n1_; have HB := n2_; clear n0_ n1_ n2_; (try clear hb); (try clear hb2); (try clear hk); (try clear hi); (try clear ho0); obtain ⟨Ao37, co37, eo37⟩ := Kd.R_slice HO339.out; subst eo37; have p340 : 0 ≤ (a1 : Int) := of_decide_eq_true (by first | (with_reducible assumption) | assumption); have q340 : a1 < (t337.length : Int) := of_decide_eq_true (by first | (with_reducible assumption) | assumption); obtain ⟨ad340, e340, hx340_0⟩ := Kd.at_int (Kd.R_reads' HO339.out).2.2 a1 p340 q340; cases e340; replace p340 := eq_true p340; replace q340 := eq_true q340; have p25 : 0 ≤ (a1 : Int) := of_decide_eq_true (by first | (with_reducible assumption) | assumption); have q25 : (a1 : Int) < ((t337.length : Int) : Int) := of_decide_eq_true (by first | (with_reducible assumption) | assumption); obtain ⟨go25, co25, eo25, gb25, gl25, cl25, HG25⟩ := Kd.R_form HO339.out (by omega); (first | cases eo25 | (injection eo25 with ea_ en_ ec_; (first | subst ea_ | (injection ea_ with ea_; subst ea_)); subst ec_; clear en_)); have GB25 := Aside0.mk gb25; have GG25 := Aside0.mk HG25; clear gb25 gl25 HG25; (first | simp only [add_plain] at hx340_0 | skip); obtain ⟨hx25_0, hf25_0⟩ := Kd.R_celln 0 HO339.out (a1 : Int) p25 q25; replace p25 := eq_true p25; replace q25 := eq_true q25; have n_ := Aside0.mk (Kd.R_mono (ok' := (fun k_ => some k_ ≠ (.slice Ao35 t333.length co35 : Value).ownBlock)) HO339.out (fun k_ hk => hk.2)); clear HO339; have HO339 := n_; clear n_; obtain ⟨hy38_, hz38_⟩ := Kd.R_celln 0 HO339.out (a1 : Int) (of_decide_eq_true (by first | (with_reducible assumption) | assumption)) (of_decide_eq_true (by first | (with_reducible assumption) | assumption)); have HP38 := Kd.R_putg HO339.out (a1 : Int) (Go.bits .xor .u8 (rd t337 a1) a2)) | ((with_reducible refine gate_store (t := 5) (p := 61) rfl ?_); refine store_event (t := 5) (p := 61) (v := ?vo_w39) (w1 := (w36.setCell ⟨go25, (a1 : Int).toNat, none⟩ (.int .u8 (Go.bits .xor .u8 (rd t337 a1) a2)))) ?hg ?ho ?hn ?hr ?_; (case ho => rfl); (case hg => rfl); (case hn => rfl); (case hr => first | (go_simp; done) | (go_simp; rfl)); intro w39 hw; have hg : w36.grownBy w39 (some go25) := (by rw [hw]; exact HP38.2); have hp_ : Kd.R (Kd.int .u8) 5 w39 w.heap.size (fun k_ => some k_ ≠ (.slice Ao35 t333.length co35 : Value).ownBlock) (.slice (some ⟨go25, 0, none⟩) t337.length co37) y341 := (by rw [hw, Ny341.out]; exact HP38.1); clear HP38; have n0_ := Aside0.mk (Kd.R_after (v := (.slice (some ⟨go25, 0, none⟩) t337.length co37)) (v1 := (.slice (some ⟨go25, 0, none⟩) t337.length co37)) (ok := (fun _ => True)) (by (with_reducible repeat (first | apply Kd.R_alloc | apply Kd.R_drewN | apply Kd.R_drew)); exact HO_8.out) hg (.inl rfl)); have n1_ := Aside0.mk (hp_); have n2_ := Aside0.mk ((by rw [hw]; exact below_set (HB.out) GB25.out : Below w.heap.size w w39)); clear HO_8; clear HO339; clear HB; have HO_8 := n0_; have HO339 := n1_; have HB := n2_; clear n0_ n1_ n2_; clear hg hw hp_) | ((with_reducible refine gate_callee (f := 16) rfl ?_); refine goesL_ (some 64) rfl rfl Tryd.func16 (by kernel_rfl) rfl #[.slice (some ⟨go25, 0, none⟩) y341.length co37] rfl (by (try simp only [List.map_toArray, List.map_cons, List.map_nil]); first | done | (rw [show y341.length = t337.length from (Kd.R_reads' HO339.out).1.symm] <;> rfl) | rfl | (simp only [List.length_drop, List.length_take]; rfl)) ?_; (with_reducible refine (frame_Scan.calls _ _ y341 lG t342 t343 _ ?side1 ?side2 ?side3 ?side4 A26.out).mono ?_); (case side1 => repeat (first | exact (Kd.R_reads' HO339.out).2.2 | (with_reducible refine Kd.C_alloc ?_ _) | (with_reducible refine Kd.C_drewN ?_ _) | (with_reducible refine Kd.C_drew ?_))); (case side2 => rw [show y341.length = t337.length from (Kd.R_reads' HO339.out).1.symm]; exact (Kd.R_reads' HO339.out).2.1); (case side3 => repeat (first | exact (Kd.C_below HRG.out HB.out) | (with_reducible refine Kd.C_alloc ?_ _) | (with_reducible refine Kd.C_drewN ?_ _) | (with_reducible refine Kd.C_drew ?_))); (case side4 => exact HCG.out); rintro e w40 ⟨v344, rfl, ho0, hb⟩; refine ⟨_, rfl, ?_⟩; have n0_ := Aside0.mk (Kd.R_below (by (with_reducible repeat (first | apply Kd.R_alloc | apply Kd.R_drewN | apply Kd.R_drew)); exact HO_8.out) hb); have n1_ := Aside0.mk (Kd.R_below (by (with_reducible repeat (first | apply Kd.R_alloc | apply Kd.R_drewN | apply Kd.R_drew)); exact HO339.out) hb); have n2_ := Aside0.mk (Kd.S_lower (Kd.S_new' (Kd.S_new' ho0 (Kd.R_lt (by (with_reducible repeat (first | apply Kd.R_alloc | apply Kd.R_drewN | apply Kd.R_drew)); exact HO_8.out))) (Kd.R_lt (by (with_reducible repeat (first | apply Kd.R_alloc | apply Kd.R_drewN | apply Kd.R_drew)); exact HO339.out))) (below_size (by repeat (first | (with_reducible first | exact HB.out | apply below_alloc | apply pw_below_drewN | apply below_drew1) | exact HB.out)))); have n3_ := Aside0.mk (below_step (by repeat (first | (with_reducible first | exact HB.out | apply below_alloc | apply pw_below_drewN | apply below_drew1) | exact HB.out)) hb); clear HO_8; clear HO339; clear HB; have HO_8 := n0_; have HO339 := n1_; have HO345 := n2_; have HB := n3_; clear n0_ n1_ n2_ n3_; (try clear hb); (try clear hb2); (try clear hk); (try clear hi); (try clear ho0); obtain ⟨Ao41, co41, eo41⟩ := Kd.S_slice HO345.out; subst eo41))
                    go_ret
                    exact ⟨by first | rfl | (simp [errW_none, errW_some] <;> rfl) | (simp [*, errW_none, errW_some] <;> rfl), by repeat (first | (with_reducible first | exact HB.out | apply below_alloc | apply pw_below_drewN | apply below_drew1) | exact HB.out)⟩
                · rw [if_neg c24] at H
                  exact absurd H (by simp)
              · rw [if_neg c23] at H
                exact absurd H (by simp)

end Go.Proofs.YtoddldamekamoaaDoor.X
