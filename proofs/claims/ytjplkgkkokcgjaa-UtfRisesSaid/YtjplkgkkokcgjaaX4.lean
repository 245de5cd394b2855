/- The machine's side of the laws of this seat: for each Go function a Lean function of lists and numbers, and that the call answers what it answers. No condition but those in the theorems. -/
import Derived.Test.YtjplkgkkokcgjaaX0
import Derived.Test.YtjplkgkkokcgjaaX1
namespace Go.Proofs.Ytjplkgkkokcgjaa.X
open Go.RowKit Go.Proofs.YtjplkgkkokcgjaaW.PrintWords Go.Proofs.YtjplkgkkokcgjaaW.PrintLast Go.Proofs.YtjplkgkkokcgjaaW.PrintMore
attribute [local go_sem] max2_int min2_int max_two min_two max_three min_three max_four min_four   -- for this text's walks alone
set_option linter.unusedVariables false
set_option linter.unusedSimpArgs false

/-! ### stratumlaw03_UtfJoins: function 6 -/
def stratumlaw03_UtfJoins.j0 : Nat → ByteArray → ByteArray → Bool → Bool → Option (Bool)
  | 0, _, _, _, _ => none
  | k + 1, x0, x1, x5, x19 => if x19 = true then (some x5) else ((utf_Fault.f k x0).bind fun t149 => (if 0 ≤ (mn (mx t149 0) (x0.size : Int)) then (if (mn (mx t149 0) (x0.size : Int)) ≤ (x0.size : Int) then ((utf_Valid.f k (x0.extract 0 ((mn (mx t149 0) (x0.size : Int)) : Int).toNat)).bind fun t150 => (if t150 = true then (if (x0.extract 0 ((mn (mx t149 0) (x0.size : Int)) : Int).toNat).size + x1.size ≤ 9223372036854775807 then ((utf_Fault.f k ((x0.extract 0 ((mn (mx t149 0) (x0.size : Int)) : Int).toNat) ++ x1)).bind fun t151 => ((utf_Fault.f k x1).bind fun t152 => (if t151 = (wrap64 (((x0.extract 0 ((mn (mx t149 0) (x0.size : Int)) : Int).toNat).size : Int) + t152)) then ((utf_Count.f k ((x0.extract 0 ((mn (mx t149 0) (x0.size : Int)) : Int).toNat) ++ x1)).bind fun t153 => ((utf_Count.f k (x0.extract 0 ((mn (mx t149 0) (x0.size : Int)) : Int).toNat)).bind fun t154 => ((utf_Count.f k x1).bind fun t155 => (if t153 = (wrap64 (t154 + t155)) then ((utf_Mend.f ((x0.extract 0 ((mn (mx t149 0) (x0.size : Int)) : Int).toNat) ++ x1)).bind fun t156 => ((utf_Mend.f x1).bind fun t157 => (if (x0.extract 0 ((mn (mx t149 0) (x0.size : Int)) : Int).toNat).size + t157.size ≤ 9223372036854775807 then (some (t156.toList == ((x0.extract 0 ((mn (mx t149 0) (x0.size : Int)) : Int).toNat) ++ t157).toList)) else (none)))) else (some false))))) else (some false)))) else (none)) else (some false))) else (none)) else (none)))
def stratumlaw03_UtfJoins.f (k : Nat) (a0 : ByteArray) (a1 : ByteArray) : Option (Bool) := (stratumlaw03_awake.f k).bind fun t148 => (if t148 = true then (if (a0.size : Int) > 16777216 then (stratumlaw03_UtfJoins.j0 k a0 a1 t148 true) else (stratumlaw03_UtfJoins.j0 k a0 a1 t148 (decide ((a1.size : Int) > 16777216)))) else (stratumlaw03_UtfJoins.j0 k a0 a1 t148 true))
theorem stratumlaw03_UtfJoins.mono_l : ∀ k, (∀ y0 y1 y2 y3, LeO (stratumlaw03_UtfJoins.j0 k y0 y1 y2 y3) (stratumlaw03_UtfJoins.j0 (k + 1) y0 y1 y2 y3))
  | 0 => fun _ _ _ _ r h => by simp [stratumlaw03_UtfJoins.j0] at h
  | k + 1 => by
    have ih0 := stratumlaw03_UtfJoins.mono_l k
    · intro y0 y1 y2 y3
      unfold stratumlaw03_UtfJoins.j0
      repeat' first
      | (with_reducible exact ih0 _ _ _ _)
      | (with_reducible exact stratumlaw03_awake.mono _)
      | (with_reducible exact utf_Count.mono _ _)
      | (with_reducible exact utf_Fault.mono _ _)
      | (with_reducible exact utf_Valid.mono _ _)
      | (with_reducible exact LeO.refl _)
      | (with_reducible exact LeO.none _)
      | (with_reducible refine LeO.ite ?_ ?_)
      | (with_reducible refine LeO.bind ?_ (fun _ => ?_))
      | exact ih0 _ _ _ _
      | exact stratumlaw03_awake.mono _
      | exact utf_Count.mono _ _
      | exact utf_Fault.mono _ _
      | exact utf_Valid.mono _ _
      | exact LeO.none _
      | refine LeO.ite ?_ ?_
      | refine LeO.bind ?_ (fun _ => ?_)
theorem stratumlaw03_UtfJoins.mono : ∀ a0 a1 k, LeO (stratumlaw03_UtfJoins.f k a0 a1) (stratumlaw03_UtfJoins.f (k + 1) a0 a1) := by
  intro a0 a1 k
  have ih0 := stratumlaw03_UtfJoins.mono_l k
  unfold stratumlaw03_UtfJoins.f
  repeat' first
      | (with_reducible exact ih0 _ _ _ _)
      | (with_reducible exact stratumlaw03_awake.mono _)
      | (with_reducible exact utf_Count.mono _ _)
      | (with_reducible exact utf_Fault.mono _ _)
      | (with_reducible exact utf_Valid.mono _ _)
      | (with_reducible exact LeO.refl _)
      | (with_reducible exact LeO.none _)
      | (with_reducible refine LeO.ite ?_ ?_)
      | (with_reducible refine LeO.bind ?_ (fun _ => ?_))
      | exact ih0 _ _ _ _
      | exact stratumlaw03_awake.mono _
      | exact utf_Count.mono _ _
      | exact utf_Fault.mono _ _
      | exact utf_Valid.mono _ _
      | exact LeO.none _
      | refine LeO.ite ?_ ?_
      | refine LeO.bind ?_ (fun _ => ?_)
set_option maxHeartbeats 8000000 in
set_option maxRecDepth 100000 in
theorem stratumlaw03_UtfJoins.calls (k : Nat) (a0 : ByteArray) (a1 : ByteArray) (r : Bool) (w : World) (h : stratumlaw03_UtfJoins.f k a0 a1 = some r) :
    Calls Try.prog 6 #[.string a0, .string a1] w fun e w' => e = .returned (.bool r) ∧ Below w.heap.size w w' := by
  have HB := Aside0.mk (Below.refl w.heap.size w)
  have H : ((stratumlaw03_awake.f k).bind fun t148 => (if t148 = true then (if (a0.size : Int) > 16777216 then (stratumlaw03_UtfJoins.j0 k a0 a1 t148 true) else (stratumlaw03_UtfJoins.j0 k a0 a1 t148 (decide ((a1.size : Int) > 16777216)))) else (stratumlaw03_UtfJoins.j0 k a0 a1 t148 true))) = some r := h
  clear h
  replace H := Option.bind_eq_some_iff.mp H
  obtain ⟨t148, A30, H⟩ := H
  replace H : (if t148 = true then (if (a0.size : Int) > 16777216 then (stratumlaw03_UtfJoins.j0 k a0 a1 t148 true) else (stratumlaw03_UtfJoins.j0 k a0 a1 t148 (decide ((a1.size : Int) > 16777216)))) else (stratumlaw03_UtfJoins.j0 k a0 a1 t148 true)) = some r := H
  have A3 := Aside0.mk A30
  clear A30
  have HC4 := Aside0.mk H
  clear H
  go_enter Try.func6, Try.ntmps6
  go_upto_region 2 with (first | ((with_reducible refine gate_callee (f := 9) rfl ?_); refine goesL_ (some 7) rfl rfl Try.func9 (by kernel_rfl) rfl #[] rfl (by (try simp only [List.map_toArray, List.map_cons, List.map_nil]); first | done | rfl | (simp only [List.length_drop, List.length_take]; rfl)) ?_; (with_reducible refine (stratumlaw03_awake.calls k  t148 _ A3.out).mono ?_); rintro e w5 ⟨rfl, hb⟩; refine ⟨_, rfl, ?_⟩; have n0_ := Aside0.mk (below_step (by repeat (first | (with_reducible first | exact HB.out | apply below_alloc | apply pw_below_drewN | apply below_drew1) | exact HB.out)) hb); clear HB; have HB := n0_; clear n0_; (try clear hb); (try clear hb2); (try clear hk); (try clear hi)))
  (try simp only [Act.put, List.setIfInBounds_toArray, List.set_cons_zero, List.set_cons_succ])
  go_cut [19] (fun v19 wc => ∃ (kq : Nat) (x19_3 : Bool), v19 = .bool x19_3 ∧ Aside0 (stratumlaw03_UtfJoins.j0 kq a0 a1 t148 x19_3 = some r) ∧ Aside0 (kq ≤ k) ∧ Aside0 (Below w.heap.size w wc))
  case first =>
    have H := HC4.out
    clear HC4
    by_cases c6 : t148 = true
    · subst c6
      have H1 : (if (a0.size : Int) > 16777216 then (stratumlaw03_UtfJoins.j0 k a0 a1 true true) else (stratumlaw03_UtfJoins.j0 k a0 a1 true (decide ((a1.size : Int) > 16777216)))) = some r := by rw [if_pos rfl] at H; exact H
      clear H
      have H := H1
      clear H1
      by_cases c7 : (a0.size : Int) > 16777216
      · rw [if_pos c7] at H
        have c7b0 : decide (16777216 < (a0.size : Int)) = true := decide_eq_true c7
        have c7b1 : decide (16777216 < a0.size) = true := decide_eq_true (by omega)
        clear c7
        (first | rw [c7b0] | (simp only [i64_w, i32_w]; rw [c7b0]) | skip)
        have H' := Aside0.mk H
        clear H
        go_wp2
        go_meet
        case rel => exact ⟨_, (true), (by first | rfl | (simp; done) | (simp [*]; done)), H', ⟨by first | omega | exact Nat.le_refl _⟩, ⟨by repeat (first | (with_reducible first | exact HB.out | apply below_alloc | apply pw_below_drewN | apply below_drew1) | exact HB.out)⟩⟩
      · rw [if_neg c7] at H
        have c7b0 : decide (16777216 < (a0.size : Int)) = false := decide_eq_false c7
        have c7b1 : decide (16777216 < a0.size) = false := decide_eq_false (by omega)
        clear c7
        (first | rw [c7b0] | (simp only [i64_w, i32_w]; rw [c7b0]) | skip)
        have H' := Aside0.mk H
        clear H
        go_wp2
        go_meet
        case rel => exact ⟨_, (decide ((a1.size : Int) > 16777216)), (by first | rfl | (simp; done) | (simp [*]; done)), H', ⟨by first | omega | exact Nat.le_refl _⟩, ⟨by repeat (first | (with_reducible first | exact HB.out | apply below_alloc | apply pw_below_drewN | apply below_drew1) | exact HB.out)⟩⟩
    · replace c6 := Bool.eq_false_iff.mpr c6
      subst c6
      have H1 : (stratumlaw03_UtfJoins.j0 k a0 a1 false true) = some r := by rw [if_neg (show ¬ (false = true) by decide)] at H; exact H
      clear H
      have H := H1
      clear H1
      have H' := Aside0.mk H
      clear H
      go_wp2
      go_meet
      case rel => exact ⟨_, (true), (by first | rfl | (simp; done) | (simp [*]; done)), H', ⟨by first | omega | exact Nat.le_refl _⟩, ⟨by repeat (first | (with_reducible first | exact HB.out | apply below_alloc | apply pw_below_drewN | apply below_drew1) | exact HB.out)⟩⟩
  case rest =>
    clear HC4
    try clear p2
    try clear c6
    try clear c7
    try clear c7b0
    try clear c7b1
    obtain ⟨kq, x19_3, rfl, HA, HJ3, HB⟩ := hcut
    cases kq with
    | zero => exact absurd HA.out (by simp [stratumlaw03_UtfJoins.j0])
    | succ kj3 =>
      have H := HA.out
      clear HA
      simp only [stratumlaw03_UtfJoins.j0] at H
      by_cases c8 : x19_3 = true
      · subst c8
        have H1 : (some t148) = some r := by rw [if_pos rfl] at H; exact H
        clear H
        have H := H1
        clear H1
        obtain rfl := Option.some.inj H
        go_wp2
        go_ret
        exact ⟨by first | rfl | (simp [errW_none, errW_some] <;> rfl) | (simp [*, errW_none, errW_some] <;> rfl), by repeat (first | (with_reducible first | exact HB.out | apply below_alloc | apply pw_below_drewN | apply below_drew1) | exact HB.out)⟩
      · replace c8 := Bool.eq_false_iff.mpr c8
        subst c8
        have H1 : ((utf_Fault.f kj3 a0).bind fun t149 => (if 0 ≤ (mn (mx t149 0) (a0.size : Int)) then (if (mn (mx t149 0) (a0.size : Int)) ≤ (a0.size : Int) then ((utf_Valid.f kj3 (a0.extract 0 ((mn (mx t149 0) (a0.size : Int)) : Int).toNat)).bind fun t150 => (if t150 = true then (if (a0.extract 0 ((mn (mx t149 0) (a0.size : Int)) : Int).toNat).size + a1.size ≤ 9223372036854775807 then ((utf_Fault.f kj3 ((a0.extract 0 ((mn (mx t149 0) (a0.size : Int)) : Int).toNat) ++ a1)).bind fun t151 => ((utf_Fault.f kj3 a1).bind fun t152 => (if t151 = (wrap64 (((a0.extract 0 ((mn (mx t149 0) (a0.size : Int)) : Int).toNat).size : Int) + t152)) then ((utf_Count.f kj3 ((a0.extract 0 ((mn (mx t149 0) (a0.size : Int)) : Int).toNat) ++ a1)).bind fun t153 => ((utf_Count.f kj3 (a0.extract 0 ((mn (mx t149 0) (a0.size : Int)) : Int).toNat)).bind fun t154 => ((utf_Count.f kj3 a1).bind fun t155 => (if t153 = (wrap64 (t154 + t155)) then ((utf_Mend.f ((a0.extract 0 ((mn (mx t149 0) (a0.size : Int)) : Int).toNat) ++ a1)).bind fun t156 => ((utf_Mend.f a1).bind fun t157 => (if (a0.extract 0 ((mn (mx t149 0) (a0.size : Int)) : Int).toNat).size + t157.size ≤ 9223372036854775807 then (some (t156.toList == ((a0.extract 0 ((mn (mx t149 0) (a0.size : Int)) : Int).toNat) ++ t157).toList)) else (none)))) else (some false))))) else (some false)))) else (none)) else (some false))) else (none)) else (none))) = some r := by rw [if_neg (show ¬ (false = true) by decide)] at H; exact H
        clear H
        have H := H1
        clear H1
        replace H := Option.bind_eq_some_iff.mp H
        obtain ⟨t149, A90, H⟩ := H
        replace H : (if 0 ≤ (mn (mx t149 0) (a0.size : Int)) then (if (mn (mx t149 0) (a0.size : Int)) ≤ (a0.size : Int) then ((utf_Valid.f kj3 (a0.extract 0 ((mn (mx t149 0) (a0.size : Int)) : Int).toNat)).bind fun t150 => (if t150 = true then (if (a0.extract 0 ((mn (mx t149 0) (a0.size : Int)) : Int).toNat).size + a1.size ≤ 9223372036854775807 then ((utf_Fault.f kj3 ((a0.extract 0 ((mn (mx t149 0) (a0.size : Int)) : Int).toNat) ++ a1)).bind fun t151 => ((utf_Fault.f kj3 a1).bind fun t152 => (if t151 = (wrap64 (((a0.extract 0 ((mn (mx t149 0) (a0.size : Int)) : Int).toNat).size : Int) + t152)) then ((utf_Count.f kj3 ((a0.extract 0 ((mn (mx t149 0) (a0.size : Int)) : Int).toNat) ++ a1)).bind fun t153 => ((utf_Count.f kj3 (a0.extract 0 ((mn (mx t149 0) (a0.size : Int)) : Int).toNat)).bind fun t154 => ((utf_Count.f kj3 a1).bind fun t155 => (if t153 = (wrap64 (t154 + t155)) then ((utf_Mend.f ((a0.extract 0 ((mn (mx t149 0) (a0.size : Int)) : Int).toNat) ++ a1)).bind fun t156 => ((utf_Mend.f a1).bind fun t157 => (if (a0.extract 0 ((mn (mx t149 0) (a0.size : Int)) : Int).toNat).size + t157.size ≤ 9223372036854775807 then (some (t156.toList == ((a0.extract 0 ((mn (mx t149 0) (a0.size : Int)) : Int).toNat) ++ t157).toList)) else (none)))) else (some false))))) else (some false)))) else (none)) else (some false))) else (none)) else (none)) = some r := H
        have A9 := Aside0.mk A90
        clear A90
        obtain ⟨ji10, hji10⟩ : ∃ j_ : Int, (mx t149 0) = j_ := ⟨_, rfl⟩
        replace H : (if 0 ≤ (mn (ji10) (a0.size : Int)) then (if (mn (ji10) (a0.size : Int)) ≤ (a0.size : Int) then ((utf_Valid.f kj3 (a0.extract 0 ((mn (ji10) (a0.size : Int)) : Int).toNat)).bind fun t150 => (if t150 = true then (if (a0.extract 0 ((mn (ji10) (a0.size : Int)) : Int).toNat).size + a1.size ≤ 9223372036854775807 then ((utf_Fault.f kj3 ((a0.extract 0 ((mn (ji10) (a0.size : Int)) : Int).toNat) ++ a1)).bind fun t151 => ((utf_Fault.f kj3 a1).bind fun t152 => (if t151 = (wrap64 (((a0.extract 0 ((mn (ji10) (a0.size : Int)) : Int).toNat).size : Int) + t152)) then ((utf_Count.f kj3 ((a0.extract 0 ((mn (ji10) (a0.size : Int)) : Int).toNat) ++ a1)).bind fun t153 => ((utf_Count.f kj3 (a0.extract 0 ((mn (ji10) (a0.size : Int)) : Int).toNat)).bind fun t154 => ((utf_Count.f kj3 a1).bind fun t155 => (if t153 = (wrap64 (t154 + t155)) then ((utf_Mend.f ((a0.extract 0 ((mn (ji10) (a0.size : Int)) : Int).toNat) ++ a1)).bind fun t156 => ((utf_Mend.f a1).bind fun t157 => (if (a0.extract 0 ((mn (ji10) (a0.size : Int)) : Int).toNat).size + t157.size ≤ 9223372036854775807 then (some (t156.toList == ((a0.extract 0 ((mn (ji10) (a0.size : Int)) : Int).toNat) ++ t157).toList)) else (none)))) else (some false))))) else (some false)))) else (none)) else (some false))) else (none)) else (none)) = some r := by first | (rw [hji10] at H; exact H) | (simp only [hji10] at H ⊢; exact H)
        (try rw [hji10] at A9)
        (try (have hji10l : 0 ≤ ji10 := by (rw [← hji10]; unfold mx; (repeat' split) <;> omega)))
        (try (have hji10m : 0 ≤ ji10 := by omega))
        have hji10_ : (if t149 < 0 then 0 else t149) = ji10 := hji10
        obtain ⟨ji11, hji11⟩ : ∃ j_ : Int, (mn (ji10) (a0.size : Int)) = j_ := ⟨_, rfl⟩
        replace H : (if 0 ≤ (ji11) then (if (ji11) ≤ (a0.size : Int) then ((utf_Valid.f kj3 (a0.extract 0 ((ji11) : Int).toNat)).bind fun t150 => (if t150 = true then (if (a0.extract 0 ((ji11) : Int).toNat).size + a1.size ≤ 9223372036854775807 then ((utf_Fault.f kj3 ((a0.extract 0 ((ji11) : Int).toNat) ++ a1)).bind fun t151 => ((utf_Fault.f kj3 a1).bind fun t152 => (if t151 = (wrap64 (((a0.extract 0 ((ji11) : Int).toNat).size : Int) + t152)) then ((utf_Count.f kj3 ((a0.extract 0 ((ji11) : Int).toNat) ++ a1)).bind fun t153 => ((utf_Count.f kj3 (a0.extract 0 ((ji11) : Int).toNat)).bind fun t154 => ((utf_Count.f kj3 a1).bind fun t155 => (if t153 = (wrap64 (t154 + t155)) then ((utf_Mend.f ((a0.extract 0 ((ji11) : Int).toNat) ++ a1)).bind fun t156 => ((utf_Mend.f a1).bind fun t157 => (if (a0.extract 0 ((ji11) : Int).toNat).size + t157.size ≤ 9223372036854775807 then (some (t156.toList == ((a0.extract 0 ((ji11) : Int).toNat) ++ t157).toList)) else (none)))) else (some false))))) else (some false)))) else (none)) else (some false))) else (none)) else (none)) = some r := by first | (rw [hji11] at H; exact H) | (simp only [hji11] at H ⊢; exact H)
        (try rw [hji11] at A9)
        have hji11_ : (if (a0.size : Int) < (ji10) then (a0.size : Int) else (ji10)) = ji11 := hji11
        by_cases c12 : 0 ≤ (ji11)
        · rw [if_pos c12] at H
          have c12b0 := eq_true c12
          have c12b1 : decide (0 ≤ (ji11)) = true := decide_eq_true c12
          clear c12
          by_cases c13 : (ji11) ≤ (a0.size : Int)
          · rw [if_pos c13] at H
            have c13b0 := eq_true c13
            have c13b1 : decide ((ji11) ≤ (a0.size : Int)) = true := decide_eq_true c13
            clear c13
            replace H := Option.bind_eq_some_iff.mp H
            obtain ⟨t150, A140, H⟩ := H
            replace H : (if t150 = true then (if (a0.extract 0 ((ji11) : Int).toNat).size + a1.size ≤ 9223372036854775807 then ((utf_Fault.f kj3 ((a0.extract 0 ((ji11) : Int).toNat) ++ a1)).bind fun t151 => ((utf_Fault.f kj3 a1).bind fun t152 => (if t151 = (wrap64 (((a0.extract 0 ((ji11) : Int).toNat).size : Int) + t152)) then ((utf_Count.f kj3 ((a0.extract 0 ((ji11) : Int).toNat) ++ a1)).bind fun t153 => ((utf_Count.f kj3 (a0.extract 0 ((ji11) : Int).toNat)).bind fun t154 => ((utf_Count.f kj3 a1).bind fun t155 => (if t153 = (wrap64 (t154 + t155)) then ((utf_Mend.f ((a0.extract 0 ((ji11) : Int).toNat) ++ a1)).bind fun t156 => ((utf_Mend.f a1).bind fun t157 => (if (a0.extract 0 ((ji11) : Int).toNat).size + t157.size ≤ 9223372036854775807 then (some (t156.toList == ((a0.extract 0 ((ji11) : Int).toNat) ++ t157).toList)) else (none)))) else (some false))))) else (some false)))) else (none)) else (some false)) = some r := H
            have A14 := Aside0.mk A140
            clear A140
            by_cases c15 : t150 = true
            · subst c15
              have H1 : (if (a0.extract 0 ((ji11) : Int).toNat).size + a1.size ≤ 9223372036854775807 then ((utf_Fault.f kj3 ((a0.extract 0 ((ji11) : Int).toNat) ++ a1)).bind fun t151 => ((utf_Fault.f kj3 a1).bind fun t152 => (if t151 = (wrap64 (((a0.extract 0 ((ji11) : Int).toNat).size : Int) + t152)) then ((utf_Count.f kj3 ((a0.extract 0 ((ji11) : Int).toNat) ++ a1)).bind fun t153 => ((utf_Count.f kj3 (a0.extract 0 ((ji11) : Int).toNat)).bind fun t154 => ((utf_Count.f kj3 a1).bind fun t155 => (if t153 = (wrap64 (t154 + t155)) then ((utf_Mend.f ((a0.extract 0 ((ji11) : Int).toNat) ++ a1)).bind fun t156 => ((utf_Mend.f a1).bind fun t157 => (if (a0.extract 0 ((ji11) : Int).toNat).size + t157.size ≤ 9223372036854775807 then (some (t156.toList == ((a0.extract 0 ((ji11) : Int).toNat) ++ t157).toList)) else (none)))) else (some false))))) else (some false)))) else (none)) = some r := by rw [if_pos rfl] at H; exact H
              clear H
              have H := H1
              clear H1
              by_cases c16 : (a0.extract 0 ((ji11) : Int).toNat).size + a1.size ≤ 9223372036854775807
              · rw [if_pos c16] at H
                have c16b0 := eq_true c16
                have c16b1 : decide ((a0.extract 0 ((ji11) : Int).toNat).size + a1.size ≤ 9223372036854775807) = true := decide_eq_true c16
                try have c16b2 : (9223372036854775807 < (a0.extract 0 ((ji11) : Int).toNat).size + a1.size) = False := eq_false (Nat.not_lt.2 c16)
                replace H := Option.bind_eq_some_iff.mp H
                obtain ⟨t151, A170, H⟩ := H
                replace H : ((utf_Fault.f kj3 a1).bind fun t152 => (if t151 = (wrap64 (((a0.extract 0 ((ji11) : Int).toNat).size : Int) + t152)) then ((utf_Count.f kj3 ((a0.extract 0 ((ji11) : Int).toNat) ++ a1)).bind fun t153 => ((utf_Count.f kj3 (a0.extract 0 ((ji11) : Int).toNat)).bind fun t154 => ((utf_Count.f kj3 a1).bind fun t155 => (if t153 = (wrap64 (t154 + t155)) then ((utf_Mend.f ((a0.extract 0 ((ji11) : Int).toNat) ++ a1)).bind fun t156 => ((utf_Mend.f a1).bind fun t157 => (if (a0.extract 0 ((ji11) : Int).toNat).size + t157.size ≤ 9223372036854775807 then (some (t156.toList == ((a0.extract 0 ((ji11) : Int).toNat) ++ t157).toList)) else (none)))) else (some false))))) else (some false))) = some r := H
                have A17 := Aside0.mk A170
                clear A170
                replace H := Option.bind_eq_some_iff.mp H
                obtain ⟨t152, A180, H⟩ := H
                replace H : (if t151 = (wrap64 (((a0.extract 0 ((ji11) : Int).toNat).size : Int) + t152)) then ((utf_Count.f kj3 ((a0.extract 0 ((ji11) : Int).toNat) ++ a1)).bind fun t153 => ((utf_Count.f kj3 (a0.extract 0 ((ji11) : Int).toNat)).bind fun t154 => ((utf_Count.f kj3 a1).bind fun t155 => (if t153 = (wrap64 (t154 + t155)) then ((utf_Mend.f ((a0.extract 0 ((ji11) : Int).toNat) ++ a1)).bind fun t156 => ((utf_Mend.f a1).bind fun t157 => (if (a0.extract 0 ((ji11) : Int).toNat).size + t157.size ≤ 9223372036854775807 then (some (t156.toList == ((a0.extract 0 ((ji11) : Int).toNat) ++ t157).toList)) else (none)))) else (some false))))) else (some false)) = some r := H
                have A18 := Aside0.mk A180
                clear A180
                by_cases c19 : t151 = (wrap64 (((a0.extract 0 ((ji11) : Int).toNat).size : Int) + t152))
                · rw [if_pos c19] at H
                  have c19b0 : (t151 == (wrap64 (((a0.extract 0 ((ji11) : Int).toNat).size : Int) + t152))) = true := beq_iff_eq.mpr c19
                  have c19b1 : (t151 != (wrap64 (((a0.extract 0 ((ji11) : Int).toNat).size : Int) + t152))) = false := bne_eq_false_iff_eq.mpr c19
                  try (have c19bs := c19b0; simp [*, -c19b0, -c19b1, -c19] at c19bs)
                  clear c19
                  replace H := Option.bind_eq_some_iff.mp H
                  obtain ⟨t153, A200, H⟩ := H
                  replace H : ((utf_Count.f kj3 (a0.extract 0 ((ji11) : Int).toNat)).bind fun t154 => ((utf_Count.f kj3 a1).bind fun t155 => (if t153 = (wrap64 (t154 + t155)) then ((utf_Mend.f ((a0.extract 0 ((ji11) : Int).toNat) ++ a1)).bind fun t156 => ((utf_Mend.f a1).bind fun t157 => (if (a0.extract 0 ((ji11) : Int).toNat).size + t157.size ≤ 9223372036854775807 then (some (t156.toList == ((a0.extract 0 ((ji11) : Int).toNat) ++ t157).toList)) else (none)))) else (some false)))) = some r := H
                  have A20 := Aside0.mk A200
                  clear A200
                  replace H := Option.bind_eq_some_iff.mp H
                  obtain ⟨t154, A210, H⟩ := H
                  replace H : ((utf_Count.f kj3 a1).bind fun t155 => (if t153 = (wrap64 (t154 + t155)) then ((utf_Mend.f ((a0.extract 0 ((ji11) : Int).toNat) ++ a1)).bind fun t156 => ((utf_Mend.f a1).bind fun t157 => (if (a0.extract 0 ((ji11) : Int).toNat).size + t157.size ≤ 9223372036854775807 then (some (t156.toList == ((a0.extract 0 ((ji11) : Int).toNat) ++ t157).toList)) else (none)))) else (some false))) = some r := H
                  have A21 := Aside0.mk A210
                  clear A210
                  replace H := Option.bind_eq_some_iff.mp H
                  obtain ⟨t155, A220, H⟩ := H
                  replace H : (if t153 = (wrap64 (t154 + t155)) then ((utf_Mend.f ((a0.extract 0 ((ji11) : Int).toNat) ++ a1)).bind fun t156 => ((utf_Mend.f a1).bind fun t157 => (if (a0.extract 0 ((ji11) : Int).toNat).size + t157.size ≤ 9223372036854775807 then (some (t156.toList == ((a0.extract 0 ((ji11) : Int).toNat) ++ t157).toList)) else (none)))) else (some false)) = some r := H
                  have A22 := Aside0.mk A220
                  clear A220
                  by_cases c23 : t153 = (wrap64 (t154 + t155))
                  · rw [if_pos c23] at H
                    have c23b0 : (t153 == (wrap64 (t154 + t155))) = true := beq_iff_eq.mpr c23
                    have c23b1 : (t153 != (wrap64 (t154 + t155))) = false := bne_eq_false_iff_eq.mpr c23
                    clear c23
                    replace H := Option.bind_eq_some_iff.mp H
                    obtain ⟨t156, A240, H⟩ := H
                    replace H : ((utf_Mend.f a1).bind fun t157 => (if (a0.extract 0 ((ji11) : Int).toNat).size + t157.size ≤ 9223372036854775807 then (some (t156.toList == ((a0.extract 0 ((ji11) : Int).toNat) ++ t157).toList)) else (none))) = some r := H
                    have A24 := Aside0.mk A240
                    clear A240
                    replace H := Option.bind_eq_some_iff.mp H
                    obtain ⟨t157, A250, H⟩ := H
                    replace H : (if (a0.extract 0 ((ji11) : Int).toNat).size + t157.size ≤ 9223372036854775807 then (some (t156.toList == ((a0.extract 0 ((ji11) : Int).toNat) ++ t157).toList)) else (none)) = some r := H
                    have A25 := Aside0.mk A250
                    clear A250
                    by_cases c26 : (a0.extract 0 ((ji11) : Int).toNat).size + t157.size ≤ 9223372036854775807
                    · rw [if_pos c26] at H
                      have c26b0 := eq_true c26
                      have c26b1 : decide ((a0.extract 0 ((ji11) : Int).toNat).size + t157.size ≤ 9223372036854775807) = true := decide_eq_true c26
                      try have c26b2 : (9223372036854775807 < (a0.extract 0 ((ji11) : Int).toNat).size + t157.size) = False := eq_false (Nat.not_lt.2 c26)
                      obtain rfl := Option.some.inj H
                      go_wp2_with (first | ((with_reducible refine gate_callee (f := 13) rfl ?_); refine goesL_ (some 23) rfl rfl Try.func13 (by kernel_rfl) rfl #[.string a0] rfl (by (try simp only [List.map_toArray, List.map_cons, List.map_nil]); first | done | rfl | (simp only [List.length_drop, List.length_take]; rfl)) ?_; (with_reducible refine (utf_Fault.calls kj3 a0 t149 _ A9.out).mono ?_); rintro e w27 ⟨rfl, hb⟩; refine ⟨_, rfl, ?_⟩; have n0_ := Aside0.mk (below_step (by repeat (first | (with_reducible first | exact HB.out | apply below_alloc | apply pw_below_drewN | apply below_drew1) | exact HB.out)) hb); clear HB; have HB := n0_; clear n0_; (try clear hb); (try clear hb2); (try clear hk); (try clear hi)) | ((with_reducible refine gate_callee (f := 15) rfl ?_); refine goesL_ (some 30) rfl rfl Try.func15 (by kernel_rfl) rfl #[.string (a0.extract 0 ((ji11) : Int).toNat)] rfl (by (try simp only [List.map_toArray, List.map_cons, List.map_nil]); first | done | (simp only [hji11]; rfl) | rfl | (simp only [List.length_drop, List.length_take]; rfl)) ?_; (with_reducible refine (utf_Valid.calls kj3 (a0.extract 0 ((ji11) : Int).toNat) true _ A14.out).mono ?_); rintro e w28 ⟨rfl, hb⟩; refine ⟨_, rfl, ?_⟩; have n0_ := Aside0.mk (below_step (by repeat (first | (with_reducible first | exact HB.out | apply below_alloc | apply pw_below_drewN | apply below_drew1) | exact HB.out)) hb); clear HB; have HB := n0_; clear n0_; (try clear hb); (try clear hb2); (try clear hk); (try clear hi)) | (go_at_call 13; (with_reducible refine (utf_Fault.calls kj3 ((a0.extract 0 ((ji11) : Int).toNat) ++ a1) t151 _ A17.out).mono ?_); rintro e w29 ⟨rfl, hb⟩; have n0_ := Aside0.mk (below_step (by repeat (first | (with_reducible first | exact HB.out | apply below_alloc | apply pw_below_drewN | apply below_drew1) | exact HB.out)) hb); clear HB; have HB := n0_; clear n0_; (try clear hb); (try clear hb2); (try clear hk); (try clear hi)) | (go_at_call 13; (with_reducible refine (utf_Fault.calls kj3 a1 t152 _ A18.out).mono ?_); rintro e w30 ⟨rfl, hb⟩; have n0_ := Aside0.mk (below_step (by repeat (first | (with_reducible first | exact HB.out | apply below_alloc | apply pw_below_drewN | apply below_drew1) | exact HB.out)) hb); clear HB; have HB := n0_; clear n0_; (try clear hb); (try clear hb2); (try clear hk); (try clear hi)) | (go_at_call 17; (with_reducible refine (utf_Count.calls kj3 ((a0.extract 0 ((ji11) : Int).toNat) ++ a1) t153 _ A20.out).mono ?_); rintro e w31 ⟨rfl, hb⟩; have n0_ := Aside0.mk (below_step (by repeat (first | (with_reducible first | exact HB.out | apply below_alloc | apply pw_below_drewN | apply below_drew1) | exact HB.out)) hb); clear HB; have HB := n0_; clear n0_; (try clear hb); (try clear hb2); (try clear hk); (try clear hi)) | (go_at_call 17; (with_reducible refine (utf_Count.calls kj3 (a0.extract 0 ((ji11) : Int).toNat) t154 _ A21.out).mono ?_); rintro e w32 ⟨rfl, hb⟩; have n0_ := Aside0.mk (below_step (by repeat (first | (with_reducible first | exact HB.out | apply below_alloc | apply pw_below_drewN | apply below_drew1) | exact HB.out)) hb); clear HB; have HB := n0_; clear n0_; (try clear hb); (try clear hb2); (try clear hk); (try clear hi)) | (go_at_call 17; (with_reducible refine (utf_Count.calls kj3 a1 t155 _ A22.out).mono ?_); rintro e w33 ⟨rfl, hb⟩; have n0_ := Aside0.mk (below_step (by repeat (first | (with_reducible first | exact HB.out | apply below_alloc | apply pw_below_drewN | apply below_drew1) | exact HB.out)) hb); clear HB; have HB := n0_; clear n0_; (try clear hb); (try clear hb2); (try clear hk); (try clear hi)) | (go_at_call 19; (with_reducible refine (utf_Mend.calls ((a0.extract 0 ((ji11) : Int).toNat) ++ a1) t156 _ A24.out).mono ?_); rintro e w34 ⟨rfl, hb⟩; have n0_ := Aside0.mk (below_step (by repeat (first | (with_reducible first | exact HB.out | apply below_alloc | apply pw_below_drewN | apply below_drew1) | exact HB.out)) hb); clear HB; have HB := n0_; clear n0_; (try clear hb); (try clear hb2); (try clear hk); (try clear hi)) | (go_at_call 19; (with_reducible refine (utf_Mend.calls a1 t157 _ A25.out).mono ?_); rintro e w35 ⟨rfl, hb⟩; have n0_ := Aside0.mk (below_step (by repeat (first | (with_reducible first | exact HB.out | apply below_alloc | apply pw_below_drewN | apply below_drew1) | exact HB.out)) hb); clear HB; have HB := n0_; clear n0_; (try clear hb); (try clear hb2); (try clear hk); (try clear hi)))
                      go_ret
                      exact ⟨by first | rfl | (simp [errW_none, errW_some] <;> rfl) | (simp only [← hji10, ← hji11]; first | rfl | (simp [errW_none, errW_some] <;> rfl)) | (simp [*, errW_none, errW_some] <;> rfl), by repeat (first | (with_reducible first | exact HB.out | apply below_alloc | apply pw_below_drewN | apply below_drew1) | exact HB.out)⟩
                    · rw [if_neg c26] at H
                      exact absurd H (by simp)
                  · rw [if_neg c23] at H
                    have c23b0 : (t153 == (wrap64 (t154 + t155))) = false := beq_eq_false_iff_ne.mpr c23
                    have c23b1 : (t153 != (wrap64 (t154 + t155))) = true := bne_iff_ne.mpr c23
                    obtain rfl := Option.some.inj H
                    go_wp2_with (first | ((with_reducible refine gate_callee (f := 13) rfl ?_); refine goesL_ (some 23) rfl rfl Try.func13 (by kernel_rfl) rfl #[.string a0] rfl (by (try simp only [List.map_toArray, List.map_cons, List.map_nil]); first | done | rfl | (simp only [List.length_drop, List.length_take]; rfl)) ?_; (with_reducible refine (utf_Fault.calls kj3 a0 t149 _ A9.out).mono ?_); rintro e w36 ⟨rfl, hb⟩; refine ⟨_, rfl, ?_⟩; have n0_ := Aside0.mk (below_step (by repeat (first | (with_reducible first | exact HB.out | apply below_alloc | apply pw_below_drewN | apply below_drew1) | exact HB.out)) hb); clear HB; have HB := n0_; clear n0_; (try clear hb); (try clear hb2); (try clear hk); (try clear hi)) | ((with_reducible refine gate_callee (f := 15) rfl ?_); refine goesL_ (some 30) rfl rfl Try.func15 (by kernel_rfl) rfl #[.string (a0.extract 0 ((ji11) : Int).toNat)] rfl (by (try simp only [List.map_toArray, List.map_cons, List.map_nil]); first | done | (simp only [hji11]; rfl) | rfl | (simp only [List.length_drop, List.length_take]; rfl)) ?_; (with_reducible refine (utf_Valid.calls kj3 (a0.extract 0 ((ji11) : Int).toNat) true _ A14.out).mono ?_); rintro e w37 ⟨rfl, hb⟩; refine ⟨_, rfl, ?_⟩; have n0_ := Aside0.mk (below_step (by repeat (first | (with_reducible first | exact HB.out | apply below_alloc | apply pw_below_drewN | apply below_drew1) | exact HB.out)) hb); clear HB; have HB := n0_; clear n0_; (try clear hb); (try clear hb2); (try clear hk); (try clear hi)) | (go_at_call 13; (with_reducible refine (utf_Fault.calls kj3 ((a0.extract 0 ((ji11) : Int).toNat) ++ a1) t151 _ A17.out).mono ?_); rintro e w38 ⟨rfl, hb⟩; have n0_ := Aside0.mk (below_step (by repeat (first | (with_reducible first | exact HB.out | apply below_alloc | apply pw_below_drewN | apply below_drew1) | exact HB.out)) hb); clear HB; have HB := n0_; clear n0_; (try clear hb); (try clear hb2); (try clear hk); (try clear hi)) | (go_at_call 13; (with_reducible refine (utf_Fault.calls kj3 a1 t152 _ A18.out).mono ?_); rintro e w39 ⟨rfl, hb⟩; have n0_ := Aside0.mk (below_step (by repeat (first | (with_reducible first | exact HB.out | apply below_alloc | apply pw_below_drewN | apply below_drew1) | exact HB.out)) hb); clear HB; have HB := n0_; clear n0_; (try clear hb); (try clear hb2); (try clear hk); (try clear hi)) | (go_at_call 17; (with_reducible refine (utf_Count.calls kj3 ((a0.extract 0 ((ji11) : Int).toNat) ++ a1) t153 _ A20.out).mono ?_); rintro e w40 ⟨rfl, hb⟩; have n0_ := Aside0.mk (below_step (by repeat (first | (with_reducible first | exact HB.out | apply below_alloc | apply pw_below_drewN | apply below_drew1) | exact HB.out)) hb); clear HB; have HB := n0_; clear n0_; (try clear hb); (try clear hb2); (try clear hk); (try clear hi)) | (go_at_call 17; (with_reducible refine (utf_Count.calls kj3 (a0.extract 0 ((ji11) : Int).toNat) t154 _ A21.out).mono ?_); rintro e w41 ⟨rfl, hb⟩; have n0_ := Aside0.mk (below_step (by repeat (first | (with_reducible first | exact HB.out | apply below_alloc | apply pw_below_drewN | apply below_drew1) | exact HB.out)) hb); clear HB; have HB := n0_; clear n0_; (try clear hb); (try clear hb2); (try clear hk); (try clear hi)) | (go_at_call 17; (with_reducible refine (utf_Count.calls kj3 a1 t155 _ A22.out).mono ?_); rintro e w42 ⟨rfl, hb⟩; have n0_ := Aside0.mk (below_step (by repeat (first | (with_reducible first | exact HB.out | apply below_alloc | apply pw_below_drewN | apply below_drew1) | exact HB.out)) hb); clear HB; have HB := n0_; clear n0_; (try clear hb); (try clear hb2); (try clear hk); (try clear hi)))
                    go_ret
                    exact ⟨by first | rfl | (simp [errW_none, errW_some] <;> rfl) | (simp only [← hji10, ← hji11]; first | rfl | (simp [errW_none, errW_some] <;> rfl)) | (simp [*, errW_none, errW_some] <;> rfl), by repeat (first | (with_reducible first | exact HB.out | apply below_alloc | apply pw_below_drewN | apply below_drew1) | exact HB.out)⟩
                · rw [if_neg c19] at H
                  have c19b0 : (t151 == (wrap64 (((a0.extract 0 ((ji11) : Int).toNat).size : Int) + t152))) = false := beq_eq_false_iff_ne.mpr c19
                  have c19b1 : (t151 != (wrap64 (((a0.extract 0 ((ji11) : Int).toNat).size : Int) + t152))) = true := bne_iff_ne.mpr c19
                  try (have c19bs := c19b0; simp [*, -c19b0, -c19b1, -c19] at c19bs)
                  obtain rfl := Option.some.inj H
                  go_wp2_with (first | ((with_reducible refine gate_callee (f := 13) rfl ?_); refine goesL_ (some 23) rfl rfl Try.func13 (by kernel_rfl) rfl #[.string a0] rfl (by (try simp only [List.map_toArray, List.map_cons, List.map_nil]); first | done | rfl | (simp only [List.length_drop, List.length_take]; rfl)) ?_; (with_reducible refine (utf_Fault.calls kj3 a0 t149 _ A9.out).mono ?_); rintro e w43 ⟨rfl, hb⟩; refine ⟨_, rfl, ?_⟩; have n0_ := Aside0.mk (below_step (by repeat (first | (with_reducible first | exact HB.out | apply below_alloc | apply pw_below_drewN | apply below_drew1) | exact HB.out)) hb); clear HB; have HB := n0_; clear n0_; (try clear hb); (try clear hb2); (try clear hk); (try clear hi)) | ((with_reducible refine gate_callee (f := 15) rfl ?_); refine goesL_ (some 30) rfl rfl Try.func15 (by kernel_rfl) rfl #[.string (a0.extract 0 ((ji11) : Int).toNat)] rfl (by (try simp only [List.map_toArray, List.map_cons, List.map_nil]); first | done | (simp only [hji11]; rfl) | rfl | (simp only [List.length_drop, List.length_take]; rfl)) ?_; (with_reducible refine (utf_Valid.calls kj3 (a0.extract 0 ((ji11) : Int).toNat) true _ A14.out).mono ?_); rintro e w44 ⟨rfl, hb⟩; refine ⟨_, rfl, ?_⟩; have n0_ := Aside0.mk (below_step (by repeat (first | (with_reducible first | exact HB.out | apply below_alloc | apply pw_below_drewN | apply below_drew1) | exact HB.out)) hb); clear HB; have HB := n0_; clear n0_; (try clear hb); (try clear hb2); (try clear hk); (try clear hi)) | (go_at_call 13; (with_reducible refine (utf_Fault.calls kj3 ((a0.extract 0 ((ji11) : Int).toNat) ++ a1) t151 _ A17.out).mono ?_); rintro e w45 ⟨rfl, hb⟩; have n0_ := Aside0.mk (below_step (by repeat (first | (with_reducible first | exact HB.out | apply below_alloc | apply pw_below_drewN | apply below_drew1) | exact HB.out)) hb); clear HB; have HB := n0_; clear n0_; (try clear hb); (try clear hb2); (try clear hk); (try clear hi)) | (go_at_call 13; (with_reducible refine (utf_Fault.calls kj3 a1 t152 _ A18.out).mono ?_); rintro e w46 ⟨rfl, hb⟩; have n0_ := Aside0.mk (below_step (by repeat (first | (with_reducible first | exact HB.out | apply below_alloc | apply pw_below_drewN | apply below_drew1) | exact HB.out)) hb); clear HB; have HB := n0_; clear n0_; (try clear hb); (try clear hb2); (try clear hk); (try clear hi)))
                  go_ret
                  exact ⟨by first | rfl | (simp [errW_none, errW_some] <;> rfl) | (simp only [← hji10, ← hji11]; first | rfl | (simp [errW_none, errW_some] <;> rfl)) | (simp [*, errW_none, errW_some] <;> rfl), by repeat (first | (with_reducible first | exact HB.out | apply below_alloc | apply pw_below_drewN | apply below_drew1) | exact HB.out)⟩
              · rw [if_neg c16] at H
                exact absurd H (by simp)
            · replace c15 := Bool.eq_false_iff.mpr c15
              subst c15
              have H1 : (some false) = some r := by rw [if_neg (show ¬ (false = true) by decide)] at H; exact H
              clear H
              have H := H1
              clear H1
              obtain rfl := Option.some.inj H
              go_wp2_with (first | ((with_reducible refine gate_callee (f := 13) rfl ?_); refine goesL_ (some 23) rfl rfl Try.func13 (by kernel_rfl) rfl #[.string a0] rfl (by (try simp only [List.map_toArray, List.map_cons, List.map_nil]); first | done | rfl | (simp only [List.length_drop, List.length_take]; rfl)) ?_; (with_reducible refine (utf_Fault.calls kj3 a0 t149 _ A9.out).mono ?_); rintro e w47 ⟨rfl, hb⟩; refine ⟨_, rfl, ?_⟩; have n0_ := Aside0.mk (below_step (by repeat (first | (with_reducible first | exact HB.out | apply below_alloc | apply pw_below_drewN | apply below_drew1) | exact HB.out)) hb); clear HB; have HB := n0_; clear n0_; (try clear hb); (try clear hb2); (try clear hk); (try clear hi)) | ((with_reducible refine gate_callee (f := 15) rfl ?_); refine goesL_ (some 30) rfl rfl Try.func15 (by kernel_rfl) rfl #[.string (a0.extract 0 ((ji11) : Int).toNat)] rfl (by (try simp only [List.map_toArray, List.map_cons, List.map_nil]); first | done | (simp only [hji11]; rfl) | rfl | (simp only [List.length_drop, List.length_take]; rfl)) ?_; (with_reducible refine (utf_Valid.calls kj3 (a0.extract 0 ((ji11) : Int).toNat) false _ A14.out).mono ?_); rintro e w48 ⟨rfl, hb⟩; refine ⟨_, rfl, ?_⟩; have n0_ := Aside0.mk (below_step (by repeat (first | (with_reducible first | exact HB.out | apply below_alloc | apply pw_below_drewN | apply below_drew1) | exact HB.out)) hb); clear HB; have HB := n0_; clear n0_; (try clear hb); (try clear hb2); (try clear hk); (try clear hi)))
              go_ret
              exact ⟨by first | rfl | (simp [errW_none, errW_some] <;> rfl) | (simp only [← hji10, ← hji11]; first | rfl | (simp [errW_none, errW_some] <;> rfl)) | (simp [*, errW_none, errW_some] <;> rfl), by repeat (first | (with_reducible first | exact HB.out | apply below_alloc | apply pw_below_drewN | apply below_drew1) | exact HB.out)⟩
          · rw [if_neg c13] at H
            exact absurd H (by simp)
        · rw [if_neg c12] at H
          exact absurd H (by simp)

/-- THE ONE PURE STATEMENT of stratumlaw03_UtfJoins: yours. -/
def stratumlaw03_UtfJoins.Pure : Prop := ∀ (a0 : ByteArray) (a1 : ByteArray), a0.size ≤ 140737488351232 → a1.size ≤ 140737488351232 → ∃ k, stratumlaw03_UtfJoins.f k a0 a1 = some true
theorem stratumlaw03_UtfJoins.walk (P : stratumlaw03_UtfJoins.Pure) (a0 : ByteArray) (a1 : ByteArray) (w : World) (w0 : a0.size ≤ 140737488351232) (w1 : a1.size ≤ 140737488351232) :
    Calls Try.prog 6 #[.string a0, .string a1] w fun e w' => e = .returned (.bool true) ∧ Below w.heap.size w w' := by
  obtain ⟨k, h⟩ := P a0 a1 w0 w1
  refine (stratumlaw03_UtfJoins.calls k a0 a1 true w h).mono ?_
  rintro e w' ⟨rfl, hd⟩
  exact ⟨rfl, hd⟩

/-! ### stratumlaw03_UtfMends: function 7 -/
def stratumlaw03_UtfMends.j0 : Nat → ByteArray → Bool → Bool → Option (Bool)
  | 0, _, _, _ => none
  | k + 1, x0, x3, x12 => if x12 = true then (some x3) else ((utf_Mend.f x0).bind fun t159 => ((utf_Valid.f k t159).bind fun t160 => (if t160 = true then ((utf_Count.f k t159).bind fun t161 => ((utf_Count.f k x0).bind fun t162 => (if t161 = t162 then (if t159.toList = x0.toList then ((utf_Mend.f t159).bind fun t163 => (some (t163.toList == t159.toList))) else ((utf_Valid.f k x0).bind fun t164 => (if t164 = true then (some false) else ((utf_Mend.f t159).bind fun t165 => (some (t165.toList == t159.toList)))))) else (some false)))) else (some false))))
def stratumlaw03_UtfMends.f (k : Nat) (a0 : ByteArray) : Option (Bool) := (stratumlaw03_awake.f k).bind fun t158 => (if t158 = true then (stratumlaw03_UtfMends.j0 k a0 t158 (decide ((a0.size : Int) > 16777216))) else (stratumlaw03_UtfMends.j0 k a0 t158 true))
theorem stratumlaw03_UtfMends.mono_l : ∀ k, (∀ y0 y1 y2, LeO (stratumlaw03_UtfMends.j0 k y0 y1 y2) (stratumlaw03_UtfMends.j0 (k + 1) y0 y1 y2))
  | 0 => fun _ _ _ r h => by simp [stratumlaw03_UtfMends.j0] at h
  | k + 1 => by
    have ih0 := stratumlaw03_UtfMends.mono_l k
    · intro y0 y1 y2
      unfold stratumlaw03_UtfMends.j0
      repeat' first
      | (with_reducible exact ih0 _ _ _)
      | (with_reducible exact stratumlaw03_awake.mono _)
      | (with_reducible exact utf_Count.mono _ _)
      | (with_reducible exact utf_Valid.mono _ _)
      | (with_reducible exact LeO.refl _)
      | (with_reducible exact LeO.none _)
      | (with_reducible refine LeO.ite ?_ ?_)
      | (with_reducible refine LeO.bind ?_ (fun _ => ?_))
      | exact ih0 _ _ _
      | exact stratumlaw03_awake.mono _
      | exact utf_Count.mono _ _
      | exact utf_Valid.mono _ _
      | exact LeO.none _
      | refine LeO.ite ?_ ?_
      | refine LeO.bind ?_ (fun _ => ?_)
theorem stratumlaw03_UtfMends.mono : ∀ a0 k, LeO (stratumlaw03_UtfMends.f k a0) (stratumlaw03_UtfMends.f (k + 1) a0) := by
  intro a0 k
  have ih0 := stratumlaw03_UtfMends.mono_l k
  unfold stratumlaw03_UtfMends.f
  repeat' first
      | (with_reducible exact ih0 _ _ _)
      | (with_reducible exact stratumlaw03_awake.mono _)
      | (with_reducible exact utf_Count.mono _ _)
      | (with_reducible exact utf_Valid.mono _ _)
      | (with_reducible exact LeO.refl _)
      | (with_reducible exact LeO.none _)
      | (with_reducible refine LeO.ite ?_ ?_)
      | (with_reducible refine LeO.bind ?_ (fun _ => ?_))
      | exact ih0 _ _ _
      | exact stratumlaw03_awake.mono _
      | exact utf_Count.mono _ _
      | exact utf_Valid.mono _ _
      | exact LeO.none _
      | refine LeO.ite ?_ ?_
      | refine LeO.bind ?_ (fun _ => ?_)
set_option maxHeartbeats 8000000 in
set_option maxRecDepth 100000 in
theorem stratumlaw03_UtfMends.calls (k : Nat) (a0 : ByteArray) (r : Bool) (w : World) (h : stratumlaw03_UtfMends.f k a0 = some r) :
    Calls Try.prog 7 #[.string a0] w fun e w' => e = .returned (.bool r) ∧ Below w.heap.size w w' := by
  have HB := Aside0.mk (Below.refl w.heap.size w)
  have H : ((stratumlaw03_awake.f k).bind fun t158 => (if t158 = true then (stratumlaw03_UtfMends.j0 k a0 t158 (decide ((a0.size : Int) > 16777216))) else (stratumlaw03_UtfMends.j0 k a0 t158 true))) = some r := h
  clear h
  replace H := Option.bind_eq_some_iff.mp H
  obtain ⟨t158, A20, H⟩ := H
  replace H : (if t158 = true then (stratumlaw03_UtfMends.j0 k a0 t158 (decide ((a0.size : Int) > 16777216))) else (stratumlaw03_UtfMends.j0 k a0 t158 true)) = some r := H
  have A2 := Aside0.mk A20
  clear A20
  have HC3 := Aside0.mk H
  clear H
  go_enter Try.func7, Try.ntmps7
  go_upto_region 2 with (first | ((with_reducible refine gate_callee (f := 9) rfl ?_); refine goesL_ (some 5) rfl rfl Try.func9 (by kernel_rfl) rfl #[] rfl (by (try simp only [List.map_toArray, List.map_cons, List.map_nil]); first | done | rfl | (simp only [List.length_drop, List.length_take]; rfl)) ?_; (with_reducible refine (stratumlaw03_awake.calls k  t158 _ A2.out).mono ?_); rintro e w4 ⟨rfl, hb⟩; refine ⟨_, rfl, ?_⟩; have n0_ := Aside0.mk (below_step (by repeat (first | (with_reducible first | exact HB.out | apply below_alloc | apply pw_below_drewN | apply below_drew1) | exact HB.out)) hb); clear HB; have HB := n0_; clear n0_; (try clear hb); (try clear hb2); (try clear hk); (try clear hi)))
  (try simp only [Act.put, List.setIfInBounds_toArray, List.set_cons_zero, List.set_cons_succ])
  go_cut [12] (fun v12 wc => ∃ (kq : Nat) (x12_2 : Bool), v12 = .bool x12_2 ∧ Aside0 (stratumlaw03_UtfMends.j0 kq a0 t158 x12_2 = some r) ∧ Aside0 (kq ≤ k) ∧ Aside0 (Below w.heap.size w wc))
  case first =>
    have H := HC3.out
    clear HC3
    by_cases c5 : t158 = true
    · subst c5
      have H1 : (stratumlaw03_UtfMends.j0 k a0 true (decide ((a0.size : Int) > 16777216))) = some r := by rw [if_pos rfl] at H; exact H
      clear H
      have H := H1
      clear H1
      have H' := Aside0.mk H
      clear H
      go_wp2
      go_meet
      case rel => exact ⟨_, (decide ((a0.size : Int) > 16777216)), (by first | rfl | (simp; done) | (simp [*]; done)), H', ⟨by first | omega | exact Nat.le_refl _⟩, ⟨by repeat (first | (with_reducible first | exact HB.out | apply below_alloc | apply pw_below_drewN | apply below_drew1) | exact HB.out)⟩⟩
    · replace c5 := Bool.eq_false_iff.mpr c5
      subst c5
      have H1 : (stratumlaw03_UtfMends.j0 k a0 false true) = some r := by rw [if_neg (show ¬ (false = true) by decide)] at H; exact H
      clear H
      have H := H1
      clear H1
      have H' := Aside0.mk H
      clear H
      go_wp2
      go_meet
      case rel => exact ⟨_, (true), (by first | rfl | (simp; done) | (simp [*]; done)), H', ⟨by first | omega | exact Nat.le_refl _⟩, ⟨by repeat (first | (with_reducible first | exact HB.out | apply below_alloc | apply pw_below_drewN | apply below_drew1) | exact HB.out)⟩⟩
  case rest =>
    clear HC3
    try clear p2
    try clear c5
    obtain ⟨kq, x12_2, rfl, HA, HJ2, HB⟩ := hcut
    cases kq with
    | zero => exact absurd HA.out (by simp [stratumlaw03_UtfMends.j0])
    | succ kj2 =>
      have H := HA.out
      clear HA
      simp only [stratumlaw03_UtfMends.j0] at H
      by_cases c6 : x12_2 = true
      · subst c6
        have H1 : (some t158) = some r := by rw [if_pos rfl] at H; exact H
        clear H
        have H := H1
        clear H1
        obtain rfl := Option.some.inj H
        go_wp2
        go_ret
        exact ⟨by first | rfl | (simp [errW_none, errW_some] <;> rfl) | (simp [*, errW_none, errW_some] <;> rfl), by repeat (first | (with_reducible first | exact HB.out | apply below_alloc | apply pw_below_drewN | apply below_drew1) | exact HB.out)⟩
      · replace c6 := Bool.eq_false_iff.mpr c6
        subst c6
        have H1 : ((utf_Mend.f a0).bind fun t159 => ((utf_Valid.f kj2 t159).bind fun t160 => (if t160 = true then ((utf_Count.f kj2 t159).bind fun t161 => ((utf_Count.f kj2 a0).bind fun t162 => (if t161 = t162 then (if t159.toList = a0.toList then ((utf_Mend.f t159).bind fun t163 => (some (t163.toList == t159.toList))) else ((utf_Valid.f kj2 a0).bind fun t164 => (if t164 = true then (some false) else ((utf_Mend.f t159).bind fun t165 => (some (t165.toList == t159.toList)))))) else (some false)))) else (some false)))) = some r := by rw [if_neg (show ¬ (false = true) by decide)] at H; exact H
        clear H
        have H := H1
        clear H1
        replace H := Option.bind_eq_some_iff.mp H
        obtain ⟨t159, A70, H⟩ := H
        replace H : ((utf_Valid.f kj2 t159).bind fun t160 => (if t160 = true then ((utf_Count.f kj2 t159).bind fun t161 => ((utf_Count.f kj2 a0).bind fun t162 => (if t161 = t162 then (if t159.toList = a0.toList then ((utf_Mend.f t159).bind fun t163 => (some (t163.toList == t159.toList))) else ((utf_Valid.f kj2 a0).bind fun t164 => (if t164 = true then (some false) else ((utf_Mend.f t159).bind fun t165 => (some (t165.toList == t159.toList)))))) else (some false)))) else (some false))) = some r := H
        have A7 := Aside0.mk A70
        clear A70
        replace H := Option.bind_eq_some_iff.mp H
        obtain ⟨t160, A80, H⟩ := H
        replace H : (if t160 = true then ((utf_Count.f kj2 t159).bind fun t161 => ((utf_Count.f kj2 a0).bind fun t162 => (if t161 = t162 then (if t159.toList = a0.toList then ((utf_Mend.f t159).bind fun t163 => (some (t163.toList == t159.toList))) else ((utf_Valid.f kj2 a0).bind fun t164 => (if t164 = true then (some false) else ((utf_Mend.f t159).bind fun t165 => (some (t165.toList == t159.toList)))))) else (some false)))) else (some false)) = some r := H
        have A8 := Aside0.mk A80
        clear A80
        by_cases c9 : t160 = true
        · subst c9
          have H1 : ((utf_Count.f kj2 t159).bind fun t161 => ((utf_Count.f kj2 a0).bind fun t162 => (if t161 = t162 then (if t159.toList = a0.toList then ((utf_Mend.f t159).bind fun t163 => (some (t163.toList == t159.toList))) else ((utf_Valid.f kj2 a0).bind fun t164 => (if t164 = true then (some false) else ((utf_Mend.f t159).bind fun t165 => (some (t165.toList == t159.toList)))))) else (some false)))) = some r := by rw [if_pos rfl] at H; exact H
          clear H
          have H := H1
          clear H1
          replace H := Option.bind_eq_some_iff.mp H
          obtain ⟨t161, A100, H⟩ := H
          replace H : ((utf_Count.f kj2 a0).bind fun t162 => (if t161 = t162 then (if t159.toList = a0.toList then ((utf_Mend.f t159).bind fun t163 => (some (t163.toList == t159.toList))) else ((utf_Valid.f kj2 a0).bind fun t164 => (if t164 = true then (some false) else ((utf_Mend.f t159).bind fun t165 => (some (t165.toList == t159.toList)))))) else (some false))) = some r := H
          have A10 := Aside0.mk A100
          clear A100
          replace H := Option.bind_eq_some_iff.mp H
          obtain ⟨t162, A110, H⟩ := H
          replace H : (if t161 = t162 then (if t159.toList = a0.toList then ((utf_Mend.f t159).bind fun t163 => (some (t163.toList == t159.toList))) else ((utf_Valid.f kj2 a0).bind fun t164 => (if t164 = true then (some false) else ((utf_Mend.f t159).bind fun t165 => (some (t165.toList == t159.toList)))))) else (some false)) = some r := H
          have A11 := Aside0.mk A110
          clear A110
          by_cases c12 : t161 = t162
          · rw [if_pos c12] at H
            have c12b0 : (t161 == t162) = true := beq_iff_eq.mpr c12
            have c12b1 : (t161 != t162) = false := bne_eq_false_iff_eq.mpr c12
            clear c12
            by_cases c13 : t159.toList = a0.toList
            · rw [if_pos c13] at H
              have c13b0 : (t159.toList == a0.toList) = true := beq_iff_eq.mpr c13
              have c13b1 : (t159.toList != a0.toList) = false := bne_eq_false_iff_eq.mpr c13
              clear c13
              replace H := Option.bind_eq_some_iff.mp H
              obtain ⟨t163, A140, H⟩ := H
              replace H : (some (t163.toList == t159.toList)) = some r := H
              have A14 := Aside0.mk A140
              clear A140
              obtain rfl := Option.some.inj H
              go_wp2_with (first | ((with_reducible refine gate_callee (f := 19) rfl ?_); refine goesL_ (some 15) rfl rfl Try.func19 (by kernel_rfl) rfl #[.string a0] rfl (by (try simp only [List.map_toArray, List.map_cons, List.map_nil]); first | done | rfl | (simp only [List.length_drop, List.length_take]; rfl)) ?_; (with_reducible refine (utf_Mend.calls a0 t159 _ A7.out).mono ?_); rintro e w15 ⟨rfl, hb⟩; refine ⟨_, rfl, ?_⟩; have n0_ := Aside0.mk (below_step (by repeat (first | (with_reducible first | exact HB.out | apply below_alloc | apply pw_below_drewN | apply below_drew1) | exact HB.out)) hb); clear HB; have HB := n0_; clear n0_; (try clear hb); (try clear hb2); (try clear hk); (try clear hi)) | ((with_reducible refine gate_callee (f := 15) rfl ?_); refine goesL_ (some 17) rfl rfl Try.func15 (by kernel_rfl) rfl #[.string t159] rfl (by (try simp only [List.map_toArray, List.map_cons, List.map_nil]); first | done | rfl | (simp only [List.length_drop, List.length_take]; rfl)) ?_; (with_reducible refine (utf_Valid.calls kj2 t159 true _ A8.out).mono ?_); rintro e w16 ⟨rfl, hb⟩; refine ⟨_, rfl, ?_⟩; have n0_ := Aside0.mk (below_step (by repeat (first | (with_reducible first | exact HB.out | apply below_alloc | apply pw_below_drewN | apply below_drew1) | exact HB.out)) hb); clear HB; have HB := n0_; clear n0_; (try clear hb); (try clear hb2); (try clear hk); (try clear hi)) | (go_at_call 17; (with_reducible refine (utf_Count.calls kj2 t159 t161 _ A10.out).mono ?_); rintro e w17 ⟨rfl, hb⟩; have n0_ := Aside0.mk (below_step (by repeat (first | (with_reducible first | exact HB.out | apply below_alloc | apply pw_below_drewN | apply below_drew1) | exact HB.out)) hb); clear HB; have HB := n0_; clear n0_; (try clear hb); (try clear hb2); (try clear hk); (try clear hi)) | (go_at_call 17; (with_reducible refine (utf_Count.calls kj2 a0 t162 _ A11.out).mono ?_); rintro e w18 ⟨rfl, hb⟩; have n0_ := Aside0.mk (below_step (by repeat (first | (with_reducible first | exact HB.out | apply below_alloc | apply pw_below_drewN | apply below_drew1) | exact HB.out)) hb); clear HB; have HB := n0_; clear n0_; (try clear hb); (try clear hb2); (try clear hk); (try clear hi)) | (go_at_call 19; (with_reducible refine (utf_Mend.calls t159 t163 _ A14.out).mono ?_); rintro e w19 ⟨rfl, hb⟩; have n0_ := Aside0.mk (below_step (by repeat (first | (with_reducible first | exact HB.out | apply below_alloc | apply pw_below_drewN | apply below_drew1) | exact HB.out)) hb); clear HB; have HB := n0_; clear n0_; (try clear hb); (try clear hb2); (try clear hk); (try clear hi)))
              go_ret
              exact ⟨by first | rfl | (simp [errW_none, errW_some] <;> rfl) | (simp [*, errW_none, errW_some] <;> rfl), by repeat (first | (with_reducible first | exact HB.out | apply below_alloc | apply pw_below_drewN | apply below_drew1) | exact HB.out)⟩
            · rw [if_neg c13] at H
              have c13b0 : (t159.toList == a0.toList) = false := beq_eq_false_iff_ne.mpr c13
              have c13b1 : (t159.toList != a0.toList) = true := bne_iff_ne.mpr c13
              replace H := Option.bind_eq_some_iff.mp H
              obtain ⟨t164, A200, H⟩ := H
              replace H : (if t164 = true then (some false) else ((utf_Mend.f t159).bind fun t165 => (some (t165.toList == t159.toList)))) = some r := H
              have A20 := Aside0.mk A200
              clear A200
              by_cases c21 : t164 = true
              · subst c21
                have H1 : (some false) = some r := by rw [if_pos rfl] at H; exact H
                clear H
                have H := H1
                clear H1
                obtain rfl := Option.some.inj H
                go_wp2_with (first | ((with_reducible refine gate_callee (f := 19) rfl ?_); refine goesL_ (some 15) rfl rfl Try.func19 (by kernel_rfl) rfl #[.string a0] rfl (by (try simp only [List.map_toArray, List.map_cons, List.map_nil]); first | done | rfl | (simp only [List.length_drop, List.length_take]; rfl)) ?_; (with_reducible refine (utf_Mend.calls a0 t159 _ A7.out).mono ?_); rintro e w22 ⟨rfl, hb⟩; refine ⟨_, rfl, ?_⟩; have n0_ := Aside0.mk (below_step (by repeat (first | (with_reducible first | exact HB.out | apply below_alloc | apply pw_below_drewN | apply below_drew1) | exact HB.out)) hb); clear HB; have HB := n0_; clear n0_; (try clear hb); (try clear hb2); (try clear hk); (try clear hi)) | ((with_reducible refine gate_callee (f := 15) rfl ?_); refine goesL_ (some 17) rfl rfl Try.func15 (by kernel_rfl) rfl #[.string t159] rfl (by (try simp only [List.map_toArray, List.map_cons, List.map_nil]); first | done | rfl | (simp only [List.length_drop, List.length_take]; rfl)) ?_; (with_reducible refine (utf_Valid.calls kj2 t159 true _ A8.out).mono ?_); rintro e w23 ⟨rfl, hb⟩; refine ⟨_, rfl, ?_⟩; have n0_ := Aside0.mk (below_step (by repeat (first | (with_reducible first | exact HB.out | apply below_alloc | apply pw_below_drewN | apply below_drew1) | exact HB.out)) hb); clear HB; have HB := n0_; clear n0_; (try clear hb); (try clear hb2); (try clear hk); (try clear hi)) | (go_at_call 17; (with_reducible refine (utf_Count.calls kj2 t159 t161 _ A10.out).mono ?_); rintro e w24 ⟨rfl, hb⟩; have n0_ := Aside0.mk (below_step (by repeat (first | (with_reducible first | exact HB.out | apply below_alloc | apply pw_below_drewN | apply below_drew1) | exact HB.out)) hb); clear HB; have HB := n0_; clear n0_; (try clear hb); (try clear hb2); (try clear hk); (try clear hi)) | (go_at_call 17; (with_reducible refine (utf_Count.calls kj2 a0 t162 _ A11.out).mono ?_); rintro e w25 ⟨rfl, hb⟩; have n0_ := Aside0.mk (below_step (by repeat (first | (with_reducible first | exact HB.out | apply below_alloc | apply pw_below_drewN | apply below_drew1) | exact HB.out)) hb); clear HB; have HB := n0_; clear n0_; (try clear hb); (try clear hb2); (try clear hk); (try clear hi)) | (go_at_call 15; (with_reducible refine (utf_Valid.calls kj2 a0 true _ A20.out).mono ?_); rintro e w26 ⟨rfl, hb⟩; have n0_ := Aside0.mk (below_step (by repeat (first | (with_reducible first | exact HB.out | apply below_alloc | apply pw_below_drewN | apply below_drew1) | exact HB.out)) hb); clear HB; have HB := n0_; clear n0_; (try clear hb); (try clear hb2); (try clear hk); (try clear hi)))
                go_ret
                exact ⟨by first | rfl | (simp [errW_none, errW_some] <;> rfl) | (simp [*, errW_none, errW_some] <;> rfl), by repeat (first | (with_reducible first | exact HB.out | apply below_alloc | apply pw_below_drewN | apply below_drew1) | exact HB.out)⟩
              · replace c21 := Bool.eq_false_iff.mpr c21
                subst c21
                have H1 : ((utf_Mend.f t159).bind fun t165 => (some (t165.toList == t159.toList))) = some r := by rw [if_neg (show ¬ (false = true) by decide)] at H; exact H
                clear H
                have H := H1
                clear H1
                replace H := Option.bind_eq_some_iff.mp H
                obtain ⟨t165, A270, H⟩ := H
                replace H : (some (t165.toList == t159.toList)) = some r := H
                have A27 := Aside0.mk A270
                clear A270
                obtain rfl := Option.some.inj H
                go_wp2_with (first | ((with_reducible refine gate_callee (f := 19) rfl ?_); refine goesL_ (some 15) rfl rfl Try.func19 (by kernel_rfl) rfl #[.string a0] rfl (by (try simp only [List.map_toArray, List.map_cons, List.map_nil]); first | done | rfl | (simp only [List.length_drop, List.length_take]; rfl)) ?_; (with_reducible refine (utf_Mend.calls a0 t159 _ A7.out).mono ?_); rintro e w28 ⟨rfl, hb⟩; refine ⟨_, rfl, ?_⟩; have n0_ := Aside0.mk (below_step (by repeat (first | (with_reducible first | exact HB.out | apply below_alloc | apply pw_below_drewN | apply below_drew1) | exact HB.out)) hb); clear HB; have HB := n0_; clear n0_; (try clear hb); (try clear hb2); (try clear hk); (try clear hi)) | ((with_reducible refine gate_callee (f := 15) rfl ?_); refine goesL_ (some 17) rfl rfl Try.func15 (by kernel_rfl) rfl #[.string t159] rfl (by (try simp only [List.map_toArray, List.map_cons, List.map_nil]); first | done | rfl | (simp only [List.length_drop, List.length_take]; rfl)) ?_; (with_reducible refine (utf_Valid.calls kj2 t159 true _ A8.out).mono ?_); rintro e w29 ⟨rfl, hb⟩; refine ⟨_, rfl, ?_⟩; have n0_ := Aside0.mk (below_step (by repeat (first | (with_reducible first | exact HB.out | apply below_alloc | apply pw_below_drewN | apply below_drew1) | exact HB.out)) hb); clear HB; have HB := n0_; clear n0_; (try clear hb); (try clear hb2); (try clear hk); (try clear hi)) | (go_at_call 17; (with_reducible refine (utf_Count.calls kj2 t159 t161 _ A10.out).mono ?_); rintro e w30 ⟨rfl, hb⟩; have n0_ := Aside0.mk (below_step (by repeat (first | (with_reducible first | exact HB.out | apply below_alloc | apply pw_below_drewN | apply below_drew1) | exact HB.out)) hb); clear HB; have HB := n0_; clear n0_; (try clear hb); (try clear hb2); (try clear hk); (try clear hi)) | (go_at_call 17; (with_reducible refine (utf_Count.calls kj2 a0 t162 _ A11.out).mono ?_); rintro e w31 ⟨rfl, hb⟩; have n0_ := Aside0.mk (below_step (by repeat (first | (with_reducible first | exact HB.out | apply below_alloc | apply pw_below_drewN | apply below_drew1) | exact HB.out)) hb); clear HB; have HB := n0_; clear n0_; (try clear hb); (try clear hb2); (try clear hk); (try clear hi)) | (go_at_call 15; (with_reducible refine (utf_Valid.calls kj2 a0 false _ A20.out).mono ?_); rintro e w32 ⟨rfl, hb⟩; have n0_ := Aside0.mk (below_step (by repeat (first | (with_reducible first | exact HB.out | apply below_alloc | apply pw_below_drewN | apply below_drew1) | exact HB.out)) hb); clear HB; have HB := n0_; clear n0_; (try clear hb); (try clear hb2); (try clear hk); (try clear hi)) | (go_at_call 19; (with_reducible refine (utf_Mend.calls t159 t165 _ A27.out).mono ?_); rintro e w33 ⟨rfl, hb⟩; have n0_ := Aside0.mk (below_step (by repeat (first | (with_reducible first | exact HB.out | apply below_alloc | apply pw_below_drewN | apply below_drew1) | exact HB.out)) hb); clear HB; have HB := n0_; clear n0_; (try clear hb); (try clear hb2); (try clear hk); (try clear hi)))
                go_ret
                exact ⟨by first | rfl | (simp [errW_none, errW_some] <;> rfl) | (simp [*, errW_none, errW_some] <;> rfl), by repeat (first | (with_reducible first | exact HB.out | apply below_alloc | apply pw_below_drewN | apply below_drew1) | exact HB.out)⟩
          · rw [if_neg c12] at H
            have c12b0 : (t161 == t162) = false := beq_eq_false_iff_ne.mpr c12
            have c12b1 : (t161 != t162) = true := bne_iff_ne.mpr c12
            obtain rfl := Option.some.inj H
            go_wp2_with (first | ((with_reducible refine gate_callee (f := 19) rfl ?_); refine goesL_ (some 15) rfl rfl Try.func19 (by kernel_rfl) rfl #[.string a0] rfl (by (try simp only [List.map_toArray, List.map_cons, List.map_nil]); first | done | rfl | (simp only [List.length_drop, List.length_take]; rfl)) ?_; (with_reducible refine (utf_Mend.calls a0 t159 _ A7.out).mono ?_); rintro e w34 ⟨rfl, hb⟩; refine ⟨_, rfl, ?_⟩; have n0_ := Aside0.mk (below_step (by repeat (first | (with_reducible first | exact HB.out | apply below_alloc | apply pw_below_drewN | apply below_drew1) | exact HB.out)) hb); clear HB; have HB := n0_; clear n0_; (try clear hb); (try clear hb2); (try clear hk); (try clear hi)) | ((with_reducible refine gate_callee (f := 15) rfl ?_); refine goesL_ (some 17) rfl rfl Try.func15 (by kernel_rfl) rfl #[.string t159] rfl (by (try simp only [List.map_toArray, List.map_cons, List.map_nil]); first | done | rfl | (simp only [List.length_drop, List.length_take]; rfl)) ?_; (with_reducible refine (utf_Valid.calls kj2 t159 true _ A8.out).mono ?_); rintro e w35 ⟨rfl, hb⟩; refine ⟨_, rfl, ?_⟩; have n0_ := Aside0.mk (below_step (by repeat (first | (with_reducible first | exact HB.out | apply below_alloc | apply pw_below_drewN | apply below_drew1) | exact HB.out)) hb); clear HB; have HB := n0_; clear n0_; (try clear hb); (try clear hb2); (try clear hk); (try clear hi)) | (go_at_call 17; (with_reducible refine (utf_Count.calls kj2 t159 t161 _ A10.out).mono ?_); rintro e w36 ⟨rfl, hb⟩; have n0_ := Aside0.mk (below_step (by repeat (first | (with_reducible first | exact HB.out | apply below_alloc | apply pw_below_drewN | apply below_drew1) | exact HB.out)) hb); clear HB; have HB := n0_; clear n0_; (try clear hb); (try clear hb2); (try clear hk); (try clear hi)) | (go_at_call 17; (with_reducible refine (utf_Count.calls kj2 a0 t162 _ A11.out).mono ?_); rintro e w37 ⟨rfl, hb⟩; have n0_ := Aside0.mk (below_step (by repeat (first | (with_reducible first | exact HB.out | apply below_alloc | apply pw_below_drewN | apply below_drew1) | exact HB.out)) hb); clear HB; have HB := n0_; clear n0_; (try clear hb); (try clear hb2); (try clear hk); (try clear hi)))
            go_ret
            exact ⟨by first | rfl | (simp [errW_none, errW_some] <;> rfl) | (simp [*, errW_none, errW_some] <;> rfl), by repeat (first | (with_reducible first | exact HB.out | apply below_alloc | apply pw_below_drewN | apply below_drew1) | exact HB.out)⟩
        · replace c9 := Bool.eq_false_iff.mpr c9
          subst c9
          have H1 : (some false) = some r := by rw [if_neg (show ¬ (false = true) by decide)] at H; exact H
          clear H
          have H := H1
          clear H1
          obtain rfl := Option.some.inj H
          go_wp2_with (first | ((with_reducible refine gate_callee (f := 19) rfl ?_); refine goesL_ (some 15) rfl rfl Try.func19 (by kernel_rfl) rfl #[.string a0] rfl (by (try simp only [List.map_toArray, List.map_cons, List.map_nil]); first | done | rfl | (simp only [List.length_drop, List.length_take]; rfl)) ?_; (with_reducible refine (utf_Mend.calls a0 t159 _ A7.out).mono ?_); rintro e w38 ⟨rfl, hb⟩; refine ⟨_, rfl, ?_⟩; have n0_ := Aside0.mk (below_step (by repeat (first | (with_reducible first | exact HB.out | apply below_alloc | apply pw_below_drewN | apply below_drew1) | exact HB.out)) hb); clear HB; have HB := n0_; clear n0_; (try clear hb); (try clear hb2); (try clear hk); (try clear hi)) | ((with_reducible refine gate_callee (f := 15) rfl ?_); refine goesL_ (some 17) rfl rfl Try.func15 (by kernel_rfl) rfl #[.string t159] rfl (by (try simp only [List.map_toArray, List.map_cons, List.map_nil]); first | done | rfl | (simp only [List.length_drop, List.length_take]; rfl)) ?_; (with_reducible refine (utf_Valid.calls kj2 t159 false _ A8.out).mono ?_); rintro e w39 ⟨rfl, hb⟩; refine ⟨_, rfl, ?_⟩; have n0_ := Aside0.mk (below_step (by repeat (first | (with_reducible first | exact HB.out | apply below_alloc | apply pw_below_drewN | apply below_drew1) | exact HB.out)) hb); clear HB; have HB := n0_; clear n0_; (try clear hb); (try clear hb2); (try clear hk); (try clear hi)))
          go_ret
          exact ⟨by first | rfl | (simp [errW_none, errW_some] <;> rfl) | (simp [*, errW_none, errW_some] <;> rfl), by repeat (first | (with_reducible first | exact HB.out | apply below_alloc | apply pw_below_drewN | apply below_drew1) | exact HB.out)⟩

/-- THE ONE PURE STATEMENT of stratumlaw03_UtfMends: yours. -/
def stratumlaw03_UtfMends.Pure : Prop := ∀ (a0 : ByteArray), a0.size ≤ 140737488351232 → ∃ k, stratumlaw03_UtfMends.f k a0 = some true
theorem stratumlaw03_UtfMends.walk (P : stratumlaw03_UtfMends.Pure) (a0 : ByteArray) (w : World) (w0 : a0.size ≤ 140737488351232) :
    Calls Try.prog 7 #[.string a0] w fun e w' => e = .returned (.bool true) ∧ Below w.heap.size w w' := by
  obtain ⟨k, h⟩ := P a0 w0
  refine (stratumlaw03_UtfMends.calls k a0 true w h).mono ?_
  rintro e w' ⟨rfl, hd⟩
  exact ⟨rfl, hd⟩

/-! ### stratumlaw03_UtfRises: function 8 -/
def stratumlaw03_UtfRises.j0 : Nat → Int → Int → Bool → Bool → Option (Bool)
  | 0, _, _, _, _ => none
  | k + 1, x0, x1, x5, x15 => if x15 = true then (some x5) else ((utf_Put.f x0).bind fun t167 => ((utf_Put.f x1).bind fun t168 => (if t167.toList = ([] : List UInt8) then (some true) else (if t168.toList = ([] : List UInt8) then (some true) else (if (Op.bytesLess t167.toList t168.toList) = true then (if (t168.size : Int) < (t167.size : Int) then (some true) else (if 0 ≤ (t167.size : Int) then (if (t167.size : Int) ≤ (t168.size : Int) then (some ((t168.extract 0 t167.size).toList != t167.toList)) else (none)) else (none))) else (some false))))))
def stratumlaw03_UtfRises.f (k : Nat) (a0 : Int) (a1 : Int) : Option (Bool) := (stratumlaw03_awake.f k).bind fun t166 => (if t166 = true then (stratumlaw03_UtfRises.j0 k a0 a1 t166 (decide (a0 ≥ a1))) else (stratumlaw03_UtfRises.j0 k a0 a1 t166 true))
theorem stratumlaw03_UtfRises.mono_l : ∀ k, (∀ y0 y1 y2 y3, LeO (stratumlaw03_UtfRises.j0 k y0 y1 y2 y3) (stratumlaw03_UtfRises.j0 (k + 1) y0 y1 y2 y3))
  | 0 => fun _ _ _ _ r h => by simp [stratumlaw03_UtfRises.j0] at h
  | k + 1 => by
    have ih0 := stratumlaw03_UtfRises.mono_l k
    · intro y0 y1 y2 y3
      unfold stratumlaw03_UtfRises.j0
      repeat' first
      | (with_reducible exact ih0 _ _ _ _)
      | (with_reducible exact stratumlaw03_awake.mono _)
      | (with_reducible exact LeO.refl _)
      | (with_reducible exact LeO.none _)
      | (with_reducible refine LeO.ite ?_ ?_)
      | (with_reducible refine LeO.bind ?_ (fun _ => ?_))
      | exact ih0 _ _ _ _
      | exact stratumlaw03_awake.mono _
      | exact LeO.none _
      | refine LeO.ite ?_ ?_
      | refine LeO.bind ?_ (fun _ => ?_)
theorem stratumlaw03_UtfRises.mono : ∀ a0 a1 k, LeO (stratumlaw03_UtfRises.f k a0 a1) (stratumlaw03_UtfRises.f (k + 1) a0 a1) := by
  intro a0 a1 k
  have ih0 := stratumlaw03_UtfRises.mono_l k
  unfold stratumlaw03_UtfRises.f
  repeat' first
      | (with_reducible exact ih0 _ _ _ _)
      | (with_reducible exact stratumlaw03_awake.mono _)
      | (with_reducible exact LeO.refl _)
      | (with_reducible exact LeO.none _)
      | (with_reducible refine LeO.ite ?_ ?_)
      | (with_reducible refine LeO.bind ?_ (fun _ => ?_))
      | exact ih0 _ _ _ _
      | exact stratumlaw03_awake.mono _
      | exact LeO.none _
      | refine LeO.ite ?_ ?_
      | refine LeO.bind ?_ (fun _ => ?_)
set_option maxHeartbeats 8000000 in
set_option maxRecDepth 100000 in
theorem stratumlaw03_UtfRises.calls (k : Nat) (a0 : Int) (a1 : Int) (r : Bool) (w : World) (h : stratumlaw03_UtfRises.f k a0 a1 = some r) :
    Calls Try.prog 8 #[.int .i64 a0, .int .i64 a1] w fun e w' => e = .returned (.bool r) ∧ Below w.heap.size w w' := by
  have HB := Aside0.mk (Below.refl w.heap.size w)
  have H : ((stratumlaw03_awake.f k).bind fun t166 => (if t166 = true then (stratumlaw03_UtfRises.j0 k a0 a1 t166 (decide (a0 ≥ a1))) else (stratumlaw03_UtfRises.j0 k a0 a1 t166 true))) = some r := h
  clear h
  replace H := Option.bind_eq_some_iff.mp H
  obtain ⟨t166, A30, H⟩ := H
  replace H : (if t166 = true then (stratumlaw03_UtfRises.j0 k a0 a1 t166 (decide (a0 ≥ a1))) else (stratumlaw03_UtfRises.j0 k a0 a1 t166 true)) = some r := H
  have A3 := Aside0.mk A30
  clear A30
  have HC4 := Aside0.mk H
  clear H
  go_enter Try.func8, Try.ntmps8
  go_upto_region 2 with (first | ((with_reducible refine gate_callee (f := 9) rfl ?_); refine goesL_ (some 8) rfl rfl Try.func9 (by kernel_rfl) rfl #[] rfl (by (try simp only [List.map_toArray, List.map_cons, List.map_nil]); first | done | rfl | (simp only [List.length_drop, List.length_take]; rfl)) ?_; (with_reducible refine (stratumlaw03_awake.calls k  t166 _ A3.out).mono ?_); rintro e w5 ⟨rfl, hb⟩; refine ⟨_, rfl, ?_⟩; have n0_ := Aside0.mk (below_step (by repeat (first | (with_reducible first | exact HB.out | apply below_alloc | apply pw_below_drewN | apply below_drew1) | exact HB.out)) hb); clear HB; have HB := n0_; clear n0_; (try clear hb); (try clear hb2); (try clear hk); (try clear hi)))
  (try simp only [Act.put, List.setIfInBounds_toArray, List.set_cons_zero, List.set_cons_succ])
  go_cut [15] (fun v15 wc => ∃ (kq : Nat) (x15_3 : Bool), v15 = .bool x15_3 ∧ Aside0 (stratumlaw03_UtfRises.j0 kq a0 a1 t166 x15_3 = some r) ∧ Aside0 (kq ≤ k) ∧ Aside0 (Below w.heap.size w wc))
  case first =>
    have H := HC4.out
    clear HC4
    by_cases c6 : t166 = true
    · subst c6
      have H1 : (stratumlaw03_UtfRises.j0 k a0 a1 true (decide (a0 ≥ a1))) = some r := by rw [if_pos rfl] at H; exact H
      clear H
      have H := H1
      clear H1
      have H' := Aside0.mk H
      clear H
      go_wp2
      go_meet
      case rel => exact ⟨_, (decide (a0 ≥ a1)), (by first | rfl | (simp; done) | (simp [*]; done)), H', ⟨by first | omega | exact Nat.le_refl _⟩, ⟨by repeat (first | (with_reducible first | exact HB.out | apply below_alloc | apply pw_below_drewN | apply below_drew1) | exact HB.out)⟩⟩
    · replace c6 := Bool.eq_false_iff.mpr c6
      subst c6
      have H1 : (stratumlaw03_UtfRises.j0 k a0 a1 false true) = some r := by rw [if_neg (show ¬ (false = true) by decide)] at H; exact H
      clear H
      have H := H1
      clear H1
      have H' := Aside0.mk H
      clear H
      go_wp2
      go_meet
      case rel => exact ⟨_, (true), (by first | rfl | (simp; done) | (simp [*]; done)), H', ⟨by first | omega | exact Nat.le_refl _⟩, ⟨by repeat (first | (with_reducible first | exact HB.out | apply below_alloc | apply pw_below_drewN | apply below_drew1) | exact HB.out)⟩⟩
  case rest =>
    clear HC4
    try clear p2
    try clear c6
    obtain ⟨kq, x15_3, rfl, HA, HJ3, HB⟩ := hcut
    cases kq with
    | zero => exact absurd HA.out (by simp [stratumlaw03_UtfRises.j0])
    | succ kj3 =>
      have H := HA.out
      clear HA
      simp only [stratumlaw03_UtfRises.j0] at H
      by_cases c7 : x15_3 = true
      · subst c7
        have H1 : (some t166) = some r := by rw [if_pos rfl] at H; exact H
        clear H
        have H := H1
        clear H1
        obtain rfl := Option.some.inj H
        go_wp2
        go_ret
        exact ⟨by first | rfl | (simp [errW_none, errW_some] <;> rfl) | (simp [*, errW_none, errW_some] <;> rfl), by repeat (first | (with_reducible first | exact HB.out | apply below_alloc | apply pw_below_drewN | apply below_drew1) | exact HB.out)⟩
      · replace c7 := Bool.eq_false_iff.mpr c7
        subst c7
        have H1 : ((utf_Put.f a0).bind fun t167 => ((utf_Put.f a1).bind fun t168 => (if t167.toList = ([] : List UInt8) then (some true) else (if t168.toList = ([] : List UInt8) then (some true) else (if (Op.bytesLess t167.toList t168.toList) = true then (if (t168.size : Int) < (t167.size : Int) then (some true) else (if 0 ≤ (t167.size : Int) then (if (t167.size : Int) ≤ (t168.size : Int) then (some ((t168.extract 0 t167.size).toList != t167.toList)) else (none)) else (none))) else (some false)))))) = some r := by rw [if_neg (show ¬ (false = true) by decide)] at H; exact H
        clear H
        have H := H1
        clear H1
        replace H := Option.bind_eq_some_iff.mp H
        obtain ⟨t167, A80, H⟩ := H
        replace H : ((utf_Put.f a1).bind fun t168 => (if t167.toList = ([] : List UInt8) then (some true) else (if t168.toList = ([] : List UInt8) then (some true) else (if (Op.bytesLess t167.toList t168.toList) = true then (if (t168.size : Int) < (t167.size : Int) then (some true) else (if 0 ≤ (t167.size : Int) then (if (t167.size : Int) ≤ (t168.size : Int) then (some ((t168.extract 0 t167.size).toList != t167.toList)) else (none)) else (none))) else (some false))))) = some r := H
        have A8 := Aside0.mk A80
        clear A80
        replace H := Option.bind_eq_some_iff.mp H
        obtain ⟨t168, A90, H⟩ := H
        replace H : (if t167.toList = ([] : List UInt8) then (some true) else (if t168.toList = ([] : List UInt8) then (some true) else (if (Op.bytesLess t167.toList t168.toList) = true then (if (t168.size : Int) < (t167.size : Int) then (some true) else (if 0 ≤ (t167.size : Int) then (if (t167.size : Int) ≤ (t168.size : Int) then (some ((t168.extract 0 t167.size).toList != t167.toList)) else (none)) else (none))) else (some false)))) = some r := H
        have A9 := Aside0.mk A90
        clear A90
        by_cases c10 : t167.toList = ([] : List UInt8)
        · rw [if_pos c10] at H
          have c10b0 : (t167.toList == ([] : List UInt8)) = true := beq_iff_eq.mpr c10
          have c10b1 : (t167.toList != ([] : List UInt8)) = false := bne_eq_false_iff_eq.mpr c10
          clear c10
          obtain rfl := Option.some.inj H
          go_wp2_with (first | ((with_reducible refine gate_callee (f := 21) rfl ?_); refine goesL_ (some 18) rfl rfl Try.func21 (by kernel_rfl) rfl #[.int .i64 a0] rfl (by (try simp only [List.map_toArray, List.map_cons, List.map_nil]); first | done | rfl | (simp only [List.length_drop, List.length_take]; rfl)) ?_; (with_reducible refine (utf_Put.calls a0 t167 _ A8.out).mono ?_); rintro e w11 ⟨rfl, hb⟩; refine ⟨_, rfl, ?_⟩; have n0_ := Aside0.mk (below_step (by repeat (first | (with_reducible first | exact HB.out | apply below_alloc | apply pw_below_drewN | apply below_drew1) | exact HB.out)) hb); clear HB; have HB := n0_; clear n0_; (try clear hb); (try clear hb2); (try clear hk); (try clear hi)) | ((with_reducible refine gate_callee (f := 21) rfl ?_); refine goesL_ (some 20) rfl rfl Try.func21 (by kernel_rfl) rfl #[.int .i64 a1] rfl (by (try simp only [List.map_toArray, List.map_cons, List.map_nil]); first | done | rfl | (simp only [List.length_drop, List.length_take]; rfl)) ?_; (with_reducible refine (utf_Put.calls a1 t168 _ A9.out).mono ?_); rintro e w12 ⟨rfl, hb⟩; refine ⟨_, rfl, ?_⟩; have n0_ := Aside0.mk (below_step (by repeat (first | (with_reducible first | exact HB.out | apply below_alloc | apply pw_below_drewN | apply below_drew1) | exact HB.out)) hb); clear HB; have HB := n0_; clear n0_; (try clear hb); (try clear hb2); (try clear hk); (try clear hi)))
          go_ret
          exact ⟨by first | rfl | (simp [errW_none, errW_some] <;> rfl) | (simp [*, errW_none, errW_some] <;> rfl), by repeat (first | (with_reducible first | exact HB.out | apply below_alloc | apply pw_below_drewN | apply below_drew1) | exact HB.out)⟩
        · rw [if_neg c10] at H
          have c10b0 : (t167.toList == ([] : List UInt8)) = false := beq_eq_false_iff_ne.mpr c10
          have c10b1 : (t167.toList != ([] : List UInt8)) = true := bne_iff_ne.mpr c10
          by_cases c13 : t168.toList = ([] : List UInt8)
          · rw [if_pos c13] at H
            have c13b0 : (t168.toList == ([] : List UInt8)) = true := beq_iff_eq.mpr c13
            have c13b1 : (t168.toList != ([] : List UInt8)) = false := bne_eq_false_iff_eq.mpr c13
            clear c13
            obtain rfl := Option.some.inj H
            go_wp2_with (first | ((with_reducible refine gate_callee (f := 21) rfl ?_); refine goesL_ (some 18) rfl rfl Try.func21 (by kernel_rfl) rfl #[.int .i64 a0] rfl (by (try simp only [List.map_toArray, List.map_cons, List.map_nil]); first | done | rfl | (simp only [List.length_drop, List.length_take]; rfl)) ?_; (with_reducible refine (utf_Put.calls a0 t167 _ A8.out).mono ?_); rintro e w14 ⟨rfl, hb⟩; refine ⟨_, rfl, ?_⟩; have n0_ := Aside0.mk (below_step (by repeat (first | (with_reducible first | exact HB.out | apply below_alloc | apply pw_below_drewN | apply below_drew1) | exact HB.out)) hb); clear HB; have HB := n0_; clear n0_; (try clear hb); (try clear hb2); (try clear hk); (try clear hi)) | ((with_reducible refine gate_callee (f := 21) rfl ?_); refine goesL_ (some 20) rfl rfl Try.func21 (by kernel_rfl) rfl #[.int .i64 a1] rfl (by (try simp only [List.map_toArray, List.map_cons, List.map_nil]); first | done | rfl | (simp only [List.length_drop, List.length_take]; rfl)) ?_; (with_reducible refine (utf_Put.calls a1 t168 _ A9.out).mono ?_); rintro e w15 ⟨rfl, hb⟩; refine ⟨_, rfl, ?_⟩; have n0_ := Aside0.mk (below_step (by repeat (first | (with_reducible first | exact HB.out | apply below_alloc | apply pw_below_drewN | apply below_drew1) | exact HB.out)) hb); clear HB; have HB := n0_; clear n0_; (try clear hb); (try clear hb2); (try clear hk); (try clear hi)))
            go_ret
            exact ⟨by first | rfl | (simp [errW_none, errW_some] <;> rfl) | (simp [*, errW_none, errW_some] <;> rfl), by repeat (first | (with_reducible first | exact HB.out | apply below_alloc | apply pw_below_drewN | apply below_drew1) | exact HB.out)⟩
          · rw [if_neg c13] at H
            have c13b0 : (t168.toList == ([] : List UInt8)) = false := beq_eq_false_iff_ne.mpr c13
            have c13b1 : (t168.toList != ([] : List UInt8)) = true := bne_iff_ne.mpr c13
            by_cases c16 : (Op.bytesLess t167.toList t168.toList) = true
            · rw [if_pos c16] at H
              have c16b0 : (Op.bytesLess t167.toList t168.toList) = true := c16
              clear c16
              by_cases c17 : (t168.size : Int) < (t167.size : Int)
              · rw [if_pos c17] at H
                have c17b0 : decide ((t168.size : Int) < (t167.size : Int)) = true := decide_eq_true c17
                have c17b1 : decide (t168.size < t167.size) = true := decide_eq_true (Int.ofNat_lt.mp c17)
                clear c17
                obtain rfl := Option.some.inj H
                go_wp2_with (first | ((with_reducible refine gate_callee (f := 21) rfl ?_); refine goesL_ (some 18) rfl rfl Try.func21 (by kernel_rfl) rfl #[.int .i64 a0] rfl (by (try simp only [List.map_toArray, List.map_cons, List.map_nil]); first | done | rfl | (simp only [List.length_drop, List.length_take]; rfl)) ?_; (with_reducible refine (utf_Put.calls a0 t167 _ A8.out).mono ?_); rintro e w18 ⟨rfl, hb⟩; refine ⟨_, rfl, ?_⟩; have n0_ := Aside0.mk (below_step (by repeat (first | (with_reducible first | exact HB.out | apply below_alloc | apply pw_below_drewN | apply below_drew1) | exact HB.out)) hb); clear HB; have HB := n0_; clear n0_; (try clear hb); (try clear hb2); (try clear hk); (try clear hi)) | ((with_reducible refine gate_callee (f := 21) rfl ?_); refine goesL_ (some 20) rfl rfl Try.func21 (by kernel_rfl) rfl #[.int .i64 a1] rfl (by (try simp only [List.map_toArray, List.map_cons, List.map_nil]); first | done | rfl | (simp only [List.length_drop, List.length_take]; rfl)) ?_; (with_reducible refine (utf_Put.calls a1 t168 _ A9.out).mono ?_); rintro e w19 ⟨rfl, hb⟩; refine ⟨_, rfl, ?_⟩; have n0_ := Aside0.mk (below_step (by repeat (first | (with_reducible first | exact HB.out | apply below_alloc | apply pw_below_drewN | apply below_drew1) | exact HB.out)) hb); clear HB; have HB := n0_; clear n0_; (try clear hb); (try clear hb2); (try clear hk); (try clear hi)))
                go_ret
                exact ⟨by first | rfl | (simp [errW_none, errW_some] <;> rfl) | (simp [*, errW_none, errW_some] <;> rfl), by repeat (first | (with_reducible first | exact HB.out | apply below_alloc | apply pw_below_drewN | apply below_drew1) | exact HB.out)⟩
              · rw [if_neg c17] at H
                have c17b0 : decide ((t168.size : Int) < (t167.size : Int)) = false := decide_eq_false c17
                have c17b1 : decide (t168.size < t167.size) = false := decide_eq_false (fun h => c17 (Int.ofNat_lt.mpr h))
                clear c17
                by_cases c20 : 0 ≤ (t167.size : Int)
                · rw [if_pos c20] at H
                  have c20b0 := eq_true c20
                  have c20b1 : decide (0 ≤ (t167.size : Int)) = true := decide_eq_true c20
                  clear c20
                  by_cases c21 : (t167.size : Int) ≤ (t168.size : Int)
                  · rw [if_pos c21] at H
                    have c21b0 := eq_true c21
                    have c21b1 : decide ((t167.size : Int) ≤ (t168.size : Int)) = true := decide_eq_true c21
                    clear c21
                    obtain rfl := Option.some.inj H
                    go_wp2_with (first | ((with_reducible refine gate_callee (f := 21) rfl ?_); refine goesL_ (some 18) rfl rfl Try.func21 (by kernel_rfl) rfl #[.int .i64 a0] rfl (by (try simp only [List.map_toArray, List.map_cons, List.map_nil]); first | done | rfl | (simp only [List.length_drop, List.length_take]; rfl)) ?_; (with_reducible refine (utf_Put.calls a0 t167 _ A8.out).mono ?_); rintro e w22 ⟨rfl, hb⟩; refine ⟨_, rfl, ?_⟩; have n0_ := Aside0.mk (below_step (by repeat (first | (with_reducible first | exact HB.out | apply below_alloc | apply pw_below_drewN | apply below_drew1) | exact HB.out)) hb); clear HB; have HB := n0_; clear n0_; (try clear hb); (try clear hb2); (try clear hk); (try clear hi)) | ((with_reducible refine gate_callee (f := 21) rfl ?_); refine goesL_ (some 20) rfl rfl Try.func21 (by kernel_rfl) rfl #[.int .i64 a1] rfl (by (try simp only [List.map_toArray, List.map_cons, List.map_nil]); first | done | rfl | (simp only [List.length_drop, List.length_take]; rfl)) ?_; (with_reducible refine (utf_Put.calls a1 t168 _ A9.out).mono ?_); rintro e w23 ⟨rfl, hb⟩; refine ⟨_, rfl, ?_⟩; have n0_ := Aside0.mk (below_step (by repeat (first | (with_reducible first | exact HB.out | apply below_alloc | apply pw_below_drewN | apply below_drew1) | exact HB.out)) hb); clear HB; have HB := n0_; clear n0_; (try clear hb); (try clear hb2); (try clear hk); (try clear hi)))
                    go_ret
                    exact ⟨by first | rfl | (simp [errW_none, errW_some] <;> rfl) | (simp [*, errW_none, errW_some] <;> rfl), by repeat (first | (with_reducible first | exact HB.out | apply below_alloc | apply pw_below_drewN | apply below_drew1) | exact HB.out)⟩
                  · rw [if_neg c21] at H
                    exact absurd H (by simp)
                · rw [if_neg c20] at H
                  exact absurd H (by simp)
            · rw [if_neg c16] at H
              have c16b0 : (Op.bytesLess t167.toList t168.toList) = false := by simpa using c16
              clear c16
              obtain rfl := Option.some.inj H
              go_wp2_with (first | ((with_reducible refine gate_callee (f := 21) rfl ?_); refine goesL_ (some 18) rfl rfl Try.func21 (by kernel_rfl) rfl #[.int .i64 a0] rfl (by (try simp only [List.map_toArray, List.map_cons, List.map_nil]); first | done | rfl | (simp only [List.length_drop, List.length_take]; rfl)) ?_; (with_reducible refine (utf_Put.calls a0 t167 _ A8.out).mono ?_); rintro e w24 ⟨rfl, hb⟩; refine ⟨_, rfl, ?_⟩; have n0_ := Aside0.mk (below_step (by repeat (first | (with_reducible first | exact HB.out | apply below_alloc | apply pw_below_drewN | apply below_drew1) | exact HB.out)) hb); clear HB; have HB := n0_; clear n0_; (try clear hb); (try clear hb2); (try clear hk); (try clear hi)) | ((with_reducible refine gate_callee (f := 21) rfl ?_); refine goesL_ (some 20) rfl rfl Try.func21 (by kernel_rfl) rfl #[.int .i64 a1] rfl (by (try simp only [List.map_toArray, List.map_cons, List.map_nil]); first | done | rfl | (simp only [List.length_drop, List.length_take]; rfl)) ?_; (with_reducible refine (utf_Put.calls a1 t168 _ A9.out).mono ?_); rintro e w25 ⟨rfl, hb⟩; refine ⟨_, rfl, ?_⟩; have n0_ := Aside0.mk (below_step (by repeat (first | (with_reducible first | exact HB.out | apply below_alloc | apply pw_below_drewN | apply below_drew1) | exact HB.out)) hb); clear HB; have HB := n0_; clear n0_; (try clear hb); (try clear hb2); (try clear hk); (try clear hi)))
              go_ret
              exact ⟨by first | rfl | (simp [errW_none, errW_some] <;> rfl) | (simp [*, errW_none, errW_some] <;> rfl), by repeat (first | (with_reducible first | exact HB.out | apply below_alloc | apply pw_below_drewN | apply below_drew1) | exact HB.out)⟩

/-- THE ONE PURE STATEMENT of stratumlaw03_UtfRises: yours. -/
def stratumlaw03_UtfRises.Pure : Prop := ∀ (a0 : Int) (a1 : Int), (Lit.int .i64 a0).wf = true → (Lit.int .i64 a1).wf = true → ∃ k, stratumlaw03_UtfRises.f k a0 a1 = some true
theorem stratumlaw03_UtfRises.walk (P : stratumlaw03_UtfRises.Pure) (a0 : Int) (a1 : Int) (w : World) (w0 : (Lit.int .i64 a0).wf = true) (w1 : (Lit.int .i64 a1).wf = true) :
    Calls Try.prog 8 #[.int .i64 a0, .int .i64 a1] w fun e w' => e = .returned (.bool true) ∧ Below w.heap.size w w' := by
  obtain ⟨k, h⟩ := P a0 a1 w0 w1
  refine (stratumlaw03_UtfRises.calls k a0 a1 true w h).mono ?_
  rintro e w' ⟨rfl, hd⟩
  exact ⟨rfl, hd⟩

end Go.Proofs.Ytjplkgkkokcgjaa.X
