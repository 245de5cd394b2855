/- The machine's side of the laws of this seat: for each Go function a Lean function of lists and numbers, and that the call answers what it answers. No condition but those in the theorems. -/
import Derived.Test.YthgkemkcepkkcaaX0
import Derived.Test.YthgkemkcepkkcaaX1
import Derived.Test.YthgkemkcepkkcaaX2
namespace Go.Proofs.Ythgkemkcepkkcaa.X
open Go.RowKit Go.Proofs.YthgkemkcepkkcaaW.PrintWords Go.Proofs.YthgkemkcepkkcaaW.PrintLast Go.Proofs.YthgkemkcepkkcaaW.PrintMore
attribute [local go_sem] max2_int min2_int max_two min_two max_three min_three max_four min_four   -- for this text's walks alone
set_option linter.unusedVariables false
set_option linter.unusedSimpArgs false

/-! ### stratumlaw07_PartReps: function 7 -/
mutual
def stratumlaw07_PartReps.j0 : Nat → ByteArray → Int → Int → ByteArray → Int → ByteArray → Int → Bool → Option (Bool)
  | 0, _, _, _, _, _, _, _, _ => none
  | k + 1, x0, x1, x2, x7, x8, x9, x10, x11 => if ((x8 == 0) != x11) = true then (stratumlaw07_PartReps.j1 k x0 x1 x2 x7 x8 x9 x10 true) else (if x8 = 0 then (stratumlaw07_PartReps.j1 k x0 x1 x2 x7 x8 x9 x10 false) else (if x8 = 2 then (stratumlaw07_PartReps.j1 k x0 x1 x2 x7 x8 x9 x10 (x7.toList != ([] : List UInt8))) else (stratumlaw07_PartReps.j1 k x0 x1 x2 x7 x8 x9 x10 true)))
def stratumlaw07_PartReps.j1 : Nat → ByteArray → Int → Int → ByteArray → Int → ByteArray → Int → Bool → Option (Bool)
  | 0, _, _, _, _, _, _, _, _ => none
  | k + 1, x0, x1, x2, x7, x8, x9, x10, x61 => if x61 = true then (some false) else (if x8 = 0 then (stratumlaw07_PartReps.j2 k x0 x1 x2 x7 x9 (x10 != 0)) else (stratumlaw07_PartReps.j2 k x0 x1 x2 x7 x9 true))
def stratumlaw07_PartReps.j2 : Nat → ByteArray → Int → Int → ByteArray → ByteArray → Bool → Option (Bool)
  | 0, _, _, _, _, _, _ => none
  | k + 1, x0, x1, x2, x7, x9, x67 => if x67 = true then (some true) else ((part_Rep.f k x0 (IntKind.u64.wrap (x1 + x2))).bind fun bt185 => (if (wrap64 ((x7.size : Int) + (x9.size : Int))) > 4096 then (if bt185.2 = 2 then (some (bt185.1.toList == ([] : List UInt8))) else (some false)) else (if bt185.2 = 0 then (if x7.size + x9.size ≤ 9223372036854775807 then (if bt185.1.toList = (x7 ++ x9).toList then (some true) else (if x0.toList = ([] : List UInt8) then (some (bt185.1.toList == ([] : List UInt8))) else (some false))) else (none)) else (if x0.toList = ([] : List UInt8) then (some (bt185.1.toList == ([] : List UInt8))) else (some false)))))
end
def stratumlaw07_PartReps.f (k : Nat) (a0 : ByteArray) (a1 : Int) (a2 : Int) (lG : List Int) : Option (Bool) := (stratumlaw07_awake.f k lG).bind fun t180 => (if t180 = true then ((part_Rep.f k a0 a1).bind fun bt181 => ((part_Rep.f k a0 a2).bind fun bt183 => (if a0.toList = ([] : List UInt8) then (stratumlaw07_PartReps.j0 k a0 a1 a2 bt181.1 bt181.2 bt183.1 bt183.2 true) else (if a1 = 0 then (stratumlaw07_PartReps.j0 k a0 a1 a2 bt181.1 bt181.2 bt183.1 bt183.2 true) else (if a1 ≤ 4096 then (stratumlaw07_PartReps.j0 k a0 a1 a2 bt181.1 bt181.2 bt183.1 bt183.2 (decide ((IntKind.u64.wrap ((a0.size : Int))) ≤ (IntKind.u64.wrap ((4096 : Int) / a1))))) else (stratumlaw07_PartReps.j0 k a0 a1 a2 bt181.1 bt181.2 bt183.1 bt183.2 false)))))) else (some false))
theorem stratumlaw07_PartReps.mono_l : ∀ k, (∀ y0 y1 y2 y3 y4 y5 y6 y7, LeO (stratumlaw07_PartReps.j0 k y0 y1 y2 y3 y4 y5 y6 y7) (stratumlaw07_PartReps.j0 (k + 1) y0 y1 y2 y3 y4 y5 y6 y7)) ∧ (∀ y0 y1 y2 y3 y4 y5 y6 y7, LeO (stratumlaw07_PartReps.j1 k y0 y1 y2 y3 y4 y5 y6 y7) (stratumlaw07_PartReps.j1 (k + 1) y0 y1 y2 y3 y4 y5 y6 y7)) ∧ (∀ y0 y1 y2 y3 y4 y5, LeO (stratumlaw07_PartReps.j2 k y0 y1 y2 y3 y4 y5) (stratumlaw07_PartReps.j2 (k + 1) y0 y1 y2 y3 y4 y5))
  | 0 => ⟨fun _ _ _ _ _ _ _ _ r h => by simp [stratumlaw07_PartReps.j0] at h, fun _ _ _ _ _ _ _ _ r h => by simp [stratumlaw07_PartReps.j1] at h, fun _ _ _ _ _ _ r h => by simp [stratumlaw07_PartReps.j2] at h⟩
  | k + 1 => by
    obtain ⟨ih0, ih1, ih2⟩ := stratumlaw07_PartReps.mono_l k
    refine ⟨?_, ?_, ?_⟩
    · intro y0 y1 y2 y3 y4 y5 y6 y7
      unfold stratumlaw07_PartReps.j0
      repeat' first
      | (with_reducible exact ih0 _ _ _ _ _ _ _ _)
      | (with_reducible exact ih1 _ _ _ _ _ _ _ _)
      | (with_reducible exact ih2 _ _ _ _ _ _)
      | (with_reducible exact part_Rep.mono _ _ _)
      | (with_reducible exact stratumlaw07_awake.mono _ _)
      | (with_reducible exact LeO.refl _)
      | (with_reducible exact LeO.none _)
      | (with_reducible refine LeO.ite ?_ ?_)
      | (with_reducible refine LeO.bind ?_ (fun _ => ?_))
      | exact ih0 _ _ _ _ _ _ _ _
      | exact ih1 _ _ _ _ _ _ _ _
      | exact ih2 _ _ _ _ _ _
      | exact part_Rep.mono _ _ _
      | exact stratumlaw07_awake.mono _ _
      | exact LeO.none _
      | refine LeO.ite ?_ ?_
      | refine LeO.bind ?_ (fun _ => ?_)
    · intro y0 y1 y2 y3 y4 y5 y6 y7
      unfold stratumlaw07_PartReps.j1
      repeat' first
      | (with_reducible exact ih0 _ _ _ _ _ _ _ _)
      | (with_reducible exact ih1 _ _ _ _ _ _ _ _)
      | (with_reducible exact ih2 _ _ _ _ _ _)
      | (with_reducible exact part_Rep.mono _ _ _)
      | (with_reducible exact stratumlaw07_awake.mono _ _)
      | (with_reducible exact LeO.refl _)
      | (with_reducible exact LeO.none _)
      | (with_reducible refine LeO.ite ?_ ?_)
      | (with_reducible refine LeO.bind ?_ (fun _ => ?_))
      | exact ih0 _ _ _ _ _ _ _ _
      | exact ih1 _ _ _ _ _ _ _ _
      | exact ih2 _ _ _ _ _ _
      | exact part_Rep.mono _ _ _
      | exact stratumlaw07_awake.mono _ _
      | exact LeO.none _
      | refine LeO.ite ?_ ?_
      | refine LeO.bind ?_ (fun _ => ?_)
    · intro y0 y1 y2 y3 y4 y5
      unfold stratumlaw07_PartReps.j2
      repeat' first
      | (with_reducible exact ih0 _ _ _ _ _ _ _ _)
      | (with_reducible exact ih1 _ _ _ _ _ _ _ _)
      | (with_reducible exact ih2 _ _ _ _ _ _)
      | (with_reducible exact part_Rep.mono _ _ _)
      | (with_reducible exact stratumlaw07_awake.mono _ _)
      | (with_reducible exact LeO.refl _)
      | (with_reducible exact LeO.none _)
      | (with_reducible refine LeO.ite ?_ ?_)
      | (with_reducible refine LeO.bind ?_ (fun _ => ?_))
      | exact ih0 _ _ _ _ _ _ _ _
      | exact ih1 _ _ _ _ _ _ _ _
      | exact ih2 _ _ _ _ _ _
      | exact part_Rep.mono _ _ _
      | exact stratumlaw07_awake.mono _ _
      | exact LeO.none _
      | refine LeO.ite ?_ ?_
      | refine LeO.bind ?_ (fun _ => ?_)
theorem stratumlaw07_PartReps.mono : ∀ a0 a1 a2 a3 k, LeO (stratumlaw07_PartReps.f k a0 a1 a2 a3) (stratumlaw07_PartReps.f (k + 1) a0 a1 a2 a3) := by
  intro a0 a1 a2 a3 k
  obtain ⟨ih0, ih1, ih2⟩ := stratumlaw07_PartReps.mono_l k
  unfold stratumlaw07_PartReps.f
  repeat' first
      | (with_reducible exact ih0 _ _ _ _ _ _ _ _)
      | (with_reducible exact ih1 _ _ _ _ _ _ _ _)
      | (with_reducible exact ih2 _ _ _ _ _ _)
      | (with_reducible exact part_Rep.mono _ _ _)
      | (with_reducible exact stratumlaw07_awake.mono _ _)
      | (with_reducible exact LeO.refl _)
      | (with_reducible exact LeO.none _)
      | (with_reducible refine LeO.ite ?_ ?_)
      | (with_reducible refine LeO.bind ?_ (fun _ => ?_))
      | exact ih0 _ _ _ _ _ _ _ _
      | exact ih1 _ _ _ _ _ _ _ _
      | exact ih2 _ _ _ _ _ _
      | exact part_Rep.mono _ _ _
      | exact stratumlaw07_awake.mono _ _
      | exact LeO.none _
      | refine LeO.ite ?_ ?_
      | refine LeO.bind ?_ (fun _ => ?_)
set_option maxHeartbeats 8000000 in
set_option maxRecDepth 100000 in
theorem stratumlaw07_PartReps.calls (k : Nat) (a0 : ByteArray) (a1 : Int) (a2 : Int) (lG : List Int) (r : Bool) (w : World) (hrG : Kd.C (Kd.int .i64) w (some ⟨0, 0, none⟩) lG.length lG) (hcG : lG.length ≤ 1) (h : stratumlaw07_PartReps.f k a0 a1 a2 lG = some r) :
    Calls Try.prog 7 #[.string a0, .int .u64 a1, .int .u64 a2] w fun e w' => e = .returned (.bool r) ∧ Below w.heap.size w w' := by
  have HRG := Aside0.mk hrG
  have HCG := Aside0.mk hcG
  clear hrG hcG
  have HB := Aside0.mk (Below.refl w.heap.size w)
  have H : ((stratumlaw07_awake.f k lG).bind fun t180 => (if t180 = true then ((part_Rep.f k a0 a1).bind fun bt181 => ((part_Rep.f k a0 a2).bind fun bt183 => (if a0.toList = ([] : List UInt8) then (stratumlaw07_PartReps.j0 k a0 a1 a2 bt181.1 bt181.2 bt183.1 bt183.2 true) else (if a1 = 0 then (stratumlaw07_PartReps.j0 k a0 a1 a2 bt181.1 bt181.2 bt183.1 bt183.2 true) else (if a1 ≤ 4096 then (stratumlaw07_PartReps.j0 k a0 a1 a2 bt181.1 bt181.2 bt183.1 bt183.2 (decide ((IntKind.u64.wrap ((a0.size : Int))) ≤ (IntKind.u64.wrap ((4096 : Int) / a1))))) else (stratumlaw07_PartReps.j0 k a0 a1 a2 bt181.1 bt181.2 bt183.1 bt183.2 false)))))) else (some false))) = some r := h
  clear h
  replace H := Option.bind_eq_some_iff.mp H
  obtain ⟨t180, A50, H⟩ := H
  replace H : (if t180 = true then ((part_Rep.f k a0 a1).bind fun bt181 => ((part_Rep.f k a0 a2).bind fun bt183 => (if a0.toList = ([] : List UInt8) then (stratumlaw07_PartReps.j0 k a0 a1 a2 bt181.1 bt181.2 bt183.1 bt183.2 true) else (if a1 = 0 then (stratumlaw07_PartReps.j0 k a0 a1 a2 bt181.1 bt181.2 bt183.1 bt183.2 true) else (if a1 ≤ 4096 then (stratumlaw07_PartReps.j0 k a0 a1 a2 bt181.1 bt181.2 bt183.1 bt183.2 (decide ((IntKind.u64.wrap ((a0.size : Int))) ≤ (IntKind.u64.wrap ((4096 : Int) / a1))))) else (stratumlaw07_PartReps.j0 k a0 a1 a2 bt181.1 bt181.2 bt183.1 bt183.2 false)))))) else (some false)) = some r := H
  have A5 := Aside0.mk A50
  clear A50
  by_cases c6 : t180 = true
  · subst c6
    have H1 : ((part_Rep.f k a0 a1).bind fun bt181 => ((part_Rep.f k a0 a2).bind fun bt183 => (if a0.toList = ([] : List UInt8) then (stratumlaw07_PartReps.j0 k a0 a1 a2 bt181.1 bt181.2 bt183.1 bt183.2 true) else (if a1 = 0 then (stratumlaw07_PartReps.j0 k a0 a1 a2 bt181.1 bt181.2 bt183.1 bt183.2 true) else (if a1 ≤ 4096 then (stratumlaw07_PartReps.j0 k a0 a1 a2 bt181.1 bt181.2 bt183.1 bt183.2 (decide ((IntKind.u64.wrap ((a0.size : Int))) ≤ (IntKind.u64.wrap ((4096 : Int) / a1))))) else (stratumlaw07_PartReps.j0 k a0 a1 a2 bt181.1 bt181.2 bt183.1 bt183.2 false)))))) = some r := by rw [if_pos rfl] at H; exact H
    clear H
    have H := H1
    clear H1
    replace H := Option.bind_eq_some_iff.mp H
    obtain ⟨⟨t181, t182⟩, A70, H⟩ := H
    replace H : ((part_Rep.f k a0 a2).bind fun bt183 => (if a0.toList = ([] : List UInt8) then (stratumlaw07_PartReps.j0 k a0 a1 a2 t181 t182 bt183.1 bt183.2 true) else (if a1 = 0 then (stratumlaw07_PartReps.j0 k a0 a1 a2 t181 t182 bt183.1 bt183.2 true) else (if a1 ≤ 4096 then (stratumlaw07_PartReps.j0 k a0 a1 a2 t181 t182 bt183.1 bt183.2 (decide ((IntKind.u64.wrap ((a0.size : Int))) ≤ (IntKind.u64.wrap ((4096 : Int) / a1))))) else (stratumlaw07_PartReps.j0 k a0 a1 a2 t181 t182 bt183.1 bt183.2 false))))) = some r := H
    have A7 := Aside0.mk A70
    clear A70
    replace H := Option.bind_eq_some_iff.mp H
    obtain ⟨⟨t183, t184⟩, A80, H⟩ := H
    replace H : (if a0.toList = ([] : List UInt8) then (stratumlaw07_PartReps.j0 k a0 a1 a2 t181 t182 t183 t184 true) else (if a1 = 0 then (stratumlaw07_PartReps.j0 k a0 a1 a2 t181 t182 t183 t184 true) else (if a1 ≤ 4096 then (stratumlaw07_PartReps.j0 k a0 a1 a2 t181 t182 t183 t184 (decide ((IntKind.u64.wrap ((a0.size : Int))) ≤ (IntKind.u64.wrap ((4096 : Int) / a1))))) else (stratumlaw07_PartReps.j0 k a0 a1 a2 t181 t182 t183 t184 false)))) = some r := H
    have A8 := Aside0.mk A80
    clear A80
    have HC9 := Aside0.mk H
    clear H
    go_enter Try.func7, Try.ntmps7
    go_upto_region 5 with (first | ((with_reducible refine gate_callee (f := 9) rfl ?_); refine goesL_ (some 14) rfl rfl Try.func9 (by kernel_rfl) rfl #[] rfl (by (try simp only [List.map_toArray, List.map_cons, List.map_nil]); first | done | rfl | (simp only [List.length_drop, List.length_take]; rfl)) ?_; (with_reducible refine (stratumlaw07_awake.calls k lG true _ ?side1 ?side2 A5.out).mono ?_); (case side1 => repeat (first | exact HRG.out | (with_reducible refine Kd.C_alloc ?_ _) | (with_reducible refine Kd.C_drewN ?_ _) | (with_reducible refine Kd.C_drew ?_))); (case side2 => exact HCG.out); rintro e w10 ⟨rfl, hb⟩; refine ⟨_, rfl, ?_⟩; have n0_ := Aside0.mk (below_step (by repeat (first | (with_reducible first | exact HB.out | apply below_alloc | apply pw_below_drewN | apply below_drew1) | exact HB.out)) hb); clear HB; have HB := n0_; clear n0_; (try clear hb); (try clear hb2); (try clear hk); (try clear hi)) | ((with_reducible refine gate_callee (f := 18) rfl ?_); refine goesL_ (some 19) rfl rfl Try.func18 (by kernel_rfl) rfl #[.string a0, .int .u64 a1] rfl (by (try simp only [List.map_toArray, List.map_cons, List.map_nil]); first | done | rfl | (simp only [List.length_drop, List.length_take]; rfl)) ?_; (with_reducible refine (part_Rep.calls k a0 a1 t181 t182 _ A7.out).mono ?_); rintro e w11 ⟨rfl, hb⟩; refine ⟨_, rfl, ?_⟩; have n0_ := Aside0.mk (below_step (by repeat (first | (with_reducible first | exact HB.out | apply below_alloc | apply pw_below_drewN | apply below_drew1) | exact HB.out)) hb); clear HB; have HB := n0_; clear n0_; (try clear hb); (try clear hb2); (try clear hk); (try clear hi)) | ((with_reducible refine gate_callee (f := 18) rfl ?_); refine goesL_ (some 25) rfl rfl Try.func18 (by kernel_rfl) rfl #[.string a0, .int .u64 a2] rfl (by (try simp only [List.map_toArray, List.map_cons, List.map_nil]); first | done | rfl | (simp only [List.length_drop, List.length_take]; rfl)) ?_; (with_reducible refine (part_Rep.calls k a0 a2 t183 t184 _ A8.out).mono ?_); rintro e w12 ⟨rfl, hb⟩; refine ⟨_, rfl, ?_⟩; have n0_ := Aside0.mk (below_step (by repeat (first | (with_reducible first | exact HB.out | apply below_alloc | apply pw_below_drewN | apply below_drew1) | exact HB.out)) hb); clear HB; have HB := n0_; clear n0_; (try clear hb); (try clear hb2); (try clear hk); (try clear hi)))
    (try simp only [Act.put, List.setIfInBounds_toArray, List.set_cons_zero, List.set_cons_succ])
    go_cut [11] (fun v11 wc => ∃ (kq : Nat) (x11_8 : Bool), v11 = .bool x11_8 ∧ Aside0 (stratumlaw07_PartReps.j0 kq a0 a1 a2 t181 t182 t183 t184 x11_8 = some r) ∧ Aside0 (kq ≤ k) ∧ Aside0 (Below w.heap.size w wc))
    case first =>
      have H := HC9.out
      clear HC9
      by_cases c13 : a0.toList = ([] : List UInt8)
      · rw [if_pos c13] at H
        have c13b0 : (a0.toList == ([] : List UInt8)) = true := beq_iff_eq.mpr c13
        have c13b1 : (a0.toList != ([] : List UInt8)) = false := bne_eq_false_iff_eq.mpr c13
        clear c13
        (first | rw [c13b0] | (simp only [i64_w, i32_w]; rw [c13b0]) | skip)
        have H' := Aside0.mk H
        clear H
        go_wp2
        go_meet
        case rel => exact ⟨_, (true), (by first | rfl | (simp; done) | (simp [*]; done) | (simp_all; done) | (simp_all; exact isE_ _) | (simp [*]; exact isE_ _)), H', ⟨by first | omega | exact Nat.le_refl _⟩, ⟨by repeat (first | (with_reducible first | exact HB.out | apply below_alloc | apply pw_below_drewN | apply below_drew1) | exact HB.out)⟩⟩
      · rw [if_neg c13] at H
        have c13b0 : (a0.toList == ([] : List UInt8)) = false := beq_eq_false_iff_ne.mpr c13
        have c13b1 : (a0.toList != ([] : List UInt8)) = true := bne_iff_ne.mpr c13
        (first | rw [c13b0] | (simp only [i64_w, i32_w]; rw [c13b0]) | skip)
        by_cases c14 : a1 = 0
        · rw [if_pos c14] at H
          have c14b0 : (a1 == 0) = true := beq_iff_eq.mpr c14
          have c14b1 : (a1 != 0) = false := bne_eq_false_iff_eq.mpr c14
          clear c14
          have H' := Aside0.mk H
          clear H
          go_wp2
          go_meet
          case rel => exact ⟨_, (true), (by first | rfl | (simp; done) | (simp [*]; done) | (simp_all; done) | (simp_all; exact isE_ _) | (simp [*]; exact isE_ _)), H', ⟨by first | omega | exact Nat.le_refl _⟩, ⟨by repeat (first | (with_reducible first | exact HB.out | apply below_alloc | apply pw_below_drewN | apply below_drew1) | exact HB.out)⟩⟩
        · rw [if_neg c14] at H
          have c14b0 : (a1 == 0) = false := beq_eq_false_iff_ne.mpr c14
          have c14b1 : (a1 != 0) = true := bne_iff_ne.mpr c14
          by_cases c15 : a1 ≤ 4096
          · rw [if_pos c15] at H
            have c15b0 : decide (a1 ≤ 4096) = true := decide_eq_true c15
            clear c15
            have H' := Aside0.mk H
            clear H
            go_wp2
            go_meet
            case rel => exact ⟨_, (decide ((IntKind.u64.wrap ((a0.size : Int))) ≤ (IntKind.u64.wrap ((4096 : Int) / a1)))), (by first | rfl | (simp; done) | (simp [*]; done) | (simp [w64_div26, w64_div12, u64_w64, tdiv12]; done)), H', ⟨by first | omega | exact Nat.le_refl _⟩, ⟨by repeat (first | (with_reducible first | exact HB.out | apply below_alloc | apply pw_below_drewN | apply below_drew1) | exact HB.out)⟩⟩
          · rw [if_neg c15] at H
            have c15b0 : decide (a1 ≤ 4096) = false := decide_eq_false c15
            clear c15
            have H' := Aside0.mk H
            clear H
            go_wp2
            go_meet
            case rel => exact ⟨_, (false), (by first | rfl | (simp; done) | (simp [*]; done) | (simp_all; done) | (simp_all; exact isE_ _) | (simp [*]; exact isE_ _)), H', ⟨by first | omega | exact Nat.le_refl _⟩, ⟨by repeat (first | (with_reducible first | exact HB.out | apply below_alloc | apply pw_below_drewN | apply below_drew1) | exact HB.out)⟩⟩
    case rest =>
      clear HC9
      try clear c1
      try clear p2
      try clear c6
      try clear c7
      try clear c9
      try clear c13
      try clear c13b0
      try clear c13b1
      try clear c14
      try clear c14b0
      try clear c14b1
      try clear c15
      try clear c15b0
      obtain ⟨kq, x11_8, rfl, HA, HJ8, HB⟩ := hcut
      cases kq with
      | zero => exact absurd HA.out (by simp [stratumlaw07_PartReps.j0])
      | succ kj8 =>
        have H := HA.out
        clear HA
        simp only [stratumlaw07_PartReps.j0] at H
        have HC16 := Aside0.mk H
        clear H
        go_upto_region 6 with (fail)
        go_cut [61] (fun v61 wc => ∃ (kq : Nat) (x61_15 : Bool), v61 = .bool x61_15 ∧ Aside0 (stratumlaw07_PartReps.j1 kq a0 a1 a2 t181 t182 t183 t184 x61_15 = some r) ∧ Aside0 (kq ≤ kj8) ∧ Aside0 (Below w.heap.size w wc))
        case first =>
          have H := HC16.out
          clear HC16
          rcases Bool.eq_false_or_eq_true x11_8 with hb_ | hb_
          · subst hb_
            by_cases c17 : ((t182 == 0) != true) = true
            · rw [if_pos c17] at H
              have c17b0 : ((t182 == 0) != true) = true := c17
              (try (have c17b1 : decide ((t182 == 0) = true) = false := by simpa using c17))
              (try (have c17b2 : ((t182 == 0) == true) = false := by simpa using c17))
              (try (have c17b3 : ¬ ((t182 == 0) = true) := by simpa using c17))
              clear c17
              (first | rw [c17b0] | (simp only [i64_w, i32_w]; rw [c17b0]) | skip)
              have H' := Aside0.mk H
              clear H
              go_wp2
              go_meet
              case rel => exact ⟨_, (true), (by first | rfl | (simp; done) | (simp [*]; done) | (simp_all; done) | (simp_all; exact isE_ _) | (simp [*]; exact isE_ _)), H', ⟨by have := HJ8.out; first | omega | exact Nat.le_refl _⟩, ⟨by repeat (first | (with_reducible first | exact HB.out | apply below_alloc | apply pw_below_drewN | apply below_drew1) | exact HB.out)⟩⟩
            · rw [if_neg c17] at H
              have c17b0 : ((t182 == 0) != true) = false := by simpa using c17
              (try (have c17b1 : decide ((t182 == 0) = true) = true := by simpa using c17))
              (try (have c17b2 : ((t182 == 0) == true) = true := by simpa using c17))
              clear c17
              (first | rw [c17b0] | (simp only [i64_w, i32_w]; rw [c17b0]) | skip)
              by_cases c18 : t182 = 0
              · rw [if_pos c18] at H
                have c18b0 : (t182 == 0) = true := beq_iff_eq.mpr c18
                have c18b1 : (t182 != 0) = false := bne_eq_false_iff_eq.mpr c18
                clear c18
                have H' := Aside0.mk H
                clear H
                go_wp2
                go_meet
                case rel => exact ⟨_, (false), (by first | rfl | (simp; done) | (simp [*]; done) | (simp_all; done) | (simp_all; exact isE_ _) | (simp [*]; exact isE_ _)), H', ⟨by have := HJ8.out; first | omega | exact Nat.le_refl _⟩, ⟨by repeat (first | (with_reducible first | exact HB.out | apply below_alloc | apply pw_below_drewN | apply below_drew1) | exact HB.out)⟩⟩
              · rw [if_neg c18] at H
                have c18b0 : (t182 == 0) = false := beq_eq_false_iff_ne.mpr c18
                have c18b1 : (t182 != 0) = true := bne_iff_ne.mpr c18
                by_cases c19 : t182 = 2
                · rw [if_pos c19] at H
                  have c19b0 : (t182 == 2) = true := beq_iff_eq.mpr c19
                  have c19b1 : (t182 != 2) = false := bne_eq_false_iff_eq.mpr c19
                  clear c19
                  have H' := Aside0.mk H
                  clear H
                  go_wp2
                  go_meet
                  case rel => exact ⟨_, ((t181.toList != ([] : List UInt8))), (by first | rfl | (simp; done) | (simp [*]; done) | (simp_all; done) | (simp_all; exact isE_ _) | (simp [*]; exact isE_ _)), H', ⟨by have := HJ8.out; first | omega | exact Nat.le_refl _⟩, ⟨by repeat (first | (with_reducible first | exact HB.out | apply below_alloc | apply pw_below_drewN | apply below_drew1) | exact HB.out)⟩⟩
                · rw [if_neg c19] at H
                  have c19b0 : (t182 == 2) = false := beq_eq_false_iff_ne.mpr c19
                  have c19b1 : (t182 != 2) = true := bne_iff_ne.mpr c19
                  have H' := Aside0.mk H
                  clear H
                  go_wp2
                  go_meet
                  case rel => exact ⟨_, (true), (by first | rfl | (simp; done) | (simp [*]; done) | (simp_all; done) | (simp_all; exact isE_ _) | (simp [*]; exact isE_ _)), H', ⟨by have := HJ8.out; first | omega | exact Nat.le_refl _⟩, ⟨by repeat (first | (with_reducible first | exact HB.out | apply below_alloc | apply pw_below_drewN | apply below_drew1) | exact HB.out)⟩⟩
          · subst hb_
            by_cases c17 : ((t182 == 0) != false) = true
            · rw [if_pos c17] at H
              have c17b0 : ((t182 == 0) != false) = true := c17
              (try (have c17b1 : decide ((t182 == 0) = false) = false := by simpa using c17))
              (try (have c17b2 : ((t182 == 0) == false) = false := by simpa using c17))
              (try (have c17b3 : ¬ ((t182 == 0) = false) := by simpa using c17))
              clear c17
              (first | rw [c17b0] | (simp only [i64_w, i32_w]; rw [c17b0]) | skip)
              have H' := Aside0.mk H
              clear H
              go_wp2
              go_meet
              case rel => exact ⟨_, (true), (by first | rfl | (simp; done) | (simp [*]; done) | (simp_all; done) | (simp_all; exact isE_ _) | (simp [*]; exact isE_ _)), H', ⟨by have := HJ8.out; first | omega | exact Nat.le_refl _⟩, ⟨by repeat (first | (with_reducible first | exact HB.out | apply below_alloc | apply pw_below_drewN | apply below_drew1) | exact HB.out)⟩⟩
            · rw [if_neg c17] at H
              have c17b0 : ((t182 == 0) != false) = false := by simpa using c17
              (try (have c17b1 : decide ((t182 == 0) = false) = true := by simpa using c17))
              (try (have c17b2 : ((t182 == 0) == false) = true := by simpa using c17))
              clear c17
              (first | rw [c17b0] | (simp only [i64_w, i32_w]; rw [c17b0]) | skip)
              by_cases c18 : t182 = 0
              · rw [if_pos c18] at H
                have c18b0 : (t182 == 0) = true := beq_iff_eq.mpr c18
                have c18b1 : (t182 != 0) = false := bne_eq_false_iff_eq.mpr c18
                clear c18
                have H' := Aside0.mk H
                clear H
                go_wp2
                go_meet
                case rel => exact ⟨_, (false), (by first | rfl | (simp; done) | (simp [*]; done) | (simp_all; done) | (simp_all; exact isE_ _) | (simp [*]; exact isE_ _)), H', ⟨by have := HJ8.out; first | omega | exact Nat.le_refl _⟩, ⟨by repeat (first | (with_reducible first | exact HB.out | apply below_alloc | apply pw_below_drewN | apply below_drew1) | exact HB.out)⟩⟩
              · rw [if_neg c18] at H
                have c18b0 : (t182 == 0) = false := beq_eq_false_iff_ne.mpr c18
                have c18b1 : (t182 != 0) = true := bne_iff_ne.mpr c18
                by_cases c19 : t182 = 2
                · rw [if_pos c19] at H
                  have c19b0 : (t182 == 2) = true := beq_iff_eq.mpr c19
                  have c19b1 : (t182 != 2) = false := bne_eq_false_iff_eq.mpr c19
                  clear c19
                  have H' := Aside0.mk H
                  clear H
                  go_wp2
                  go_meet
                  case rel => exact ⟨_, ((t181.toList != ([] : List UInt8))), (by first | rfl | (simp; done) | (simp [*]; done) | (simp_all; done) | (simp_all; exact isE_ _) | (simp [*]; exact isE_ _)), H', ⟨by have := HJ8.out; first | omega | exact Nat.le_refl _⟩, ⟨by repeat (first | (with_reducible first | exact HB.out | apply below_alloc | apply pw_below_drewN | apply below_drew1) | exact HB.out)⟩⟩
                · rw [if_neg c19] at H
                  have c19b0 : (t182 == 2) = false := beq_eq_false_iff_ne.mpr c19
                  have c19b1 : (t182 != 2) = true := bne_iff_ne.mpr c19
                  have H' := Aside0.mk H
                  clear H
                  go_wp2
                  go_meet
                  case rel => exact ⟨_, (true), (by first | rfl | (simp; done) | (simp [*]; done) | (simp_all; done) | (simp_all; exact isE_ _) | (simp [*]; exact isE_ _)), H', ⟨by have := HJ8.out; first | omega | exact Nat.le_refl _⟩, ⟨by repeat (first | (with_reducible first | exact HB.out | apply below_alloc | apply pw_below_drewN | apply below_drew1) | exact HB.out)⟩⟩
        case rest =>
          clear HC16
          try clear c1
          try clear p2
          try clear c6
          try clear c7
          try clear c9
          try clear c13
          try clear c13b0
          try clear c13b1
          try clear c14
          try clear c14b0
          try clear c14b1
          try clear c15
          try clear c15b0
          try clear c17
          try clear c17b0
          try clear c17b1
          try clear c17b2
          try clear c18
          try clear c18b0
          try clear c18b1
          try clear c19
          try clear c19b0
          try clear c19b1
          try clear p2
          obtain ⟨kq, x61_15, rfl, HA, HJ15, HB⟩ := hcut
          cases kq with
          | zero => exact absurd HA.out (by simp [stratumlaw07_PartReps.j1])
          | succ kj15 =>
            have H := HA.out
            clear HA
            simp only [stratumlaw07_PartReps.j1] at H
            by_cases c20 : x61_15 = true
            · subst c20
              have H1 : (some false) = some r := by rw [if_pos rfl] at H; exact H
              clear H
              have H := H1
              clear H1
              obtain rfl := Option.some.inj H
              go_wp2
              go_ret
              exact ⟨by first | rfl | (simp [errW_none, errW_some] <;> rfl) | (simp [*, errW_none, errW_some] <;> rfl), by repeat (first | (with_reducible first | exact HB.out | apply below_alloc | apply pw_below_drewN | apply below_drew1) | exact HB.out)⟩
            · replace c20 := Bool.eq_false_iff.mpr c20
              subst c20
              have H1 : (if t182 = 0 then (stratumlaw07_PartReps.j2 kj15 a0 a1 a2 t181 t183 (t184 != 0)) else (stratumlaw07_PartReps.j2 kj15 a0 a1 a2 t181 t183 true)) = some r := by rw [if_neg (show ¬ (false = true) by decide)] at H; exact H
              clear H
              have H := H1
              clear H1
              have HC21 := Aside0.mk H
              clear H
              go_upto_region 8 with (fail)
              go_cut [67] (fun v67 wc => ∃ (kq : Nat) (x67_20 : Bool), v67 = .bool x67_20 ∧ Aside0 (stratumlaw07_PartReps.j2 kq a0 a1 a2 t181 t183 x67_20 = some r) ∧ Aside0 (kq ≤ kj15) ∧ Aside0 (Below w.heap.size w wc))
              case first =>
                have H := HC21.out
                clear HC21
                by_cases c22 : t182 = 0
                · rw [if_pos c22] at H
                  have c22b0 : (t182 == 0) = true := beq_iff_eq.mpr c22
                  have c22b1 : (t182 != 0) = false := bne_eq_false_iff_eq.mpr c22
                  clear c22
                  (first | rw [c22b0] | (simp only [i64_w, i32_w]; rw [c22b0]) | skip)
                  have H' := Aside0.mk H
                  clear H
                  go_wp2
                  go_meet
                  case rel => exact ⟨_, ((t184 != 0)), (by first | rfl | (simp; done) | (simp [*]; done) | (simp_all; done) | (simp_all; exact isE_ _) | (simp [*]; exact isE_ _)), H', ⟨by have := HJ8.out; have := HJ15.out; first | omega | exact Nat.le_refl _⟩, ⟨by repeat (first | (with_reducible first | exact HB.out | apply below_alloc | apply pw_below_drewN | apply below_drew1) | exact HB.out)⟩⟩
                · rw [if_neg c22] at H
                  have c22b0 : (t182 == 0) = false := beq_eq_false_iff_ne.mpr c22
                  have c22b1 : (t182 != 0) = true := bne_iff_ne.mpr c22
                  (first | rw [c22b0] | (simp only [i64_w, i32_w]; rw [c22b0]) | skip)
                  have H' := Aside0.mk H
                  clear H
                  go_wp2
                  go_meet
                  case rel => exact ⟨_, (true), (by first | rfl | (simp; done) | (simp [*]; done) | (simp_all; done) | (simp_all; exact isE_ _) | (simp [*]; exact isE_ _)), H', ⟨by have := HJ8.out; have := HJ15.out; first | omega | exact Nat.le_refl _⟩, ⟨by repeat (first | (with_reducible first | exact HB.out | apply below_alloc | apply pw_below_drewN | apply below_drew1) | exact HB.out)⟩⟩
              case rest =>
                clear HC21
                try clear c1
                try clear c2
                try clear p2
                try clear c6
                try clear c7
                try clear c9
                try clear c13
                try clear c13b0
                try clear c13b1
                try clear c14
                try clear c14b0
                try clear c14b1
                try clear c15
                try clear c15b0
                try clear c17
                try clear c17b0
                try clear c17b1
                try clear c17b2
                try clear c18
                try clear c18b0
                try clear c18b1
                try clear c19
                try clear c19b0
                try clear c19b1
                try clear c20
                try clear c22
                try clear c22b0
                try clear c22b1
                try clear p2
                obtain ⟨kq, x67_20, rfl, HA, HJ20, HB⟩ := hcut
                cases kq with
                | zero => exact absurd HA.out (by simp [stratumlaw07_PartReps.j2])
                | succ kj20 =>
                  have H := HA.out
                  clear HA
                  simp only [stratumlaw07_PartReps.j2] at H
                  by_cases c23 : x67_20 = true
                  · subst c23
                    have H1 : (some true) = some r := by rw [if_pos rfl] at H; exact H
                    clear H
                    have H := H1
                    clear H1
                    obtain rfl := Option.some.inj H
                    go_wp2
                    go_ret
                    exact ⟨by first | rfl | (simp [errW_none, errW_some] <;> rfl) | (simp [*, errW_none, errW_some] <;> rfl), by repeat (first | (with_reducible first | exact HB.out | apply below_alloc | apply pw_below_drewN | apply below_drew1) | exact HB.out)⟩
                  · replace c23 := Bool.eq_false_iff.mpr c23
                    subst c23
                    have H1 : ((part_Rep.f kj20 a0 (IntKind.u64.wrap (a1 + a2))).bind fun bt185 => (if (wrap64 ((t181.size : Int) + (t183.size : Int))) > 4096 then (if bt185.2 = 2 then (some (bt185.1.toList == ([] : List UInt8))) else (some false)) else (if bt185.2 = 0 then (if t181.size + t183.size ≤ 9223372036854775807 then (if bt185.1.toList = (t181 ++ t183).toList then (some true) else (if a0.toList = ([] : List UInt8) then (some (bt185.1.toList == ([] : List UInt8))) else (some false))) else (none)) else (if a0.toList = ([] : List UInt8) then (some (bt185.1.toList == ([] : List UInt8))) else (some false))))) = some r := by rw [if_neg (show ¬ (false = true) by decide)] at H; exact H
                    clear H
                    have H := H1
                    clear H1
                    replace H := Option.bind_eq_some_iff.mp H
                    obtain ⟨⟨t185, t186⟩, A240, H⟩ := H
                    replace H : (if (wrap64 ((t181.size : Int) + (t183.size : Int))) > 4096 then (if t186 = 2 then (some (t185.toList == ([] : List UInt8))) else (some false)) else (if t186 = 0 then (if t181.size + t183.size ≤ 9223372036854775807 then (if t185.toList = (t181 ++ t183).toList then (some true) else (if a0.toList = ([] : List UInt8) then (some (t185.toList == ([] : List UInt8))) else (some false))) else (none)) else (if a0.toList = ([] : List UInt8) then (some (t185.toList == ([] : List UInt8))) else (some false)))) = some r := H
                    have A24 := Aside0.mk A240
                    clear A240
                    by_cases c25 : (wrap64 ((t181.size : Int) + (t183.size : Int))) > 4096
                    · rw [if_pos c25] at H
                      have c25b0 : decide (4096 < (wrap64 ((t181.size : Int) + (t183.size : Int)))) = true := decide_eq_true c25
                      clear c25
                      by_cases c26 : t186 = 2
                      · rw [if_pos c26] at H
                        have c26b0 : (t186 == 2) = true := beq_iff_eq.mpr c26
                        have c26b1 : (t186 != 2) = false := bne_eq_false_iff_eq.mpr c26
                        clear c26
                        obtain rfl := Option.some.inj H
                        go_wp2_with (first | ((with_reducible refine gate_callee (f := 18) rfl ?_); refine goesL_ (some 73) rfl rfl Try.func18 (by kernel_rfl) rfl #[.string a0, .int .u64 (IntKind.u64.wrap (a1 + a2))] rfl (by (try simp only [List.map_toArray, List.map_cons, List.map_nil]); first | done | rfl | (simp only [List.length_drop, List.length_take]; rfl)) ?_; (with_reducible refine (part_Rep.calls kj20 a0 (IntKind.u64.wrap (a1 + a2)) t185 t186 _ A24.out).mono ?_); rintro e w27 ⟨rfl, hb⟩; refine ⟨_, rfl, ?_⟩; have n0_ := Aside0.mk (below_step (by repeat (first | (with_reducible first | exact HB.out | apply below_alloc | apply pw_below_drewN | apply below_drew1) | exact HB.out)) hb); clear HB; have HB := n0_; clear n0_; (try clear hb); (try clear hb2); (try clear hk); (try clear hi)))
                        go_ret
                        exact ⟨by first | rfl | (simp [errW_none, errW_some] <;> rfl) | (simp [*, errW_none, errW_some] <;> rfl), by repeat (first | (with_reducible first | exact HB.out | apply below_alloc | apply pw_below_drewN | apply below_drew1) | exact HB.out)⟩
                      · rw [if_neg c26] at H
                        have c26b0 : (t186 == 2) = false := beq_eq_false_iff_ne.mpr c26
                        have c26b1 : (t186 != 2) = true := bne_iff_ne.mpr c26
                        obtain rfl := Option.some.inj H
                        go_wp2_with (first | ((with_reducible refine gate_callee (f := 18) rfl ?_); refine goesL_ (some 73) rfl rfl Try.func18 (by kernel_rfl) rfl #[.string a0, .int .u64 (IntKind.u64.wrap (a1 + a2))] rfl (by (try simp only [List.map_toArray, List.map_cons, List.map_nil]); first | done | rfl | (simp only [List.length_drop, List.length_take]; rfl)) ?_; (with_reducible refine (part_Rep.calls kj20 a0 (IntKind.u64.wrap (a1 + a2)) t185 t186 _ A24.out).mono ?_); rintro e w28 ⟨rfl, hb⟩; refine ⟨_, rfl, ?_⟩; have n0_ := Aside0.mk (below_step (by repeat (first | (with_reducible first | exact HB.out | apply below_alloc | apply pw_below_drewN | apply below_drew1) | exact HB.out)) hb); clear HB; have HB := n0_; clear n0_; (try clear hb); (try clear hb2); (try clear hk); (try clear hi)))
                        go_ret
                        exact ⟨by first | rfl | (simp [errW_none, errW_some] <;> rfl) | (simp [*, errW_none, errW_some] <;> rfl), by repeat (first | (with_reducible first | exact HB.out | apply below_alloc | apply pw_below_drewN | apply below_drew1) | exact HB.out)⟩
                    · rw [if_neg c25] at H
                      have c25b0 : decide (4096 < (wrap64 ((t181.size : Int) + (t183.size : Int)))) = false := decide_eq_false c25
                      clear c25
                      by_cases c29 : t186 = 0
                      · rw [if_pos c29] at H
                        have c29b0 : (t186 == 0) = true := beq_iff_eq.mpr c29
                        have c29b1 : (t186 != 0) = false := bne_eq_false_iff_eq.mpr c29
                        clear c29
                        by_cases c30 : t181.size + t183.size ≤ 9223372036854775807
                        · rw [if_pos c30] at H
                          have c30b0 := eq_true c30
                          have c30b1 : decide (t181.size + t183.size ≤ 9223372036854775807) = true := decide_eq_true c30
                          try (have c25b0u := c25b0; rw [w64_add2 (of_decide_eq_true c30b1)] at c25b0u)
                          try (have c25b0u := c25b0; rw [w64_add2 (of_decide_eq_true c30b1)] at c25b0u)
                          try have c30b2 : (9223372036854775807 < t181.size + t183.size) = False := eq_false (Nat.not_lt.2 c30)
                          by_cases c31 : t185.toList = (t181 ++ t183).toList
                          · rw [if_pos c31] at H
                            have c31b0 : (t185.toList == (t181 ++ t183).toList) = true := beq_iff_eq.mpr c31
                            have c31b1 : (t185.toList != (t181 ++ t183).toList) = false := bne_eq_false_iff_eq.mpr c31
                            clear c31
                            obtain rfl := Option.some.inj H
                            go_wp2_with (first | ((with_reducible refine gate_callee (f := 18) rfl ?_); refine goesL_ (some 73) rfl rfl Try.func18 (by kernel_rfl) rfl #[.string a0, .int .u64 (IntKind.u64.wrap (a1 + a2))] rfl (by (try simp only [List.map_toArray, List.map_cons, List.map_nil]); first | done | rfl | (simp only [List.length_drop, List.length_take]; rfl)) ?_; (with_reducible refine (part_Rep.calls kj20 a0 (IntKind.u64.wrap (a1 + a2)) t185 t186 _ A24.out).mono ?_); rintro e w32 ⟨rfl, hb⟩; refine ⟨_, rfl, ?_⟩; have n0_ := Aside0.mk (below_step (by repeat (first | (with_reducible first | exact HB.out | apply below_alloc | apply pw_below_drewN | apply below_drew1) | exact HB.out)) hb); clear HB; have HB := n0_; clear n0_; (try clear hb); (try clear hb2); (try clear hk); (try clear hi)))
                            go_ret
                            exact ⟨by first | rfl | (simp [errW_none, errW_some] <;> rfl) | (simp [*, errW_none, errW_some] <;> rfl), by repeat (first | (with_reducible first | exact HB.out | apply below_alloc | apply pw_below_drewN | apply below_drew1) | exact HB.out)⟩
                          · rw [if_neg c31] at H
                            have c31b0 : (t185.toList == (t181 ++ t183).toList) = false := beq_eq_false_iff_ne.mpr c31
                            have c31b1 : (t185.toList != (t181 ++ t183).toList) = true := bne_iff_ne.mpr c31
                            by_cases c33 : a0.toList = ([] : List UInt8)
                            · rw [if_pos c33] at H
                              have c33b0 : (a0.toList == ([] : List UInt8)) = true := beq_iff_eq.mpr c33
                              have c33b1 : (a0.toList != ([] : List UInt8)) = false := bne_eq_false_iff_eq.mpr c33
                              clear c33
                              obtain rfl := Option.some.inj H
                              go_wp2_with (first | ((with_reducible refine gate_callee (f := 18) rfl ?_); refine goesL_ (some 73) rfl rfl Try.func18 (by kernel_rfl) rfl #[.string a0, .int .u64 (IntKind.u64.wrap (a1 + a2))] rfl (by (try simp only [List.map_toArray, List.map_cons, List.map_nil]); first | done | rfl | (simp only [List.length_drop, List.length_take]; rfl)) ?_; (with_reducible refine (part_Rep.calls kj20 a0 (IntKind.u64.wrap (a1 + a2)) t185 t186 _ A24.out).mono ?_); rintro e w34 ⟨rfl, hb⟩; refine ⟨_, rfl, ?_⟩; have n0_ := Aside0.mk (below_step (by repeat (first | (with_reducible first | exact HB.out | apply below_alloc | apply pw_below_drewN | apply below_drew1) | exact HB.out)) hb); clear HB; have HB := n0_; clear n0_; (try clear hb); (try clear hb2); (try clear hk); (try clear hi)))
                              go_ret
                              exact ⟨by first | rfl | (simp [errW_none, errW_some] <;> rfl) | (simp [*, errW_none, errW_some] <;> rfl), by repeat (first | (with_reducible first | exact HB.out | apply below_alloc | apply pw_below_drewN | apply below_drew1) | exact HB.out)⟩
                            · rw [if_neg c33] at H
                              have c33b0 : (a0.toList == ([] : List UInt8)) = false := beq_eq_false_iff_ne.mpr c33
                              have c33b1 : (a0.toList != ([] : List UInt8)) = true := bne_iff_ne.mpr c33
                              obtain rfl := Option.some.inj H
                              go_wp2_with (first | ((with_reducible refine gate_callee (f := 18) rfl ?_); refine goesL_ (some 73) rfl rfl Try.func18 (by kernel_rfl) rfl #[.string a0, .int .u64 (IntKind.u64.wrap (a1 + a2))] rfl (by (try simp only [List.map_toArray, List.map_cons, List.map_nil]); first | done | rfl | (simp only [List.length_drop, List.length_take]; rfl)) ?_; (with_reducible refine (part_Rep.calls kj20 a0 (IntKind.u64.wrap (a1 + a2)) t185 t186 _ A24.out).mono ?_); rintro e w35 ⟨rfl, hb⟩; refine ⟨_, rfl, ?_⟩; have n0_ := Aside0.mk (below_step (by repeat (first | (with_reducible first | exact HB.out | apply below_alloc | apply pw_below_drewN | apply below_drew1) | exact HB.out)) hb); clear HB; have HB := n0_; clear n0_; (try clear hb); (try clear hb2); (try clear hk); (try clear hi)))
                              go_ret
                              exact ⟨by first | rfl | (simp [errW_none, errW_some] <;> rfl) | (simp [*, errW_none, errW_some] <;> rfl), by repeat (first | (with_reducible first | exact HB.out | apply below_alloc | apply pw_below_drewN | apply below_drew1) | exact HB.out)⟩
                        · rw [if_neg c30] at H
                          exact absurd H (by simp)
                      · rw [if_neg c29] at H
                        have c29b0 : (t186 == 0) = false := beq_eq_false_iff_ne.mpr c29
                        have c29b1 : (t186 != 0) = true := bne_iff_ne.mpr c29
                        by_cases c36 : a0.toList = ([] : List UInt8)
                        · rw [if_pos c36] at H
                          have c36b0 : (a0.toList == ([] : List UInt8)) = true := beq_iff_eq.mpr c36
                          have c36b1 : (a0.toList != ([] : List UInt8)) = false := bne_eq_false_iff_eq.mpr c36
                          clear c36
                          obtain rfl := Option.some.inj H
                          go_wp2_with (first | ((with_reducible refine gate_callee (f := 18) rfl ?_); refine goesL_ (some 73) rfl rfl Try.func18 (by kernel_rfl) rfl #[.string a0, .int .u64 (IntKind.u64.wrap (a1 + a2))] rfl (by (try simp only [List.map_toArray, List.map_cons, List.map_nil]); first | done | rfl | (simp only [List.length_drop, List.length_take]; rfl)) ?_; (with_reducible refine (part_Rep.calls kj20 a0 (IntKind.u64.wrap (a1 + a2)) t185 t186 _ A24.out).mono ?_); rintro e w37 ⟨rfl, hb⟩; refine ⟨_, rfl, ?_⟩; have n0_ := Aside0.mk (below_step (by repeat (first | (with_reducible first | exact HB.out | apply below_alloc | apply pw_below_drewN | apply below_drew1) | exact HB.out)) hb); clear HB; have HB := n0_; clear n0_; (try clear hb); (try clear hb2); (try clear hk); (try clear hi)))
                          go_ret
                          exact ⟨by first | rfl | (simp [errW_none, errW_some] <;> rfl) | (simp [*, errW_none, errW_some] <;> rfl), by repeat (first | (with_reducible first | exact HB.out | apply below_alloc | apply pw_below_drewN | apply below_drew1) | exact HB.out)⟩
                        · rw [if_neg c36] at H
                          have c36b0 : (a0.toList == ([] : List UInt8)) = false := beq_eq_false_iff_ne.mpr c36
                          have c36b1 : (a0.toList != ([] : List UInt8)) = true := bne_iff_ne.mpr c36
                          obtain rfl := Option.some.inj H
                          go_wp2_with (first | ((with_reducible refine gate_callee (f := 18) rfl ?_); refine goesL_ (some 73) rfl rfl Try.func18 (by kernel_rfl) rfl #[.string a0, .int .u64 (IntKind.u64.wrap (a1 + a2))] rfl (by (try simp only [List.map_toArray, List.map_cons, List.map_nil]); first | done | rfl | (simp only [List.length_drop, List.length_take]; rfl)) ?_; (with_reducible refine (part_Rep.calls kj20 a0 (IntKind.u64.wrap (a1 + a2)) t185 t186 _ A24.out).mono ?_); rintro e w38 ⟨rfl, hb⟩; refine ⟨_, rfl, ?_⟩; have n0_ := Aside0.mk (below_step (by repeat (first | (with_reducible first | exact HB.out | apply below_alloc | apply pw_below_drewN | apply below_drew1) | exact HB.out)) hb); clear HB; have HB := n0_; clear n0_; (try clear hb); (try clear hb2); (try clear hk); (try clear hi)))
                          go_ret
                          exact ⟨by first | rfl | (simp [errW_none, errW_some] <;> rfl) | (simp [*, errW_none, errW_some] <;> rfl), by repeat (first | (with_reducible first | exact HB.out | apply below_alloc | apply pw_below_drewN | apply below_drew1) | exact HB.out)⟩
  · replace c6 := Bool.eq_false_iff.mpr c6
    subst c6
    have H1 : (some false) = some r := by rw [if_neg (show ¬ (false = true) by decide)] at H; exact H
    clear H
    have H := H1
    clear H1
    obtain rfl := Option.some.inj H
    go_enter Try.func7, Try.ntmps7
    go_wp2_with (first | ((with_reducible refine gate_callee (f := 9) rfl ?_); refine goesL_ (some 14) rfl rfl Try.func9 (by kernel_rfl) rfl #[] rfl (by (try simp only [List.map_toArray, List.map_cons, List.map_nil]); first | done | rfl | (simp only [List.length_drop, List.length_take]; rfl)) ?_; (with_reducible refine (stratumlaw07_awake.calls k lG false _ ?side1 ?side2 A5.out).mono ?_); (case side1 => repeat (first | exact HRG.out | (with_reducible refine Kd.C_alloc ?_ _) | (with_reducible refine Kd.C_drewN ?_ _) | (with_reducible refine Kd.C_drew ?_))); (case side2 => exact HCG.out); rintro e w39 ⟨rfl, hb⟩; refine ⟨_, rfl, ?_⟩; have n0_ := Aside0.mk (below_step (by repeat (first | (with_reducible first | exact HB.out | apply below_alloc | apply pw_below_drewN | apply below_drew1) | exact HB.out)) hb); clear HB; have HB := n0_; clear n0_; (try clear hb); (try clear hb2); (try clear hk); (try clear hi)))
    go_ret
    exact ⟨by first | rfl | (simp [errW_none, errW_some] <;> rfl) | (simp [*, errW_none, errW_some] <;> rfl), by repeat (first | (with_reducible first | exact HB.out | apply below_alloc | apply pw_below_drewN | apply below_drew1) | exact HB.out)⟩

end Go.Proofs.Ythgkemkcepkkcaa.X
