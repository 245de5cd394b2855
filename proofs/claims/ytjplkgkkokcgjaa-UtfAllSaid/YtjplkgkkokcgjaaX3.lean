/- The machine's side of the laws of this seat: for each Go function a Lean function of lists and numbers, and that the call answers what it answers. No condition but those in the theorems. -/
import Derived.Test.YtjplkgkkokcgjaaX0
import Derived.Test.YtjplkgkkokcgjaaX1
import Derived.Test.YtjplkgkkokcgjaaX2
namespace Go.Proofs.Ytjplkgkkokcgjaa.X
open Go.RowKit Go.Proofs.YtjplkgkkokcgjaaW.PrintWords Go.Proofs.YtjplkgkkokcgjaaW.PrintLast Go.Proofs.YtjplkgkkokcgjaaW.PrintMore
attribute [local go_sem] max2_int min2_int max_two min_two max_three min_three max_four min_four   -- for this text's walks alone
set_option linter.unusedVariables false
set_option linter.unusedSimpArgs false

/-! ### stratumref03_Next: function 12 -/
mutual
def stratumref03_Next.j0 : Nat → ByteArray → Int → Int → Bool → Option (Int × Int)
  | 0, _, _, _, _ => none
  | k + 1, x0, x4, x5, x16 => if x16 = true then ((stratumref03_more.f (wrap64 (x4 - 192)) x0 1).bind fun t146 => ((stratumref03_Put.f k t146).bind fun t147 => (if t147.toList = ([] : List UInt8) then (some ((-1), 1)) else (if (t147.size : Int) > (x0.size : Int) then (some ((-1), 1)) else (if 0 ≤ (t147.size : Int) then (if (t147.size : Int) ≤ (x0.size : Int) then (if (x0.extract 0 t147.size).toList = t147.toList then (some (t146, (t147.size : Int))) else (some ((-1), 1))) else (none)) else (none)))))) else (if x4 ≥ 224 then (stratumref03_Next.j1 k x0 x4 x5 (decide (x4 < 240))) else (stratumref03_Next.j1 k x0 x4 x5 false))
def stratumref03_Next.j1 : Nat → ByteArray → Int → Int → Bool → Option (Int × Int)
  | 0, _, _, _, _ => none
  | k + 1, x0, x4, x5, x27 => if x27 = true then ((stratumref03_more.f (wrap64 (x4 - 224)) x0 1).bind fun t148 => ((stratumref03_more.f t148 x0 2).bind fun t149 => ((stratumref03_Put.f k t149).bind fun t150 => (if t150.toList = ([] : List UInt8) then (some ((-1), 1)) else (if (t150.size : Int) > (x0.size : Int) then (some ((-1), 1)) else (if 0 ≤ (t150.size : Int) then (if (t150.size : Int) ≤ (x0.size : Int) then (if (x0.extract 0 t150.size).toList = t150.toList then (some (t149, (t150.size : Int))) else (some ((-1), 1))) else (none)) else (none))))))) else (if x4 ≥ 240 then (stratumref03_Next.j2 k x0 x4 x5 (decide (x4 < 248))) else (stratumref03_Next.j2 k x0 x4 x5 false))
def stratumref03_Next.j2 : Nat → ByteArray → Int → Int → Bool → Option (Int × Int)
  | 0, _, _, _, _ => none
  | k + 1, x0, x4, x5, x40 => if x40 = true then ((stratumref03_more.f (wrap64 (x4 - 240)) x0 1).bind fun t151 => ((stratumref03_more.f t151 x0 2).bind fun t152 => ((stratumref03_more.f t152 x0 3).bind fun t153 => ((stratumref03_Put.f k t153).bind fun t154 => (if t154.toList = ([] : List UInt8) then (some ((-1), 1)) else (if (t154.size : Int) > (x0.size : Int) then (some ((-1), 1)) else (if 0 ≤ (t154.size : Int) then (if (t154.size : Int) ≤ (x0.size : Int) then (if (x0.extract 0 t154.size).toList = t154.toList then (some (t153, (t154.size : Int))) else (some ((-1), 1))) else (none)) else (none)))))))) else ((stratumref03_Put.f k x5).bind fun t155 => (if t155.toList = ([] : List UInt8) then (some ((-1), 1)) else (if (t155.size : Int) > (x0.size : Int) then (some ((-1), 1)) else (if 0 ≤ (t155.size : Int) then (if (t155.size : Int) ≤ (x0.size : Int) then (if (x0.extract 0 t155.size).toList = t155.toList then (some (x5, (t155.size : Int))) else (some ((-1), 1))) else (none)) else (none)))))
end
def stratumref03_Next.f (k : Nat) (a0 : ByteArray) : Option (Int × Int) := if a0.toList = ([] : List UInt8) then (some ((-1), 0)) else (if 0 < (a0.size : Int) then (if (wrap64 (bt a0 0)) < 128 then ((stratumref03_Put.f k (wrap64 (bt a0 0))).bind fun t145 => (if t145.toList = ([] : List UInt8) then (some ((-1), 1)) else (if (t145.size : Int) > (a0.size : Int) then (some ((-1), 1)) else (if 0 ≤ (t145.size : Int) then (if (t145.size : Int) ≤ (a0.size : Int) then (if (a0.extract 0 t145.size).toList = t145.toList then (some (wrap64 (bt a0 0), (t145.size : Int))) else (some ((-1), 1))) else (none)) else (none))))) else (if (wrap64 (bt a0 0)) ≥ 192 then (stratumref03_Next.j0 k a0 (wrap64 (bt a0 0)) (-1) (decide ((wrap64 (bt a0 0)) < 224))) else (stratumref03_Next.j0 k a0 (wrap64 (bt a0 0)) (-1) false))) else (none))
theorem stratumref03_Next.mono_l : ∀ k, (∀ y0 y1 y2 y3, LeO (stratumref03_Next.j0 k y0 y1 y2 y3) (stratumref03_Next.j0 (k + 1) y0 y1 y2 y3)) ∧ (∀ y0 y1 y2 y3, LeO (stratumref03_Next.j1 k y0 y1 y2 y3) (stratumref03_Next.j1 (k + 1) y0 y1 y2 y3)) ∧ (∀ y0 y1 y2 y3, LeO (stratumref03_Next.j2 k y0 y1 y2 y3) (stratumref03_Next.j2 (k + 1) y0 y1 y2 y3))
  | 0 => ⟨fun _ _ _ _ r h => by simp [stratumref03_Next.j0] at h, fun _ _ _ _ r h => by simp [stratumref03_Next.j1] at h, fun _ _ _ _ r h => by simp [stratumref03_Next.j2] at h⟩
  | k + 1 => by
    obtain ⟨ih0, ih1, ih2⟩ := stratumref03_Next.mono_l k
    refine ⟨?_, ?_, ?_⟩
    · intro y0 y1 y2 y3
      unfold stratumref03_Next.j0
      repeat' first
      | (with_reducible exact ih0 _ _ _ _)
      | (with_reducible exact ih1 _ _ _ _)
      | (with_reducible exact ih2 _ _ _ _)
      | (with_reducible exact stratumref03_Put.mono _ _)
      | (with_reducible exact LeO.refl _)
      | (with_reducible exact LeO.none _)
      | (with_reducible refine LeO.ite ?_ ?_)
      | (with_reducible refine LeO.bind ?_ (fun _ => ?_))
      | exact ih0 _ _ _ _
      | exact ih1 _ _ _ _
      | exact ih2 _ _ _ _
      | exact stratumref03_Put.mono _ _
      | exact LeO.none _
      | refine LeO.ite ?_ ?_
      | refine LeO.bind ?_ (fun _ => ?_)
    · intro y0 y1 y2 y3
      unfold stratumref03_Next.j1
      repeat' first
      | (with_reducible exact ih0 _ _ _ _)
      | (with_reducible exact ih1 _ _ _ _)
      | (with_reducible exact ih2 _ _ _ _)
      | (with_reducible exact stratumref03_Put.mono _ _)
      | (with_reducible exact LeO.refl _)
      | (with_reducible exact LeO.none _)
      | (with_reducible refine LeO.ite ?_ ?_)
      | (with_reducible refine LeO.bind ?_ (fun _ => ?_))
      | exact ih0 _ _ _ _
      | exact ih1 _ _ _ _
      | exact ih2 _ _ _ _
      | exact stratumref03_Put.mono _ _
      | exact LeO.none _
      | refine LeO.ite ?_ ?_
      | refine LeO.bind ?_ (fun _ => ?_)
    · intro y0 y1 y2 y3
      unfold stratumref03_Next.j2
      repeat' first
      | (with_reducible exact ih0 _ _ _ _)
      | (with_reducible exact ih1 _ _ _ _)
      | (with_reducible exact ih2 _ _ _ _)
      | (with_reducible exact stratumref03_Put.mono _ _)
      | (with_reducible exact LeO.refl _)
      | (with_reducible exact LeO.none _)
      | (with_reducible refine LeO.ite ?_ ?_)
      | (with_reducible refine LeO.bind ?_ (fun _ => ?_))
      | exact ih0 _ _ _ _
      | exact ih1 _ _ _ _
      | exact ih2 _ _ _ _
      | exact stratumref03_Put.mono _ _
      | exact LeO.none _
      | refine LeO.ite ?_ ?_
      | refine LeO.bind ?_ (fun _ => ?_)
theorem stratumref03_Next.mono : ∀ a0 k, LeO (stratumref03_Next.f k a0) (stratumref03_Next.f (k + 1) a0) := by
  intro a0 k
  obtain ⟨ih0, ih1, ih2⟩ := stratumref03_Next.mono_l k
  unfold stratumref03_Next.f
  repeat' first
      | (with_reducible exact ih0 _ _ _ _)
      | (with_reducible exact ih1 _ _ _ _)
      | (with_reducible exact ih2 _ _ _ _)
      | (with_reducible exact stratumref03_Put.mono _ _)
      | (with_reducible exact LeO.refl _)
      | (with_reducible exact LeO.none _)
      | (with_reducible refine LeO.ite ?_ ?_)
      | (with_reducible refine LeO.bind ?_ (fun _ => ?_))
      | exact ih0 _ _ _ _
      | exact ih1 _ _ _ _
      | exact ih2 _ _ _ _
      | exact stratumref03_Put.mono _ _
      | exact LeO.none _
      | refine LeO.ite ?_ ?_
      | refine LeO.bind ?_ (fun _ => ?_)
set_option maxHeartbeats 8000000 in
set_option maxRecDepth 100000 in
theorem stratumref03_Next.calls (k : Nat) (a0 : ByteArray) (r1 : Int) (r2 : Int) (w : World) (h : stratumref03_Next.f k a0 = some (r1, r2)) :
    Calls Try.prog 12 #[.string a0] w fun e w' => e = .returned (.tuple #[.int .i64 r1, .int .i64 r2]) ∧ Below w.heap.size w w' := by
  have HB := Aside0.mk (Below.refl w.heap.size w)
  have H : (if a0.toList = ([] : List UInt8) then (some ((-1), 0)) else (if 0 < (a0.size : Int) then (if (wrap64 (bt a0 0)) < 128 then ((stratumref03_Put.f k (wrap64 (bt a0 0))).bind fun t145 => (if t145.toList = ([] : List UInt8) then (some ((-1), 1)) else (if (t145.size : Int) > (a0.size : Int) then (some ((-1), 1)) else (if 0 ≤ (t145.size : Int) then (if (t145.size : Int) ≤ (a0.size : Int) then (if (a0.extract 0 t145.size).toList = t145.toList then (some (wrap64 (bt a0 0), (t145.size : Int))) else (some ((-1), 1))) else (none)) else (none))))) else (if (wrap64 (bt a0 0)) ≥ 192 then (stratumref03_Next.j0 k a0 (wrap64 (bt a0 0)) (-1) (decide ((wrap64 (bt a0 0)) < 224))) else (stratumref03_Next.j0 k a0 (wrap64 (bt a0 0)) (-1) false))) else (none))) = some (r1, r2) := h
  clear h
  by_cases c2 : a0.toList = ([] : List UInt8)
  · rw [if_pos c2] at H
    have c2b0 : (a0.toList == ([] : List UInt8)) = true := beq_iff_eq.mpr c2
    have c2b1 : (a0.toList != ([] : List UInt8)) = false := bne_eq_false_iff_eq.mpr c2
    clear c2
    simp only [Option.some.injEq, Prod.mk.injEq] at H
    obtain ⟨rfl, rfl⟩ := H
    go_enter Try.func12, Try.ntmps12
    go_wp2
    go_ret2
    exact ⟨by first | rfl | (simp [errW_none, errW_some] <;> rfl) | (simp [*, errW_none, errW_some] <;> rfl), by repeat (first | (with_reducible first | exact HB.out | apply below_alloc | apply pw_below_drewN | apply below_drew1) | exact HB.out)⟩
  · rw [if_neg c2] at H
    have c2b0 : (a0.toList == ([] : List UInt8)) = false := beq_eq_false_iff_ne.mpr c2
    have c2b1 : (a0.toList != ([] : List UInt8)) = true := bne_iff_ne.mpr c2
    by_cases c3 : 0 < (a0.size : Int)
    · rw [if_pos c3] at H
      have c3b0 : decide (0 < (a0.size : Int)) = true := decide_eq_true c3
      have c3b1 : decide (0 < a0.size) = true := decide_eq_true (by omega)
      clear c3
      by_cases c5 : (wrap64 (bt a0 0)) < 128
      · rw [if_pos c5] at H
        have c5b0 : decide ((wrap64 (bt a0 0)) < 128) = true := decide_eq_true c5
        clear c5
        replace H := Option.bind_eq_some_iff.mp H
        obtain ⟨t145, A60, H⟩ := H
        replace H : (if t145.toList = ([] : List UInt8) then (some ((-1), 1)) else (if (t145.size : Int) > (a0.size : Int) then (some ((-1), 1)) else (if 0 ≤ (t145.size : Int) then (if (t145.size : Int) ≤ (a0.size : Int) then (if (a0.extract 0 t145.size).toList = t145.toList then (some (wrap64 (bt a0 0), (t145.size : Int))) else (some ((-1), 1))) else (none)) else (none)))) = some (r1, r2) := H
        have A6 := Aside0.mk A60
        clear A60
        by_cases c7 : t145.toList = ([] : List UInt8)
        · rw [if_pos c7] at H
          have c7b0 : (t145.toList == ([] : List UInt8)) = true := beq_iff_eq.mpr c7
          have c7b1 : (t145.toList != ([] : List UInt8)) = false := bne_eq_false_iff_eq.mpr c7
          clear c7
          simp only [Option.some.injEq, Prod.mk.injEq] at H
          obtain ⟨rfl, rfl⟩ := H
          have p4 : 0 ≤ (0 : Int) := (by omega)
          have q4 : 0 < a0.size := (by have : (0 : Int) < (a0.size : Int) := of_decide_eq_true (by first | (with_reducible assumption) | assumption); omega)
          have hx4 : ∀ h : 0 < a0.size, ((a0[0]'h).toNat : Int) = bt a0 0 := bt_at a0 0
          clear p4
          have qi4 : (0 < (a0.size : Int)) = True := eq_true (of_decide_eq_true (by first | (with_reducible assumption) | assumption))
          replace q4 := eq_true q4
          go_enter Try.func12, Try.ntmps12
          go_wp2_with (first | ((with_reducible refine gate_callee (f := 22) rfl ?_); refine goesL_ (some 56) rfl rfl Try.func22 (by kernel_rfl) rfl #[.int .i64 (wrap64 (bt a0 0))] rfl (by (try simp only [List.map_toArray, List.map_cons, List.map_nil]); first | done | rfl | (simp only [List.length_drop, List.length_take]; rfl)) ?_; (with_reducible refine (stratumref03_Put.calls k (wrap64 (bt a0 0)) t145 _ A6.out).mono ?_); rintro e w8 ⟨rfl, hb⟩; refine ⟨_, rfl, ?_⟩; have n0_ := Aside0.mk (below_step (by repeat (first | (with_reducible first | exact HB.out | apply below_alloc | apply pw_below_drewN | apply below_drew1) | exact HB.out)) hb); clear HB; have HB := n0_; clear n0_; (try clear hb); (try clear hb2); (try clear hk); (try clear hi)))
          go_ret2
          exact ⟨by first | rfl | (simp [errW_none, errW_some] <;> rfl) | (simp [*, errW_none, errW_some] <;> rfl), by repeat (first | (with_reducible first | exact HB.out | apply below_alloc | apply pw_below_drewN | apply below_drew1) | exact HB.out)⟩
        · rw [if_neg c7] at H
          have c7b0 : (t145.toList == ([] : List UInt8)) = false := beq_eq_false_iff_ne.mpr c7
          have c7b1 : (t145.toList != ([] : List UInt8)) = true := bne_iff_ne.mpr c7
          by_cases c9 : (t145.size : Int) > (a0.size : Int)
          · rw [if_pos c9] at H
            have c9b0 : decide ((a0.size : Int) < (t145.size : Int)) = true := decide_eq_true c9
            have c9b1 : decide (a0.size < t145.size) = true := decide_eq_true (Int.ofNat_lt.mp c9)
            clear c9
            simp only [Option.some.injEq, Prod.mk.injEq] at H
            obtain ⟨rfl, rfl⟩ := H
            have p4 : 0 ≤ (0 : Int) := (by omega)
            have q4 : 0 < a0.size := (by have : (0 : Int) < (a0.size : Int) := of_decide_eq_true (by first | (with_reducible assumption) | assumption); omega)
            have hx4 : ∀ h : 0 < a0.size, ((a0[0]'h).toNat : Int) = bt a0 0 := bt_at a0 0
            clear p4
            have qi4 : (0 < (a0.size : Int)) = True := eq_true (of_decide_eq_true (by first | (with_reducible assumption) | assumption))
            replace q4 := eq_true q4
            go_enter Try.func12, Try.ntmps12
            go_wp2_with (first | ((with_reducible refine gate_callee (f := 22) rfl ?_); refine goesL_ (some 56) rfl rfl Try.func22 (by kernel_rfl) rfl #[.int .i64 (wrap64 (bt a0 0))] rfl (by (try simp only [List.map_toArray, List.map_cons, List.map_nil]); first | done | rfl | (simp only [List.length_drop, List.length_take]; rfl)) ?_; (with_reducible refine (stratumref03_Put.calls k (wrap64 (bt a0 0)) t145 _ A6.out).mono ?_); rintro e w10 ⟨rfl, hb⟩; refine ⟨_, rfl, ?_⟩; have n0_ := Aside0.mk (below_step (by repeat (first | (with_reducible first | exact HB.out | apply below_alloc | apply pw_below_drewN | apply below_drew1) | exact HB.out)) hb); clear HB; have HB := n0_; clear n0_; (try clear hb); (try clear hb2); (try clear hk); (try clear hi)))
            go_ret2
            exact ⟨by first | rfl | (simp [errW_none, errW_some] <;> rfl) | (simp [*, errW_none, errW_some] <;> rfl), by repeat (first | (with_reducible first | exact HB.out | apply below_alloc | apply pw_below_drewN | apply below_drew1) | exact HB.out)⟩
          · rw [if_neg c9] at H
            have c9b0 : decide ((a0.size : Int) < (t145.size : Int)) = false := decide_eq_false c9
            have c9b1 : decide (a0.size < t145.size) = false := decide_eq_false (fun h => c9 (Int.ofNat_lt.mpr h))
            clear c9
            by_cases c11 : 0 ≤ (t145.size : Int)
            · rw [if_pos c11] at H
              have c11b0 := eq_true c11
              have c11b1 : decide (0 ≤ (t145.size : Int)) = true := decide_eq_true c11
              clear c11
              by_cases c12 : (t145.size : Int) ≤ (a0.size : Int)
              · rw [if_pos c12] at H
                have c12b0 := eq_true c12
                have c12b1 : decide ((t145.size : Int) ≤ (a0.size : Int)) = true := decide_eq_true c12
                clear c12
                by_cases c13 : (a0.extract 0 t145.size).toList = t145.toList
                · rw [if_pos c13] at H
                  have c13b0 : ((a0.extract 0 t145.size).toList == t145.toList) = true := beq_iff_eq.mpr c13
                  have c13b1 : ((a0.extract 0 t145.size).toList != t145.toList) = false := bne_eq_false_iff_eq.mpr c13
                  clear c13
                  simp only [Option.some.injEq, Prod.mk.injEq] at H
                  obtain ⟨rfl, rfl⟩ := H
                  have p4 : 0 ≤ (0 : Int) := (by omega)
                  have q4 : 0 < a0.size := (by have : (0 : Int) < (a0.size : Int) := of_decide_eq_true (by first | (with_reducible assumption) | assumption); omega)
                  have hx4 : ∀ h : 0 < a0.size, ((a0[0]'h).toNat : Int) = bt a0 0 := bt_at a0 0
                  clear p4
                  have qi4 : (0 < (a0.size : Int)) = True := eq_true (of_decide_eq_true (by first | (with_reducible assumption) | assumption))
                  replace q4 := eq_true q4
                  go_enter Try.func12, Try.ntmps12
                  go_wp2_with (first | ((with_reducible refine gate_callee (f := 22) rfl ?_); refine goesL_ (some 56) rfl rfl Try.func22 (by kernel_rfl) rfl #[.int .i64 (wrap64 (bt a0 0))] rfl (by (try simp only [List.map_toArray, List.map_cons, List.map_nil]); first | done | rfl | (simp only [List.length_drop, List.length_take]; rfl)) ?_; (with_reducible refine (stratumref03_Put.calls k (wrap64 (bt a0 0)) t145 _ A6.out).mono ?_); rintro e w14 ⟨rfl, hb⟩; refine ⟨_, rfl, ?_⟩; have n0_ := Aside0.mk (below_step (by repeat (first | (with_reducible first | exact HB.out | apply below_alloc | apply pw_below_drewN | apply below_drew1) | exact HB.out)) hb); clear HB; have HB := n0_; clear n0_; (try clear hb); (try clear hb2); (try clear hk); (try clear hi)))
                  go_ret2
                  exact ⟨by first | rfl | (simp [errW_none, errW_some] <;> rfl) | (simp [*, errW_none, errW_some] <;> rfl), by repeat (first | (with_reducible first | exact HB.out | apply below_alloc | apply pw_below_drewN | apply below_drew1) | exact HB.out)⟩
                · rw [if_neg c13] at H
                  have c13b0 : ((a0.extract 0 t145.size).toList == t145.toList) = false := beq_eq_false_iff_ne.mpr c13
                  have c13b1 : ((a0.extract 0 t145.size).toList != t145.toList) = true := bne_iff_ne.mpr c13
                  simp only [Option.some.injEq, Prod.mk.injEq] at H
                  obtain ⟨rfl, rfl⟩ := H
                  have p4 : 0 ≤ (0 : Int) := (by omega)
                  have q4 : 0 < a0.size := (by have : (0 : Int) < (a0.size : Int) := of_decide_eq_true (by first | (with_reducible assumption) | assumption); omega)
                  have hx4 : ∀ h : 0 < a0.size, ((a0[0]'h).toNat : Int) = bt a0 0 := bt_at a0 0
                  clear p4
                  have qi4 : (0 < (a0.size : Int)) = True := eq_true (of_decide_eq_true (by first | (with_reducible assumption) | assumption))
                  replace q4 := eq_true q4
                  go_enter Try.func12, Try.ntmps12
                  go_wp2_with (first | ((with_reducible refine gate_callee (f := 22) rfl ?_); refine goesL_ (some 56) rfl rfl Try.func22 (by kernel_rfl) rfl #[.int .i64 (wrap64 (bt a0 0))] rfl (by (try simp only [List.map_toArray, List.map_cons, List.map_nil]); first | done | rfl | (simp only [List.length_drop, List.length_take]; rfl)) ?_; (with_reducible refine (stratumref03_Put.calls k (wrap64 (bt a0 0)) t145 _ A6.out).mono ?_); rintro e w15 ⟨rfl, hb⟩; refine ⟨_, rfl, ?_⟩; have n0_ := Aside0.mk (below_step (by repeat (first | (with_reducible first | exact HB.out | apply below_alloc | apply pw_below_drewN | apply below_drew1) | exact HB.out)) hb); clear HB; have HB := n0_; clear n0_; (try clear hb); (try clear hb2); (try clear hk); (try clear hi)))
                  go_ret2
                  exact ⟨by first | rfl | (simp [errW_none, errW_some] <;> rfl) | (simp [*, errW_none, errW_some] <;> rfl), by repeat (first | (with_reducible first | exact HB.out | apply below_alloc | apply pw_below_drewN | apply below_drew1) | exact HB.out)⟩
              · rw [if_neg c12] at H
                exact absurd H (by simp)
            · rw [if_neg c11] at H
              exact absurd H (by simp)
      · rw [if_neg c5] at H
        have c5b0 : decide ((wrap64 (bt a0 0)) < 128) = false := decide_eq_false c5
        clear c5
        have HC16 := Aside0.mk H
        clear H
        have p4 : 0 ≤ (0 : Int) := (by omega)
        have q4 : 0 < a0.size := (by have : (0 : Int) < (a0.size : Int) := of_decide_eq_true (by first | (with_reducible assumption) | assumption); omega)
        have hx4 : ∀ h : 0 < a0.size, ((a0[0]'h).toNat : Int) = bt a0 0 := bt_at a0 0
        clear p4
        have qi4 : (0 < (a0.size : Int)) = True := eq_true (of_decide_eq_true (by first | (with_reducible assumption) | assumption))
        replace q4 := eq_true q4
        go_enter Try.func12, Try.ntmps12
        go_upto_region 7 with (fail)
        go_cut [16] (fun v16 wc => ∃ (kq : Nat) (x16_15 : Bool), v16 = .bool x16_15 ∧ Aside0 (stratumref03_Next.j0 kq a0 (wrap64 (bt a0 0)) (-1) x16_15 = some (r1, r2)) ∧ Aside0 (kq ≤ k) ∧ Aside0 (Below w.heap.size w wc))
        case first =>
          have H := HC16.out
          clear HC16
          by_cases c17 : (wrap64 (bt a0 0)) ≥ 192
          · rw [if_pos c17] at H
            have c17b0 : decide (192 ≤ (wrap64 (bt a0 0))) = true := decide_eq_true c17
            clear c17
            (first | rw [c17b0] | (simp only [i64_w, i32_w]; rw [c17b0]) | skip)
            have H' := Aside0.mk H
            clear H
            go_wp2
            go_meet
            case rel => exact ⟨_, (decide ((wrap64 (bt a0 0)) < 224)), (by first | rfl | (simp; done) | (simp [*]; done)), H', ⟨by first | omega | exact Nat.le_refl _⟩, ⟨by repeat (first | (with_reducible first | exact HB.out | apply below_alloc | apply pw_below_drewN | apply below_drew1) | exact HB.out)⟩⟩
          · rw [if_neg c17] at H
            have c17b0 : decide (192 ≤ (wrap64 (bt a0 0))) = false := decide_eq_false c17
            clear c17
            (first | rw [c17b0] | (simp only [i64_w, i32_w]; rw [c17b0]) | skip)
            have H' := Aside0.mk H
            clear H
            go_wp2
            go_meet
            case rel => exact ⟨_, (false), (by first | rfl | (simp; done) | (simp [*]; done)), H', ⟨by first | omega | exact Nat.le_refl _⟩, ⟨by repeat (first | (with_reducible first | exact HB.out | apply below_alloc | apply pw_below_drewN | apply below_drew1) | exact HB.out)⟩⟩
        case rest =>
          clear HC16
          try clear c1
          try clear c2
          try clear c2b0
          try clear c2b1
          try clear p2
          try clear c3
          try clear c3b0
          try clear c3b1
          try clear p4
          try clear q4
          try clear hx4
          try clear qi4
          try clear c5
          try clear c5b0
          try clear p6
          try clear c7
          try clear c7b0
          try clear c7b1
          try clear c9
          try clear c9b0
          try clear c9b1
          try clear c11
          try clear c11b0
          try clear c11b1
          try clear c12
          try clear c12b0
          try clear c12b1
          try clear c13
          try clear c13b0
          try clear c13b1
          try clear c17
          try clear c17b0
          try clear p4
          try clear q4
          obtain ⟨kq, x16_15, rfl, HA, HJ15, HB⟩ := hcut
          cases kq with
          | zero => exact absurd HA.out (by simp [stratumref03_Next.j0])
          | succ kj15 =>
            have H := HA.out
            clear HA
            simp only [stratumref03_Next.j0] at H
            by_cases c18 : x16_15 = true
            · subst c18
              have H1 : ((stratumref03_more.f (wrap64 ((wrap64 (bt a0 0)) - 192)) a0 1).bind fun t146 => ((stratumref03_Put.f kj15 t146).bind fun t147 => (if t147.toList = ([] : List UInt8) then (some ((-1), 1)) else (if (t147.size : Int) > (a0.size : Int) then (some ((-1), 1)) else (if 0 ≤ (t147.size : Int) then (if (t147.size : Int) ≤ (a0.size : Int) then (if (a0.extract 0 t147.size).toList = t147.toList then (some (t146, (t147.size : Int))) else (some ((-1), 1))) else (none)) else (none)))))) = some (r1, r2) := by rw [if_pos rfl] at H; exact H
              clear H
              have H := H1
              clear H1
              replace H := Option.bind_eq_some_iff.mp H
              obtain ⟨t146, A190, H⟩ := H
              replace H : ((stratumref03_Put.f kj15 t146).bind fun t147 => (if t147.toList = ([] : List UInt8) then (some ((-1), 1)) else (if (t147.size : Int) > (a0.size : Int) then (some ((-1), 1)) else (if 0 ≤ (t147.size : Int) then (if (t147.size : Int) ≤ (a0.size : Int) then (if (a0.extract 0 t147.size).toList = t147.toList then (some (t146, (t147.size : Int))) else (some ((-1), 1))) else (none)) else (none))))) = some (r1, r2) := H
              have A19 := Aside0.mk A190
              clear A190
              replace H := Option.bind_eq_some_iff.mp H
              obtain ⟨t147, A200, H⟩ := H
              replace H : (if t147.toList = ([] : List UInt8) then (some ((-1), 1)) else (if (t147.size : Int) > (a0.size : Int) then (some ((-1), 1)) else (if 0 ≤ (t147.size : Int) then (if (t147.size : Int) ≤ (a0.size : Int) then (if (a0.extract 0 t147.size).toList = t147.toList then (some (t146, (t147.size : Int))) else (some ((-1), 1))) else (none)) else (none)))) = some (r1, r2) := H
              have A20 := Aside0.mk A200
              clear A200
              by_cases c21 : t147.toList = ([] : List UInt8)
              · rw [if_pos c21] at H
                have c21b0 : (t147.toList == ([] : List UInt8)) = true := beq_iff_eq.mpr c21
                have c21b1 : (t147.toList != ([] : List UInt8)) = false := bne_eq_false_iff_eq.mpr c21
                clear c21
                simp only [Option.some.injEq, Prod.mk.injEq] at H
                obtain ⟨rfl, rfl⟩ := H
                go_wp2_with (first | ((with_reducible refine gate_callee (f := 24) rfl ?_); refine goesL_ (some 26) rfl rfl Try.func24 (by kernel_rfl) rfl #[.int .i64 (wrap64 ((wrap64 (bt a0 0)) - 192)), .string a0, .int .i64 1] rfl (by (try simp only [List.map_toArray, List.map_cons, List.map_nil]); first | done | rfl | (simp only [List.length_drop, List.length_take]; rfl)) ?_; (with_reducible refine (stratumref03_more.calls (wrap64 ((wrap64 (bt a0 0)) - 192)) a0 1 t146 _ A19.out).mono ?_); rintro e w' ⟨rfl, ⟨nd, rfl⟩⟩; refine ⟨_, rfl, ?_⟩) | ((with_reducible refine gate_callee (f := 22) rfl ?_); refine goesL_ (some 56) rfl rfl Try.func22 (by kernel_rfl) rfl #[.int .i64 t146] rfl (by (try simp only [List.map_toArray, List.map_cons, List.map_nil]); first | done | rfl | (simp only [List.length_drop, List.length_take]; rfl)) ?_; (with_reducible refine (stratumref03_Put.calls kj15 t146 t147 _ A20.out).mono ?_); rintro e w22 ⟨rfl, hb⟩; refine ⟨_, rfl, ?_⟩; have n0_ := Aside0.mk (below_step (by repeat (first | (with_reducible first | exact HB.out | apply below_alloc | apply pw_below_drewN | apply below_drew1) | exact HB.out)) hb); clear HB; have HB := n0_; clear n0_; (try clear hb); (try clear hb2); (try clear hk); (try clear hi)))
                go_ret2
                exact ⟨by first | rfl | (simp [errW_none, errW_some] <;> rfl) | (simp [*, errW_none, errW_some] <;> rfl), by repeat (first | (with_reducible first | exact HB.out | apply below_alloc | apply pw_below_drewN | apply below_drew1) | exact HB.out)⟩
              · rw [if_neg c21] at H
                have c21b0 : (t147.toList == ([] : List UInt8)) = false := beq_eq_false_iff_ne.mpr c21
                have c21b1 : (t147.toList != ([] : List UInt8)) = true := bne_iff_ne.mpr c21
                by_cases c23 : (t147.size : Int) > (a0.size : Int)
                · rw [if_pos c23] at H
                  have c23b0 : decide ((a0.size : Int) < (t147.size : Int)) = true := decide_eq_true c23
                  have c23b1 : decide (a0.size < t147.size) = true := decide_eq_true (Int.ofNat_lt.mp c23)
                  clear c23
                  simp only [Option.some.injEq, Prod.mk.injEq] at H
                  obtain ⟨rfl, rfl⟩ := H
                  go_wp2_with (first | ((with_reducible refine gate_callee (f := 24) rfl ?_); refine goesL_ (some 26) rfl rfl Try.func24 (by kernel_rfl) rfl #[.int .i64 (wrap64 ((wrap64 (bt a0 0)) - 192)), .string a0, .int .i64 1] rfl (by (try simp only [List.map_toArray, List.map_cons, List.map_nil]); first | done | rfl | (simp only [List.length_drop, List.length_take]; rfl)) ?_; (with_reducible refine (stratumref03_more.calls (wrap64 ((wrap64 (bt a0 0)) - 192)) a0 1 t146 _ A19.out).mono ?_); rintro e w' ⟨rfl, ⟨nd, rfl⟩⟩; refine ⟨_, rfl, ?_⟩) | ((with_reducible refine gate_callee (f := 22) rfl ?_); refine goesL_ (some 56) rfl rfl Try.func22 (by kernel_rfl) rfl #[.int .i64 t146] rfl (by (try simp only [List.map_toArray, List.map_cons, List.map_nil]); first | done | rfl | (simp only [List.length_drop, List.length_take]; rfl)) ?_; (with_reducible refine (stratumref03_Put.calls kj15 t146 t147 _ A20.out).mono ?_); rintro e w24 ⟨rfl, hb⟩; refine ⟨_, rfl, ?_⟩; have n0_ := Aside0.mk (below_step (by repeat (first | (with_reducible first | exact HB.out | apply below_alloc | apply pw_below_drewN | apply below_drew1) | exact HB.out)) hb); clear HB; have HB := n0_; clear n0_; (try clear hb); (try clear hb2); (try clear hk); (try clear hi)))
                  go_ret2
                  exact ⟨by first | rfl | (simp [errW_none, errW_some] <;> rfl) | (simp [*, errW_none, errW_some] <;> rfl), by repeat (first | (with_reducible first | exact HB.out | apply below_alloc | apply pw_below_drewN | apply below_drew1) | exact HB.out)⟩
                · rw [if_neg c23] at H
                  have c23b0 : decide ((a0.size : Int) < (t147.size : Int)) = false := decide_eq_false c23
                  have c23b1 : decide (a0.size < t147.size) = false := decide_eq_false (fun h => c23 (Int.ofNat_lt.mpr h))
                  clear c23
                  by_cases c25 : 0 ≤ (t147.size : Int)
                  · rw [if_pos c25] at H
                    have c25b0 := eq_true c25
                    have c25b1 : decide (0 ≤ (t147.size : Int)) = true := decide_eq_true c25
                    clear c25
                    by_cases c26 : (t147.size : Int) ≤ (a0.size : Int)
                    · rw [if_pos c26] at H
                      have c26b0 := eq_true c26
                      have c26b1 : decide ((t147.size : Int) ≤ (a0.size : Int)) = true := decide_eq_true c26
                      clear c26
                      by_cases c27 : (a0.extract 0 t147.size).toList = t147.toList
                      · rw [if_pos c27] at H
                        have c27b0 : ((a0.extract 0 t147.size).toList == t147.toList) = true := beq_iff_eq.mpr c27
                        have c27b1 : ((a0.extract 0 t147.size).toList != t147.toList) = false := bne_eq_false_iff_eq.mpr c27
                        clear c27
                        simp only [Option.some.injEq, Prod.mk.injEq] at H
                        obtain ⟨rfl, rfl⟩ := H
                        go_wp2_with (first | ((with_reducible refine gate_callee (f := 24) rfl ?_); refine goesL_ (some 26) rfl rfl Try.func24 (by kernel_rfl) rfl #[.int .i64 (wrap64 ((wrap64 (bt a0 0)) - 192)), .string a0, .int .i64 1] rfl (by (try simp only [List.map_toArray, List.map_cons, List.map_nil]); first | done | rfl | (simp only [List.length_drop, List.length_take]; rfl)) ?_; (with_reducible refine (stratumref03_more.calls (wrap64 ((wrap64 (bt a0 0)) - 192)) a0 1 t146 _ A19.out).mono ?_); rintro e w' ⟨rfl, ⟨nd, rfl⟩⟩; refine ⟨_, rfl, ?_⟩) | ((with_reducible refine gate_callee (f := 22) rfl ?_); refine goesL_ (some 56) rfl rfl Try.func22 (by kernel_rfl) rfl #[.int .i64 t146] rfl (by (try simp only [List.map_toArray, List.map_cons, List.map_nil]); first | done | rfl | (simp only [List.length_drop, List.length_take]; rfl)) ?_; (with_reducible refine (stratumref03_Put.calls kj15 t146 t147 _ A20.out).mono ?_); rintro e w28 ⟨rfl, hb⟩; refine ⟨_, rfl, ?_⟩; have n0_ := Aside0.mk (below_step (by repeat (first | (with_reducible first | exact HB.out | apply below_alloc | apply pw_below_drewN | apply below_drew1) | exact HB.out)) hb); clear HB; have HB := n0_; clear n0_; (try clear hb); (try clear hb2); (try clear hk); (try clear hi)))
                        go_ret2
                        exact ⟨by first | rfl | (simp [errW_none, errW_some] <;> rfl) | (simp [*, errW_none, errW_some] <;> rfl), by repeat (first | (with_reducible first | exact HB.out | apply below_alloc | apply pw_below_drewN | apply below_drew1) | exact HB.out)⟩
                      · rw [if_neg c27] at H
                        have c27b0 : ((a0.extract 0 t147.size).toList == t147.toList) = false := beq_eq_false_iff_ne.mpr c27
                        have c27b1 : ((a0.extract 0 t147.size).toList != t147.toList) = true := bne_iff_ne.mpr c27
                        simp only [Option.some.injEq, Prod.mk.injEq] at H
                        obtain ⟨rfl, rfl⟩ := H
                        go_wp2_with (first | ((with_reducible refine gate_callee (f := 24) rfl ?_); refine goesL_ (some 26) rfl rfl Try.func24 (by kernel_rfl) rfl #[.int .i64 (wrap64 ((wrap64 (bt a0 0)) - 192)), .string a0, .int .i64 1] rfl (by (try simp only [List.map_toArray, List.map_cons, List.map_nil]); first | done | rfl | (simp only [List.length_drop, List.length_take]; rfl)) ?_; (with_reducible refine (stratumref03_more.calls (wrap64 ((wrap64 (bt a0 0)) - 192)) a0 1 t146 _ A19.out).mono ?_); rintro e w' ⟨rfl, ⟨nd, rfl⟩⟩; refine ⟨_, rfl, ?_⟩) | ((with_reducible refine gate_callee (f := 22) rfl ?_); refine goesL_ (some 56) rfl rfl Try.func22 (by kernel_rfl) rfl #[.int .i64 t146] rfl (by (try simp only [List.map_toArray, List.map_cons, List.map_nil]); first | done | rfl | (simp only [List.length_drop, List.length_take]; rfl)) ?_; (with_reducible refine (stratumref03_Put.calls kj15 t146 t147 _ A20.out).mono ?_); rintro e w29 ⟨rfl, hb⟩; refine ⟨_, rfl, ?_⟩; have n0_ := Aside0.mk (below_step (by repeat (first | (with_reducible first | exact HB.out | apply below_alloc | apply pw_below_drewN | apply below_drew1) | exact HB.out)) hb); clear HB; have HB := n0_; clear n0_; (try clear hb); (try clear hb2); (try clear hk); (try clear hi)))
                        go_ret2
                        exact ⟨by first | rfl | (simp [errW_none, errW_some] <;> rfl) | (simp [*, errW_none, errW_some] <;> rfl), by repeat (first | (with_reducible first | exact HB.out | apply below_alloc | apply pw_below_drewN | apply below_drew1) | exact HB.out)⟩
                    · rw [if_neg c26] at H
                      exact absurd H (by simp)
                  · rw [if_neg c25] at H
                    exact absurd H (by simp)
            · replace c18 := Bool.eq_false_iff.mpr c18
              subst c18
              have H1 : (if (wrap64 (bt a0 0)) ≥ 224 then (stratumref03_Next.j1 kj15 a0 (wrap64 (bt a0 0)) (-1) (decide ((wrap64 (bt a0 0)) < 240))) else (stratumref03_Next.j1 kj15 a0 (wrap64 (bt a0 0)) (-1) false)) = some (r1, r2) := by rw [if_neg (show ¬ (false = true) by decide)] at H; exact H
              clear H
              have H := H1
              clear H1
              have HC30 := Aside0.mk H
              clear H
              go_upto_region 9 with (fail)
              go_cut [27] (fun v27 wc => ∃ (kq : Nat) (x27_29 : Bool), v27 = .bool x27_29 ∧ Aside0 (stratumref03_Next.j1 kq a0 (wrap64 (bt a0 0)) (-1) x27_29 = some (r1, r2)) ∧ Aside0 (kq ≤ kj15) ∧ Aside0 (Below w.heap.size w wc))
              case first =>
                have H := HC30.out
                clear HC30
                by_cases c31 : (wrap64 (bt a0 0)) ≥ 224
                · rw [if_pos c31] at H
                  have c31b0 : decide (224 ≤ (wrap64 (bt a0 0))) = true := decide_eq_true c31
                  clear c31
                  (first | rw [c31b0] | (simp only [i64_w, i32_w]; rw [c31b0]) | skip)
                  have H' := Aside0.mk H
                  clear H
                  go_wp2
                  go_meet
                  case rel => exact ⟨_, (decide ((wrap64 (bt a0 0)) < 240)), (by first | rfl | (simp; done) | (simp [*]; done)), H', ⟨by have := HJ15.out; first | omega | exact Nat.le_refl _⟩, ⟨by repeat (first | (with_reducible first | exact HB.out | apply below_alloc | apply pw_below_drewN | apply below_drew1) | exact HB.out)⟩⟩
                · rw [if_neg c31] at H
                  have c31b0 : decide (224 ≤ (wrap64 (bt a0 0))) = false := decide_eq_false c31
                  clear c31
                  (first | rw [c31b0] | (simp only [i64_w, i32_w]; rw [c31b0]) | skip)
                  have H' := Aside0.mk H
                  clear H
                  go_wp2
                  go_meet
                  case rel => exact ⟨_, (false), (by first | rfl | (simp; done) | (simp [*]; done)), H', ⟨by have := HJ15.out; first | omega | exact Nat.le_refl _⟩, ⟨by repeat (first | (with_reducible first | exact HB.out | apply below_alloc | apply pw_below_drewN | apply below_drew1) | exact HB.out)⟩⟩
              case rest =>
                clear HC30
                try clear c1
                try clear c2
                try clear c2b0
                try clear c2b1
                try clear p2
                try clear c3
                try clear c3b0
                try clear c3b1
                try clear p4
                try clear q4
                try clear hx4
                try clear qi4
                try clear c5
                try clear c5b0
                try clear p6
                try clear c7
                try clear c7b0
                try clear c7b1
                try clear c9
                try clear c9b0
                try clear c9b1
                try clear c11
                try clear c11b0
                try clear c11b1
                try clear c12
                try clear c12b0
                try clear c12b1
                try clear c13
                try clear c13b0
                try clear c13b1
                try clear c17
                try clear c17b0
                try clear c18
                try clear c21
                try clear c21b0
                try clear c21b1
                try clear c22
                try clear c23
                try clear c23b0
                try clear c23b1
                try clear c24
                try clear c25
                try clear c25b0
                try clear c25b1
                try clear c26
                try clear c26b0
                try clear c26b1
                try clear c27
                try clear c27b0
                try clear c27b1
                try clear c31
                try clear c31b0
                try clear p2
                try clear p4
                try clear p6
                try clear q4
                obtain ⟨kq, x27_29, rfl, HA, HJ29, HB⟩ := hcut
                cases kq with
                | zero => exact absurd HA.out (by simp [stratumref03_Next.j1])
                | succ kj29 =>
                  have H := HA.out
                  clear HA
                  simp only [stratumref03_Next.j1] at H
                  by_cases c32 : x27_29 = true
                  · subst c32
                    have H1 : ((stratumref03_more.f (wrap64 ((wrap64 (bt a0 0)) - 224)) a0 1).bind fun t148 => ((stratumref03_more.f t148 a0 2).bind fun t149 => ((stratumref03_Put.f kj29 t149).bind fun t150 => (if t150.toList = ([] : List UInt8) then (some ((-1), 1)) else (if (t150.size : Int) > (a0.size : Int) then (some ((-1), 1)) else (if 0 ≤ (t150.size : Int) then (if (t150.size : Int) ≤ (a0.size : Int) then (if (a0.extract 0 t150.size).toList = t150.toList then (some (t149, (t150.size : Int))) else (some ((-1), 1))) else (none)) else (none))))))) = some (r1, r2) := by rw [if_pos rfl] at H; exact H
                    clear H
                    have H := H1
                    clear H1
                    replace H := Option.bind_eq_some_iff.mp H
                    obtain ⟨t148, A330, H⟩ := H
                    replace H : ((stratumref03_more.f t148 a0 2).bind fun t149 => ((stratumref03_Put.f kj29 t149).bind fun t150 => (if t150.toList = ([] : List UInt8) then (some ((-1), 1)) else (if (t150.size : Int) > (a0.size : Int) then (some ((-1), 1)) else (if 0 ≤ (t150.size : Int) then (if (t150.size : Int) ≤ (a0.size : Int) then (if (a0.extract 0 t150.size).toList = t150.toList then (some (t149, (t150.size : Int))) else (some ((-1), 1))) else (none)) else (none)))))) = some (r1, r2) := H
                    have A33 := Aside0.mk A330
                    clear A330
                    replace H := Option.bind_eq_some_iff.mp H
                    obtain ⟨t149, A340, H⟩ := H
                    replace H : ((stratumref03_Put.f kj29 t149).bind fun t150 => (if t150.toList = ([] : List UInt8) then (some ((-1), 1)) else (if (t150.size : Int) > (a0.size : Int) then (some ((-1), 1)) else (if 0 ≤ (t150.size : Int) then (if (t150.size : Int) ≤ (a0.size : Int) then (if (a0.extract 0 t150.size).toList = t150.toList then (some (t149, (t150.size : Int))) else (some ((-1), 1))) else (none)) else (none))))) = some (r1, r2) := H
                    have A34 := Aside0.mk A340
                    clear A340
                    replace H := Option.bind_eq_some_iff.mp H
                    obtain ⟨t150, A350, H⟩ := H
                    replace H : (if t150.toList = ([] : List UInt8) then (some ((-1), 1)) else (if (t150.size : Int) > (a0.size : Int) then (some ((-1), 1)) else (if 0 ≤ (t150.size : Int) then (if (t150.size : Int) ≤ (a0.size : Int) then (if (a0.extract 0 t150.size).toList = t150.toList then (some (t149, (t150.size : Int))) else (some ((-1), 1))) else (none)) else (none)))) = some (r1, r2) := H
                    have A35 := Aside0.mk A350
                    clear A350
                    by_cases c36 : t150.toList = ([] : List UInt8)
                    · rw [if_pos c36] at H
                      have c36b0 : (t150.toList == ([] : List UInt8)) = true := beq_iff_eq.mpr c36
                      have c36b1 : (t150.toList != ([] : List UInt8)) = false := bne_eq_false_iff_eq.mpr c36
                      clear c36
                      simp only [Option.some.injEq, Prod.mk.injEq] at H
                      obtain ⟨rfl, rfl⟩ := H
                      go_wp2_with (first | ((with_reducible refine gate_callee (f := 24) rfl ?_); refine goesL_ (some 37) rfl rfl Try.func24 (by kernel_rfl) rfl #[.int .i64 (wrap64 ((wrap64 (bt a0 0)) - 224)), .string a0, .int .i64 1] rfl (by (try simp only [List.map_toArray, List.map_cons, List.map_nil]); first | done | rfl | (simp only [List.length_drop, List.length_take]; rfl)) ?_; (with_reducible refine (stratumref03_more.calls (wrap64 ((wrap64 (bt a0 0)) - 224)) a0 1 t148 _ A33.out).mono ?_); rintro e w' ⟨rfl, ⟨nd, rfl⟩⟩; refine ⟨_, rfl, ?_⟩) | ((with_reducible refine gate_callee (f := 24) rfl ?_); refine goesL_ (some 39) rfl rfl Try.func24 (by kernel_rfl) rfl #[.int .i64 t148, .string a0, .int .i64 2] rfl (by (try simp only [List.map_toArray, List.map_cons, List.map_nil]); first | done | rfl | (simp only [List.length_drop, List.length_take]; rfl)) ?_; (with_reducible refine (stratumref03_more.calls t148 a0 2 t149 _ A34.out).mono ?_); rintro e w' ⟨rfl, ⟨nd, rfl⟩⟩; refine ⟨_, rfl, ?_⟩) | ((with_reducible refine gate_callee (f := 22) rfl ?_); refine goesL_ (some 56) rfl rfl Try.func22 (by kernel_rfl) rfl #[.int .i64 t149] rfl (by (try simp only [List.map_toArray, List.map_cons, List.map_nil]); first | done | rfl | (simp only [List.length_drop, List.length_take]; rfl)) ?_; (with_reducible refine (stratumref03_Put.calls kj29 t149 t150 _ A35.out).mono ?_); rintro e w37 ⟨rfl, hb⟩; refine ⟨_, rfl, ?_⟩; have n0_ := Aside0.mk (below_step (by repeat (first | (with_reducible first | exact HB.out | apply below_alloc | apply pw_below_drewN | apply below_drew1) | exact HB.out)) hb); clear HB; have HB := n0_; clear n0_; (try clear hb); (try clear hb2); (try clear hk); (try clear hi)))
                      go_ret2
                      exact ⟨by first | rfl | (simp [errW_none, errW_some] <;> rfl) | (simp [*, errW_none, errW_some] <;> rfl), by repeat (first | (with_reducible first | exact HB.out | apply below_alloc | apply pw_below_drewN | apply below_drew1) | exact HB.out)⟩
                    · rw [if_neg c36] at H
                      have c36b0 : (t150.toList == ([] : List UInt8)) = false := beq_eq_false_iff_ne.mpr c36
                      have c36b1 : (t150.toList != ([] : List UInt8)) = true := bne_iff_ne.mpr c36
                      by_cases c38 : (t150.size : Int) > (a0.size : Int)
                      · rw [if_pos c38] at H
                        have c38b0 : decide ((a0.size : Int) < (t150.size : Int)) = true := decide_eq_true c38
                        have c38b1 : decide (a0.size < t150.size) = true := decide_eq_true (Int.ofNat_lt.mp c38)
                        clear c38
                        simp only [Option.some.injEq, Prod.mk.injEq] at H
                        obtain ⟨rfl, rfl⟩ := H
                        go_wp2_with (first | ((with_reducible refine gate_callee (f := 24) rfl ?_); refine goesL_ (some 37) rfl rfl Try.func24 (by kernel_rfl) rfl #[.int .i64 (wrap64 ((wrap64 (bt a0 0)) - 224)), .string a0, .int .i64 1] rfl (by (try simp only [List.map_toArray, List.map_cons, List.map_nil]); first | done | rfl | (simp only [List.length_drop, List.length_take]; rfl)) ?_; (with_reducible refine (stratumref03_more.calls (wrap64 ((wrap64 (bt a0 0)) - 224)) a0 1 t148 _ A33.out).mono ?_); rintro e w' ⟨rfl, ⟨nd, rfl⟩⟩; refine ⟨_, rfl, ?_⟩) | ((with_reducible refine gate_callee (f := 24) rfl ?_); refine goesL_ (some 39) rfl rfl Try.func24 (by kernel_rfl) rfl #[.int .i64 t148, .string a0, .int .i64 2] rfl (by (try simp only [List.map_toArray, List.map_cons, List.map_nil]); first | done | rfl | (simp only [List.length_drop, List.length_take]; rfl)) ?_; (with_reducible refine (stratumref03_more.calls t148 a0 2 t149 _ A34.out).mono ?_); rintro e w' ⟨rfl, ⟨nd, rfl⟩⟩; refine ⟨_, rfl, ?_⟩) | ((with_reducible refine gate_callee (f := 22) rfl ?_); refine goesL_ (some 56) rfl rfl Try.func22 (by kernel_rfl) rfl #[.int .i64 t149] rfl (by (try simp only [List.map_toArray, List.map_cons, List.map_nil]); first | done | rfl | (simp only [List.length_drop, List.length_take]; rfl)) ?_; (with_reducible refine (stratumref03_Put.calls kj29 t149 t150 _ A35.out).mono ?_); rintro e w39 ⟨rfl, hb⟩; refine ⟨_, rfl, ?_⟩; have n0_ := Aside0.mk (below_step (by repeat (first | (with_reducible first | exact HB.out | apply below_alloc | apply pw_below_drewN | apply below_drew1) | exact HB.out)) hb); clear HB; have HB := n0_; clear n0_; (try clear hb); (try clear hb2); (try clear hk); (try clear hi)))
                        go_ret2
                        exact ⟨by first | rfl | (simp [errW_none, errW_some] <;> rfl) | (simp [*, errW_none, errW_some] <;> rfl), by repeat (first | (with_reducible first | exact HB.out | apply below_alloc | apply pw_below_drewN | apply below_drew1) | exact HB.out)⟩
                      · rw [if_neg c38] at H
                        have c38b0 : decide ((a0.size : Int) < (t150.size : Int)) = false := decide_eq_false c38
                        have c38b1 : decide (a0.size < t150.size) = false := decide_eq_false (fun h => c38 (Int.ofNat_lt.mpr h))
                        clear c38
                        by_cases c40 : 0 ≤ (t150.size : Int)
                        · rw [if_pos c40] at H
                          have c40b0 := eq_true c40
                          have c40b1 : decide (0 ≤ (t150.size : Int)) = true := decide_eq_true c40
                          clear c40
                          by_cases c41 : (t150.size : Int) ≤ (a0.size : Int)
                          · rw [if_pos c41] at H
                            have c41b0 := eq_true c41
                            have c41b1 : decide ((t150.size : Int) ≤ (a0.size : Int)) = true := decide_eq_true c41
                            clear c41
                            by_cases c42 : (a0.extract 0 t150.size).toList = t150.toList
                            · rw [if_pos c42] at H
                              have c42b0 : ((a0.extract 0 t150.size).toList == t150.toList) = true := beq_iff_eq.mpr c42
                              have c42b1 : ((a0.extract 0 t150.size).toList != t150.toList) = false := bne_eq_false_iff_eq.mpr c42
                              clear c42
                              simp only [Option.some.injEq, Prod.mk.injEq] at H
                              obtain ⟨rfl, rfl⟩ := H
                              go_wp2_with (first | ((with_reducible refine gate_callee (f := 24) rfl ?_); refine goesL_ (some 37) rfl rfl Try.func24 (by kernel_rfl) rfl #[.int .i64 (wrap64 ((wrap64 (bt a0 0)) - 224)), .string a0, .int .i64 1] rfl (by (try simp only [List.map_toArray, List.map_cons, List.map_nil]); first | done | rfl | (simp only [List.length_drop, List.length_take]; rfl)) ?_; (with_reducible refine (stratumref03_more.calls (wrap64 ((wrap64 (bt a0 0)) - 224)) a0 1 t148 _ A33.out).mono ?_); rintro e w' ⟨rfl, ⟨nd, rfl⟩⟩; refine ⟨_, rfl, ?_⟩) | ((with_reducible refine gate_callee (f := 24) rfl ?_); refine goesL_ (some 39) rfl rfl Try.func24 (by kernel_rfl) rfl #[.int .i64 t148, .string a0, .int .i64 2] rfl (by (try simp only [List.map_toArray, List.map_cons, List.map_nil]); first | done | rfl | (simp only [List.length_drop, List.length_take]; rfl)) ?_; (with_reducible refine (stratumref03_more.calls t148 a0 2 t149 _ A34.out).mono ?_); rintro e w' ⟨rfl, ⟨nd, rfl⟩⟩; refine ⟨_, rfl, ?_⟩) | ((with_reducible refine gate_callee (f := 22) rfl ?_); refine goesL_ (some 56) rfl rfl Try.func22 (by kernel_rfl) rfl #[.int .i64 t149] rfl (by (try simp only [List.map_toArray, List.map_cons, List.map_nil]); first | done | rfl | (simp only [List.length_drop, List.length_take]; rfl)) ?_; (with_reducible refine (stratumref03_Put.calls kj29 t149 t150 _ A35.out).mono ?_); rintro e w43 ⟨rfl, hb⟩; refine ⟨_, rfl, ?_⟩; have n0_ := Aside0.mk (below_step (by repeat (first | (with_reducible first | exact HB.out | apply below_alloc | apply pw_below_drewN | apply below_drew1) | exact HB.out)) hb); clear HB; have HB := n0_; clear n0_; (try clear hb); (try clear hb2); (try clear hk); (try clear hi)))
                              go_ret2
                              exact ⟨by first | rfl | (simp [errW_none, errW_some] <;> rfl) | (simp [*, errW_none, errW_some] <;> rfl), by repeat (first | (with_reducible first | exact HB.out | apply below_alloc | apply pw_below_drewN | apply below_drew1) | exact HB.out)⟩
                            · rw [if_neg c42] at H
                              have c42b0 : ((a0.extract 0 t150.size).toList == t150.toList) = false := beq_eq_false_iff_ne.mpr c42
                              have c42b1 : ((a0.extract 0 t150.size).toList != t150.toList) = true := bne_iff_ne.mpr c42
                              simp only [Option.some.injEq, Prod.mk.injEq] at H
                              obtain ⟨rfl, rfl⟩ := H
                              go_wp2_with (first | ((with_reducible refine gate_callee (f := 24) rfl ?_); refine goesL_ (some 37) rfl rfl Try.func24 (by kernel_rfl) rfl #[.int .i64 (wrap64 ((wrap64 (bt a0 0)) - 224)), .string a0, .int .i64 1] rfl (by (try simp only [List.map_toArray, List.map_cons, List.map_nil]); first | done | rfl | (simp only [List.length_drop, List.length_take]; rfl)) ?_; (with_reducible refine (stratumref03_more.calls (wrap64 ((wrap64 (bt a0 0)) - 224)) a0 1 t148 _ A33.out).mono ?_); rintro e w' ⟨rfl, ⟨nd, rfl⟩⟩; refine ⟨_, rfl, ?_⟩) | ((with_reducible refine gate_callee (f := 24) rfl ?_); refine goesL_ (some 39) rfl rfl Try.func24 (by kernel_rfl) rfl #[.int .i64 t148, .string a0, .int .i64 2] rfl (by (try simp only [List.map_toArray, List.map_cons, List.map_nil]); first | done | rfl | (simp only [List.length_drop, List.length_take]; rfl)) ?_; (with_reducible refine (stratumref03_more.calls t148 a0 2 t149 _ A34.out).mono ?_); rintro e w' ⟨rfl, ⟨nd, rfl⟩⟩; refine ⟨_, rfl, ?_⟩) | ((with_reducible refine gate_callee (f := 22) rfl ?_); refine goesL_ (some 56) rfl rfl Try.func22 (by kernel_rfl) rfl #[.int .i64 t149] rfl (by (try simp only [List.map_toArray, List.map_cons, List.map_nil]); first | done | rfl | (simp only [List.length_drop, List.length_take]; rfl)) ?_; (with_reducible refine (stratumref03_Put.calls kj29 t149 t150 _ A35.out).mono ?_); rintro e w44 ⟨rfl, hb⟩; refine ⟨_, rfl, ?_⟩; have n0_ := Aside0.mk (below_step (by repeat (first | (with_reducible first | exact HB.out | apply below_alloc | apply pw_below_drewN | apply below_drew1) | exact HB.out)) hb); clear HB; have HB := n0_; clear n0_; (try clear hb); (try clear hb2); (try clear hk); (try clear hi)))
                              go_ret2
                              exact ⟨by first | rfl | (simp [errW_none, errW_some] <;> rfl) | (simp [*, errW_none, errW_some] <;> rfl), by repeat (first | (with_reducible first | exact HB.out | apply below_alloc | apply pw_below_drewN | apply below_drew1) | exact HB.out)⟩
                          · rw [if_neg c41] at H
                            exact absurd H (by simp)
                        · rw [if_neg c40] at H
                          exact absurd H (by simp)
                  · replace c32 := Bool.eq_false_iff.mpr c32
                    subst c32
                    have H1 : (if (wrap64 (bt a0 0)) ≥ 240 then (stratumref03_Next.j2 kj29 a0 (wrap64 (bt a0 0)) (-1) (decide ((wrap64 (bt a0 0)) < 248))) else (stratumref03_Next.j2 kj29 a0 (wrap64 (bt a0 0)) (-1) false)) = some (r1, r2) := by rw [if_neg (show ¬ (false = true) by decide)] at H; exact H
                    clear H
                    have H := H1
                    clear H1
                    have HC45 := Aside0.mk H
                    clear H
                    go_upto_region 11 with (fail)
                    go_cut [40] (fun v40 wc => ∃ (kq : Nat) (x40_44 : Bool), v40 = .bool x40_44 ∧ Aside0 (stratumref03_Next.j2 kq a0 (wrap64 (bt a0 0)) (-1) x40_44 = some (r1, r2)) ∧ Aside0 (kq ≤ kj29) ∧ Aside0 (Below w.heap.size w wc))
                    case first =>
                      have H := HC45.out
                      clear HC45
                      by_cases c46 : (wrap64 (bt a0 0)) ≥ 240
                      · rw [if_pos c46] at H
                        have c46b0 : decide (240 ≤ (wrap64 (bt a0 0))) = true := decide_eq_true c46
                        clear c46
                        (first | rw [c46b0] | (simp only [i64_w, i32_w]; rw [c46b0]) | skip)
                        have H' := Aside0.mk H
                        clear H
                        go_wp2
                        go_meet
                        case rel => exact ⟨_, (decide ((wrap64 (bt a0 0)) < 248)), (by first | rfl | (simp; done) | (simp [*]; done)), H', ⟨by have := HJ15.out; have := HJ29.out; first | omega | exact Nat.le_refl _⟩, ⟨by repeat (first | (with_reducible first | exact HB.out | apply below_alloc | apply pw_below_drewN | apply below_drew1) | exact HB.out)⟩⟩
                      · rw [if_neg c46] at H
                        have c46b0 : decide (240 ≤ (wrap64 (bt a0 0))) = false := decide_eq_false c46
                        clear c46
                        (first | rw [c46b0] | (simp only [i64_w, i32_w]; rw [c46b0]) | skip)
                        have H' := Aside0.mk H
                        clear H
                        go_wp2
                        go_meet
                        case rel => exact ⟨_, (false), (by first | rfl | (simp; done) | (simp [*]; done)), H', ⟨by have := HJ15.out; have := HJ29.out; first | omega | exact Nat.le_refl _⟩, ⟨by repeat (first | (with_reducible first | exact HB.out | apply below_alloc | apply pw_below_drewN | apply below_drew1) | exact HB.out)⟩⟩
                    case rest =>
                      clear HC45
                      try clear c1
                      try clear c2
                      try clear c2b0
                      try clear c2b1
                      try clear p2
                      try clear c3
                      try clear c3b0
                      try clear c3b1
                      try clear c4
                      try clear p4
                      try clear q4
                      try clear hx4
                      try clear qi4
                      try clear c5
                      try clear c5b0
                      try clear p6
                      try clear c7
                      try clear c7b0
                      try clear c7b1
                      try clear c9
                      try clear c9b0
                      try clear c9b1
                      try clear c11
                      try clear c11b0
                      try clear c11b1
                      try clear c12
                      try clear c12b0
                      try clear c12b1
                      try clear c13
                      try clear c13b0
                      try clear c13b1
                      try clear c17
                      try clear c17b0
                      try clear c18
                      try clear c21
                      try clear c21b0
                      try clear c21b1
                      try clear c22
                      try clear c23
                      try clear c23b0
                      try clear c23b1
                      try clear c24
                      try clear c25
                      try clear c25b0
                      try clear c25b1
                      try clear c26
                      try clear c26b0
                      try clear c26b1
                      try clear c27
                      try clear c27b0
                      try clear c27b1
                      try clear c31
                      try clear c31b0
                      try clear c32
                      try clear c36
                      try clear c36b0
                      try clear c36b1
                      try clear c38
                      try clear c38b0
                      try clear c38b1
                      try clear c40
                      try clear c40b0
                      try clear c40b1
                      try clear c41
                      try clear c41b0
                      try clear c41b1
                      try clear c42
                      try clear c42b0
                      try clear c42b1
                      try clear c46
                      try clear c46b0
                      try clear p2
                      try clear p4
                      try clear p6
                      try clear q4
                      obtain ⟨kq, x40_44, rfl, HA, HJ44, HB⟩ := hcut
                      cases kq with
                      | zero => exact absurd HA.out (by simp [stratumref03_Next.j2])
                      | succ kj44 =>
                        have H := HA.out
                        clear HA
                        simp only [stratumref03_Next.j2] at H
                        by_cases c47 : x40_44 = true
                        · subst c47
                          have H1 : ((stratumref03_more.f (wrap64 ((wrap64 (bt a0 0)) - 240)) a0 1).bind fun t151 => ((stratumref03_more.f t151 a0 2).bind fun t152 => ((stratumref03_more.f t152 a0 3).bind fun t153 => ((stratumref03_Put.f kj44 t153).bind fun t154 => (if t154.toList = ([] : List UInt8) then (some ((-1), 1)) else (if (t154.size : Int) > (a0.size : Int) then (some ((-1), 1)) else (if 0 ≤ (t154.size : Int) then (if (t154.size : Int) ≤ (a0.size : Int) then (if (a0.extract 0 t154.size).toList = t154.toList then (some (t153, (t154.size : Int))) else (some ((-1), 1))) else (none)) else (none)))))))) = some (r1, r2) := by rw [if_pos rfl] at H; exact H
                          clear H
                          have H := H1
                          clear H1
                          replace H := Option.bind_eq_some_iff.mp H
                          obtain ⟨t151, A480, H⟩ := H
                          replace H : ((stratumref03_more.f t151 a0 2).bind fun t152 => ((stratumref03_more.f t152 a0 3).bind fun t153 => ((stratumref03_Put.f kj44 t153).bind fun t154 => (if t154.toList = ([] : List UInt8) then (some ((-1), 1)) else (if (t154.size : Int) > (a0.size : Int) then (some ((-1), 1)) else (if 0 ≤ (t154.size : Int) then (if (t154.size : Int) ≤ (a0.size : Int) then (if (a0.extract 0 t154.size).toList = t154.toList then (some (t153, (t154.size : Int))) else (some ((-1), 1))) else (none)) else (none))))))) = some (r1, r2) := H
                          have A48 := Aside0.mk A480
                          clear A480
                          replace H := Option.bind_eq_some_iff.mp H
                          obtain ⟨t152, A490, H⟩ := H
                          replace H : ((stratumref03_more.f t152 a0 3).bind fun t153 => ((stratumref03_Put.f kj44 t153).bind fun t154 => (if t154.toList = ([] : List UInt8) then (some ((-1), 1)) else (if (t154.size : Int) > (a0.size : Int) then (some ((-1), 1)) else (if 0 ≤ (t154.size : Int) then (if (t154.size : Int) ≤ (a0.size : Int) then (if (a0.extract 0 t154.size).toList = t154.toList then (some (t153, (t154.size : Int))) else (some ((-1), 1))) else (none)) else (none)))))) = some (r1, r2) := H
                          have A49 := Aside0.mk A490
                          clear A490
                          replace H := Option.bind_eq_some_iff.mp H
                          obtain ⟨t153, A500, H⟩ := H
                          replace H : ((stratumref03_Put.f kj44 t153).bind fun t154 => (if t154.toList = ([] : List UInt8) then (some ((-1), 1)) else (if (t154.size : Int) > (a0.size : Int) then (some ((-1), 1)) else (if 0 ≤ (t154.size : Int) then (if (t154.size : Int) ≤ (a0.size : Int) then (if (a0.extract 0 t154.size).toList = t154.toList then (some (t153, (t154.size : Int))) else (some ((-1), 1))) else (none)) else (none))))) = some (r1, r2) := H
                          have A50 := Aside0.mk A500
                          clear A500
                          replace H := Option.bind_eq_some_iff.mp H
                          obtain ⟨t154, A510, H⟩ := H
                          replace H : (if t154.toList = ([] : List UInt8) then (some ((-1), 1)) else (if (t154.size : Int) > (a0.size : Int) then (some ((-1), 1)) else (if 0 ≤ (t154.size : Int) then (if (t154.size : Int) ≤ (a0.size : Int) then (if (a0.extract 0 t154.size).toList = t154.toList then (some (t153, (t154.size : Int))) else (some ((-1), 1))) else (none)) else (none)))) = some (r1, r2) := H
                          have A51 := Aside0.mk A510
                          clear A510
                          by_cases c52 : t154.toList = ([] : List UInt8)
                          · rw [if_pos c52] at H
                            have c52b0 : (t154.toList == ([] : List UInt8)) = true := beq_iff_eq.mpr c52
                            have c52b1 : (t154.toList != ([] : List UInt8)) = false := bne_eq_false_iff_eq.mpr c52
                            clear c52
                            simp only [Option.some.injEq, Prod.mk.injEq] at H
                            obtain ⟨rfl, rfl⟩ := H
                            go_wp2_with (first | ((with_reducible refine gate_callee (f := 24) rfl ?_); refine goesL_ (some 50) rfl rfl Try.func24 (by kernel_rfl) rfl #[.int .i64 (wrap64 ((wrap64 (bt a0 0)) - 240)), .string a0, .int .i64 1] rfl (by (try simp only [List.map_toArray, List.map_cons, List.map_nil]); first | done | rfl | (simp only [List.length_drop, List.length_take]; rfl)) ?_; (with_reducible refine (stratumref03_more.calls (wrap64 ((wrap64 (bt a0 0)) - 240)) a0 1 t151 _ A48.out).mono ?_); rintro e w' ⟨rfl, ⟨nd, rfl⟩⟩; refine ⟨_, rfl, ?_⟩) | ((with_reducible refine gate_callee (f := 24) rfl ?_); refine goesL_ (some 52) rfl rfl Try.func24 (by kernel_rfl) rfl #[.int .i64 t151, .string a0, .int .i64 2] rfl (by (try simp only [List.map_toArray, List.map_cons, List.map_nil]); first | done | rfl | (simp only [List.length_drop, List.length_take]; rfl)) ?_; (with_reducible refine (stratumref03_more.calls t151 a0 2 t152 _ A49.out).mono ?_); rintro e w' ⟨rfl, ⟨nd, rfl⟩⟩; refine ⟨_, rfl, ?_⟩) | ((with_reducible refine gate_callee (f := 24) rfl ?_); refine goesL_ (some 54) rfl rfl Try.func24 (by kernel_rfl) rfl #[.int .i64 t152, .string a0, .int .i64 3] rfl (by (try simp only [List.map_toArray, List.map_cons, List.map_nil]); first | done | rfl | (simp only [List.length_drop, List.length_take]; rfl)) ?_; (with_reducible refine (stratumref03_more.calls t152 a0 3 t153 _ A50.out).mono ?_); rintro e w' ⟨rfl, ⟨nd, rfl⟩⟩; refine ⟨_, rfl, ?_⟩) | ((with_reducible refine gate_callee (f := 22) rfl ?_); refine goesL_ (some 56) rfl rfl Try.func22 (by kernel_rfl) rfl #[.int .i64 t153] rfl (by (try simp only [List.map_toArray, List.map_cons, List.map_nil]); first | done | rfl | (simp only [List.length_drop, List.length_take]; rfl)) ?_; (with_reducible refine (stratumref03_Put.calls kj44 t153 t154 _ A51.out).mono ?_); rintro e w53 ⟨rfl, hb⟩; refine ⟨_, rfl, ?_⟩; have n0_ := Aside0.mk (below_step (by repeat (first | (with_reducible first | exact HB.out | apply below_alloc | apply pw_below_drewN | apply below_drew1) | exact HB.out)) hb); clear HB; have HB := n0_; clear n0_; (try clear hb); (try clear hb2); (try clear hk); (try clear hi)))
                            go_ret2
                            exact ⟨by first | rfl | (simp [errW_none, errW_some] <;> rfl) | (simp [*, errW_none, errW_some] <;> rfl), by repeat (first | (with_reducible first | exact HB.out | apply below_alloc | apply pw_below_drewN | apply below_drew1) | exact HB.out)⟩
                          · rw [if_neg c52] at H
                            have c52b0 : (t154.toList == ([] : List UInt8)) = false := beq_eq_false_iff_ne.mpr c52
                            have c52b1 : (t154.toList != ([] : List UInt8)) = true := bne_iff_ne.mpr c52
                            by_cases c54 : (t154.size : Int) > (a0.size : Int)
                            · rw [if_pos c54] at H
                              have c54b0 : decide ((a0.size : Int) < (t154.size : Int)) = true := decide_eq_true c54
                              have c54b1 : decide (a0.size < t154.size) = true := decide_eq_true (Int.ofNat_lt.mp c54)
                              clear c54
                              simp only [Option.some.injEq, Prod.mk.injEq] at H
                              obtain ⟨rfl, rfl⟩ := H
                              go_wp2_with (first | ((with_reducible refine gate_callee (f := 24) rfl ?_); refine goesL_ (some 50) rfl rfl Try.func24 (by kernel_rfl) rfl #[.int .i64 (wrap64 ((wrap64 (bt a0 0)) - 240)), .string a0, .int .i64 1] rfl (by (try simp only [List.map_toArray, List.map_cons, List.map_nil]); first | done | rfl | (simp only [List.length_drop, List.length_take]; rfl)) ?_; (with_reducible refine (stratumref03_more.calls (wrap64 ((wrap64 (bt a0 0)) - 240)) a0 1 t151 _ A48.out).mono ?_); rintro e w' ⟨rfl, ⟨nd, rfl⟩⟩; refine ⟨_, rfl, ?_⟩) | ((with_reducible refine gate_callee (f := 24) rfl ?_); refine goesL_ (some 52) rfl rfl Try.func24 (by kernel_rfl) rfl #[.int .i64 t151, .string a0, .int .i64 2] rfl (by (try simp only [List.map_toArray, List.map_cons, List.map_nil]); first | done | rfl | (simp only [List.length_drop, List.length_take]; rfl)) ?_; (with_reducible refine (stratumref03_more.calls t151 a0 2 t152 _ A49.out).mono ?_); rintro e w' ⟨rfl, ⟨nd, rfl⟩⟩; refine ⟨_, rfl, ?_⟩) | ((with_reducible refine gate_callee (f := 24) rfl ?_); refine goesL_ (some 54) rfl rfl Try.func24 (by kernel_rfl) rfl #[.int .i64 t152, .string a0, .int .i64 3] rfl (by (try simp only [List.map_toArray, List.map_cons, List.map_nil]); first | done | rfl | (simp only [List.length_drop, List.length_take]; rfl)) ?_; (with_reducible refine (stratumref03_more.calls t152 a0 3 t153 _ A50.out).mono ?_); rintro e w' ⟨rfl, ⟨nd, rfl⟩⟩; refine ⟨_, rfl, ?_⟩) | ((with_reducible refine gate_callee (f := 22) rfl ?_); refine goesL_ (some 56) rfl rfl Try.func22 (by kernel_rfl) rfl #[.int .i64 t153] rfl (by (try simp only [List.map_toArray, List.map_cons, List.map_nil]); first | done | rfl | (simp only [List.length_drop, List.length_take]; rfl)) ?_; (with_reducible refine (stratumref03_Put.calls kj44 t153 t154 _ A51.out).mono ?_); rintro e w55 ⟨rfl, hb⟩; refine ⟨_, rfl, ?_⟩; have n0_ := Aside0.mk (below_step (by repeat (first | (with_reducible first | exact HB.out | apply below_alloc | apply pw_below_drewN | apply below_drew1) | exact HB.out)) hb); clear HB; have HB := n0_; clear n0_; (try clear hb); (try clear hb2); (try clear hk); (try clear hi)))
                              go_ret2
                              exact ⟨by first | rfl | (simp [errW_none, errW_some] <;> rfl) | (simp [*, errW_none, errW_some] <;> rfl), by repeat (first | (with_reducible first | exact HB.out | apply below_alloc | apply pw_below_drewN | apply below_drew1) | exact HB.out)⟩
                            · rw [if_neg c54] at H
                              have c54b0 : decide ((a0.size : Int) < (t154.size : Int)) = false := decide_eq_false c54
                              have c54b1 : decide (a0.size < t154.size) = false := decide_eq_false (fun h => c54 (Int.ofNat_lt.mpr h))
                              clear c54
                              by_cases c56 : 0 ≤ (t154.size : Int)
                              · rw [if_pos c56] at H
                                have c56b0 := eq_true c56
                                have c56b1 : decide (0 ≤ (t154.size : Int)) = true := decide_eq_true c56
                                clear c56
                                by_cases c57 : (t154.size : Int) ≤ (a0.size : Int)
                                · rw [if_pos c57] at H
                                  have c57b0 := eq_true c57
                                  have c57b1 : decide ((t154.size : Int) ≤ (a0.size : Int)) = true := decide_eq_true c57
                                  clear c57
                                  by_cases c58 : (a0.extract 0 t154.size).toList = t154.toList
                                  · rw [if_pos c58] at H
                                    have c58b0 : ((a0.extract 0 t154.size).toList == t154.toList) = true := beq_iff_eq.mpr c58
                                    have c58b1 : ((a0.extract 0 t154.size).toList != t154.toList) = false := bne_eq_false_iff_eq.mpr c58
                                    clear c58
                                    simp only [Option.some.injEq, Prod.mk.injEq] at H
                                    obtain ⟨rfl, rfl⟩ := H
                                    go_wp2_with (first | ((with_reducible refine gate_callee (f := 24) rfl ?_); refine goesL_ (some 50) rfl rfl Try.func24 (by kernel_rfl) rfl #[.int .i64 (wrap64 ((wrap64 (bt a0 0)) - 240)), .string a0, .int .i64 1] rfl (by (try simp only [List.map_toArray, List.map_cons, List.map_nil]); first | done | rfl | (simp only [List.length_drop, List.length_take]; rfl)) ?_; (with_reducible refine (stratumref03_more.calls (wrap64 ((wrap64 (bt a0 0)) - 240)) a0 1 t151 _ A48.out).mono ?_); rintro e w' ⟨rfl, ⟨nd, rfl⟩⟩; refine ⟨_, rfl, ?_⟩) | ((with_reducible refine gate_callee (f := 24) rfl ?_); refine goesL_ (some 52) rfl rfl Try.func24 (by kernel_rfl) rfl #[.int .i64 t151, .string a0, .int .i64 2] rfl (by (try simp only [List.map_toArray, List.map_cons, List.map_nil]); first | done | rfl | (simp only [List.length_drop, List.length_take]; rfl)) ?_; (with_reducible refine (stratumref03_more.calls t151 a0 2 t152 _ A49.out).mono ?_); rintro e w' ⟨rfl, ⟨nd, rfl⟩⟩; refine ⟨_, rfl, ?_⟩) | ((with_reducible refine gate_callee (f := 24) rfl ?_); refine goesL_ (some 54) rfl rfl Try.func24 (by kernel_rfl) rfl #[.int .i64 t152, .string a0, .int .i64 3] rfl (by (try simp only [List.map_toArray, List.map_cons, List.map_nil]); first | done | rfl | (simp only [List.length_drop, List.length_take]; rfl)) ?_; (with_reducible refine (stratumref03_more.calls t152 a0 3 t153 _ A50.out).mono ?_); rintro e w' ⟨rfl, ⟨nd, rfl⟩⟩; refine ⟨_, rfl, ?_⟩) | ((with_reducible refine gate_callee (f := 22) rfl ?_); refine goesL_ (some 56) rfl rfl Try.func22 (by kernel_rfl) rfl #[.int .i64 t153] rfl (by (try simp only [List.map_toArray, List.map_cons, List.map_nil]); first | done | rfl | (simp only [List.length_drop, List.length_take]; rfl)) ?_; (with_reducible refine (stratumref03_Put.calls kj44 t153 t154 _ A51.out).mono ?_); rintro e w59 ⟨rfl, hb⟩; refine ⟨_, rfl, ?_⟩; have n0_ := Aside0.mk (below_step (by repeat (first | (with_reducible first | exact HB.out | apply below_alloc | apply pw_below_drewN | apply below_drew1) | exact HB.out)) hb); clear HB; have HB := n0_; clear n0_; (try clear hb); (try clear hb2); (try clear hk); (try clear hi)))
                                    go_ret2
                                    exact ⟨by first | rfl | (simp [errW_none, errW_some] <;> rfl) | (simp [*, errW_none, errW_some] <;> rfl), by repeat (first | (with_reducible first | exact HB.out | apply below_alloc | apply pw_below_drewN | apply below_drew1) | exact HB.out)⟩
                                  · rw [if_neg c58] at H
                                    have c58b0 : ((a0.extract 0 t154.size).toList == t154.toList) = false := beq_eq_false_iff_ne.mpr c58
                                    have c58b1 : ((a0.extract 0 t154.size).toList != t154.toList) = true := bne_iff_ne.mpr c58
                                    simp only [Option.some.injEq, Prod.mk.injEq] at H
                                    obtain ⟨rfl, rfl⟩ := H
                                    go_wp2_with (first | ((with_reducible refine gate_callee (f := 24) rfl ?_); refine goesL_ (some 50) rfl rfl Try.func24 (by kernel_rfl) rfl #[.int .i64 (wrap64 ((wrap64 (bt a0 0)) - 240)), .string a0, .int .i64 1] rfl (by (try simp only [List.map_toArray, List.map_cons, List.map_nil]); first | done | rfl | (simp only [List.length_drop, List.length_take]; rfl)) ?_; (with_reducible refine (stratumref03_more.calls (wrap64 ((wrap64 (bt a0 0)) - 240)) a0 1 t151 _ A48.out).mono ?_); rintro e w' ⟨rfl, ⟨nd, rfl⟩⟩; refine ⟨_, rfl, ?_⟩) | ((with_reducible refine gate_callee (f := 24) rfl ?_); refine goesL_ (some 52) rfl rfl Try.func24 (by kernel_rfl) rfl #[.int .i64 t151, .string a0, .int .i64 2] rfl (by (try simp only [List.map_toArray, List.map_cons, List.map_nil]); first | done | rfl | (simp only [List.length_drop, List.length_take]; rfl)) ?_; (with_reducible refine (stratumref03_more.calls t151 a0 2 t152 _ A49.out).mono ?_); rintro e w' ⟨rfl, ⟨nd, rfl⟩⟩; refine ⟨_, rfl, ?_⟩) | ((with_reducible refine gate_callee (f := 24) rfl ?_); refine goesL_ (some 54) rfl rfl Try.func24 (by kernel_rfl) rfl #[.int .i64 t152, .string a0, .int .i64 3] rfl (by (try simp only [List.map_toArray, List.map_cons, List.map_nil]); first | done | rfl | (simp only [List.length_drop, List.length_take]; rfl)) ?_; (with_reducible refine (stratumref03_more.calls t152 a0 3 t153 _ A50.out).mono ?_); rintro e w' ⟨rfl, ⟨nd, rfl⟩⟩; refine ⟨_, rfl, ?_⟩) | ((with_reducible refine gate_callee (f := 22) rfl ?_); refine goesL_ (some 56) rfl rfl Try.func22 (by kernel_rfl) rfl #[.int .i64 t153] rfl (by (try simp only [List.map_toArray, List.map_cons, List.map_nil]); first | done | rfl | (simp only [List.length_drop, List.length_take]; rfl)) ?_; (with_reducible refine (stratumref03_Put.calls kj44 t153 t154 _ A51.out).mono ?_); rintro e w60 ⟨rfl, hb⟩; refine ⟨_, rfl, ?_⟩; have n0_ := Aside0.mk (below_step (by repeat (first | (with_reducible first | exact HB.out | apply below_alloc | apply pw_below_drewN | apply below_drew1) | exact HB.out)) hb); clear HB; have HB := n0_; clear n0_; (try clear hb); (try clear hb2); (try clear hk); (try clear hi)))
                                    go_ret2
                                    exact ⟨by first | rfl | (simp [errW_none, errW_some] <;> rfl) | (simp [*, errW_none, errW_some] <;> rfl), by repeat (first | (with_reducible first | exact HB.out | apply below_alloc | apply pw_below_drewN | apply below_drew1) | exact HB.out)⟩
                                · rw [if_neg c57] at H
                                  exact absurd H (by simp)
                              · rw [if_neg c56] at H
                                exact absurd H (by simp)
                        · replace c47 := Bool.eq_false_iff.mpr c47
                          subst c47
                          have H1 : ((stratumref03_Put.f kj44 (-1)).bind fun t155 => (if t155.toList = ([] : List UInt8) then (some ((-1), 1)) else (if (t155.size : Int) > (a0.size : Int) then (some ((-1), 1)) else (if 0 ≤ (t155.size : Int) then (if (t155.size : Int) ≤ (a0.size : Int) then (if (a0.extract 0 t155.size).toList = t155.toList then (some ((-1), (t155.size : Int))) else (some ((-1), 1))) else (none)) else (none))))) = some (r1, r2) := by rw [if_neg (show ¬ (false = true) by decide)] at H; exact H
                          clear H
                          have H := H1
                          clear H1
                          replace H := Option.bind_eq_some_iff.mp H
                          obtain ⟨t155, A610, H⟩ := H
                          replace H : (if t155.toList = ([] : List UInt8) then (some ((-1), 1)) else (if (t155.size : Int) > (a0.size : Int) then (some ((-1), 1)) else (if 0 ≤ (t155.size : Int) then (if (t155.size : Int) ≤ (a0.size : Int) then (if (a0.extract 0 t155.size).toList = t155.toList then (some ((-1), (t155.size : Int))) else (some ((-1), 1))) else (none)) else (none)))) = some (r1, r2) := H
                          have A61 := Aside0.mk A610
                          clear A610
                          by_cases c62 : t155.toList = ([] : List UInt8)
                          · rw [if_pos c62] at H
                            have c62b0 : (t155.toList == ([] : List UInt8)) = true := beq_iff_eq.mpr c62
                            have c62b1 : (t155.toList != ([] : List UInt8)) = false := bne_eq_false_iff_eq.mpr c62
                            clear c62
                            simp only [Option.some.injEq, Prod.mk.injEq] at H
                            obtain ⟨rfl, rfl⟩ := H
                            go_wp2_with (first | ((with_reducible refine gate_callee (f := 22) rfl ?_); refine goesL_ (some 56) rfl rfl Try.func22 (by kernel_rfl) rfl #[.int .i64 (-1)] rfl (by (try simp only [List.map_toArray, List.map_cons, List.map_nil]); first | done | rfl | (simp only [List.length_drop, List.length_take]; rfl)) ?_; (with_reducible refine (stratumref03_Put.calls kj44 (-1) t155 _ A61.out).mono ?_); rintro e w63 ⟨rfl, hb⟩; refine ⟨_, rfl, ?_⟩; have n0_ := Aside0.mk (below_step (by repeat (first | (with_reducible first | exact HB.out | apply below_alloc | apply pw_below_drewN | apply below_drew1) | exact HB.out)) hb); clear HB; have HB := n0_; clear n0_; (try clear hb); (try clear hb2); (try clear hk); (try clear hi)))
                            go_ret2
                            exact ⟨by first | rfl | (simp [errW_none, errW_some] <;> rfl) | (simp [*, errW_none, errW_some] <;> rfl), by repeat (first | (with_reducible first | exact HB.out | apply below_alloc | apply pw_below_drewN | apply below_drew1) | exact HB.out)⟩
                          · rw [if_neg c62] at H
                            have c62b0 : (t155.toList == ([] : List UInt8)) = false := beq_eq_false_iff_ne.mpr c62
                            have c62b1 : (t155.toList != ([] : List UInt8)) = true := bne_iff_ne.mpr c62
                            by_cases c64 : (t155.size : Int) > (a0.size : Int)
                            · rw [if_pos c64] at H
                              have c64b0 : decide ((a0.size : Int) < (t155.size : Int)) = true := decide_eq_true c64
                              have c64b1 : decide (a0.size < t155.size) = true := decide_eq_true (Int.ofNat_lt.mp c64)
                              clear c64
                              simp only [Option.some.injEq, Prod.mk.injEq] at H
                              obtain ⟨rfl, rfl⟩ := H
                              go_wp2_with (first | ((with_reducible refine gate_callee (f := 22) rfl ?_); refine goesL_ (some 56) rfl rfl Try.func22 (by kernel_rfl) rfl #[.int .i64 (-1)] rfl (by (try simp only [List.map_toArray, List.map_cons, List.map_nil]); first | done | rfl | (simp only [List.length_drop, List.length_take]; rfl)) ?_; (with_reducible refine (stratumref03_Put.calls kj44 (-1) t155 _ A61.out).mono ?_); rintro e w65 ⟨rfl, hb⟩; refine ⟨_, rfl, ?_⟩; have n0_ := Aside0.mk (below_step (by repeat (first | (with_reducible first | exact HB.out | apply below_alloc | apply pw_below_drewN | apply below_drew1) | exact HB.out)) hb); clear HB; have HB := n0_; clear n0_; (try clear hb); (try clear hb2); (try clear hk); (try clear hi)))
                              go_ret2
                              exact ⟨by first | rfl | (simp [errW_none, errW_some] <;> rfl) | (simp [*, errW_none, errW_some] <;> rfl), by repeat (first | (with_reducible first | exact HB.out | apply below_alloc | apply pw_below_drewN | apply below_drew1) | exact HB.out)⟩
                            · rw [if_neg c64] at H
                              have c64b0 : decide ((a0.size : Int) < (t155.size : Int)) = false := decide_eq_false c64
                              have c64b1 : decide (a0.size < t155.size) = false := decide_eq_false (fun h => c64 (Int.ofNat_lt.mpr h))
                              clear c64
                              by_cases c66 : 0 ≤ (t155.size : Int)
                              · rw [if_pos c66] at H
                                have c66b0 := eq_true c66
                                have c66b1 : decide (0 ≤ (t155.size : Int)) = true := decide_eq_true c66
                                clear c66
                                by_cases c67 : (t155.size : Int) ≤ (a0.size : Int)
                                · rw [if_pos c67] at H
                                  have c67b0 := eq_true c67
                                  have c67b1 : decide ((t155.size : Int) ≤ (a0.size : Int)) = true := decide_eq_true c67
                                  clear c67
                                  by_cases c68 : (a0.extract 0 t155.size).toList = t155.toList
                                  · rw [if_pos c68] at H
                                    have c68b0 : ((a0.extract 0 t155.size).toList == t155.toList) = true := beq_iff_eq.mpr c68
                                    have c68b1 : ((a0.extract 0 t155.size).toList != t155.toList) = false := bne_eq_false_iff_eq.mpr c68
                                    clear c68
                                    simp only [Option.some.injEq, Prod.mk.injEq] at H
                                    obtain ⟨rfl, rfl⟩ := H
                                    go_wp2_with (first | ((with_reducible refine gate_callee (f := 22) rfl ?_); refine goesL_ (some 56) rfl rfl Try.func22 (by kernel_rfl) rfl #[.int .i64 (-1)] rfl (by (try simp only [List.map_toArray, List.map_cons, List.map_nil]); first | done | rfl | (simp only [List.length_drop, List.length_take]; rfl)) ?_; (with_reducible refine (stratumref03_Put.calls kj44 (-1) t155 _ A61.out).mono ?_); rintro e w69 ⟨rfl, hb⟩; refine ⟨_, rfl, ?_⟩; have n0_ := Aside0.mk (below_step (by repeat (first | (with_reducible first | exact HB.out | apply below_alloc | apply pw_below_drewN | apply below_drew1) | exact HB.out)) hb); clear HB; have HB := n0_; clear n0_; (try clear hb); (try clear hb2); (try clear hk); (try clear hi)))
                                    go_ret2
                                    exact ⟨by first | rfl | (simp [errW_none, errW_some] <;> rfl) | (simp [*, errW_none, errW_some] <;> rfl), by repeat (first | (with_reducible first | exact HB.out | apply below_alloc | apply pw_below_drewN | apply below_drew1) | exact HB.out)⟩
                                  · rw [if_neg c68] at H
                                    have c68b0 : ((a0.extract 0 t155.size).toList == t155.toList) = false := beq_eq_false_iff_ne.mpr c68
                                    have c68b1 : ((a0.extract 0 t155.size).toList != t155.toList) = true := bne_iff_ne.mpr c68
                                    simp only [Option.some.injEq, Prod.mk.injEq] at H
                                    obtain ⟨rfl, rfl⟩ := H
                                    go_wp2_with (first | ((with_reducible refine gate_callee (f := 22) rfl ?_); refine goesL_ (some 56) rfl rfl Try.func22 (by kernel_rfl) rfl #[.int .i64 (-1)] rfl (by (try simp only [List.map_toArray, List.map_cons, List.map_nil]); first | done | rfl | (simp only [List.length_drop, List.length_take]; rfl)) ?_; (with_reducible refine (stratumref03_Put.calls kj44 (-1) t155 _ A61.out).mono ?_); rintro e w70 ⟨rfl, hb⟩; refine ⟨_, rfl, ?_⟩; have n0_ := Aside0.mk (below_step (by repeat (first | (with_reducible first | exact HB.out | apply below_alloc | apply pw_below_drewN | apply below_drew1) | exact HB.out)) hb); clear HB; have HB := n0_; clear n0_; (try clear hb); (try clear hb2); (try clear hk); (try clear hi)))
                                    go_ret2
                                    exact ⟨by first | rfl | (simp [errW_none, errW_some] <;> rfl) | (simp [*, errW_none, errW_some] <;> rfl), by repeat (first | (with_reducible first | exact HB.out | apply below_alloc | apply pw_below_drewN | apply below_drew1) | exact HB.out)⟩
                                · rw [if_neg c67] at H
                                  exact absurd H (by simp)
                              · rw [if_neg c66] at H
                                exact absurd H (by simp)
    · rw [if_neg c3] at H
      exact absurd H (by simp)

end Go.Proofs.Ytjplkgkkokcgjaa.X
