/- The machine's side of the laws of this seat: for each Go function a Lean function of lists and numbers, and that the call answers what it answers. No condition but those in the theorems. -/
import Derived.Test.YtedhkelochpdnaaX0
import Derived.Test.YtedhkelochpdnaaX4
import Derived.Test.YtedhkelochpdnaaX5
namespace Go.Proofs.Ytedhkelochpdnaa.X
open Go.RowKit Go.Proofs.YtedhkelochpdnaaW.PrintWords Go.Proofs.YtedhkelochpdnaaW.PrintLast Go.Proofs.YtedhkelochpdnaaW.PrintMore
attribute [local go_sem] max2_int min2_int max_two min_two max_three min_three max_four min_four   -- for this text's walks alone
set_option linter.unusedVariables false
set_option linter.unusedSimpArgs false

/-! ### stratumlaw08_LexBack: function 5 -/
def stratumlaw08_LexBack.l0 : Nat → ByteArray → ByteArray → Int → Option (Bool)
  | 0, _, _, _ => none
  | k + 1, x0, x3, x4 => if x4 < (x3.size : Int) then (if 0 ≤ x4 then (if (bt x3 x4) < 32 then (some false) else (if (bt x3 x4) > 126 then (some false) else (stratumlaw08_LexBack.l0 k x0 x3 (wrap64 (x4 + 1))))) else (none)) else ((lex_Lex.f k x3).bind fun bt325 => (if (x3.size : Int) > 1048576 then (if (bt325.1.length : Int) = 0 then (if bt325.2.1 = 0 then (some (bt325.2.2 == 2)) else (some false)) else (some false)) else ((stratumlaw08_same.f k bt325.1 (([(⟨3, x0, 0, 0, (x3.size : Int)⟩ : S32), (⟨0, (⟨#[]⟩ : ByteArray), 0, (x3.size : Int), (x3.size : Int)⟩ : S32)] : List (S32)))).bind fun t333 => (if t333 = true then (if bt325.2.1 = 0 then (some (bt325.2.2 == 0)) else (some false)) else (some false)))))
def stratumlaw08_LexBack.f (k : Nat) (a0 : ByteArray) : Option (Bool) := (stratumlaw08_lives.f k).bind fun t323 => (if t323 = true then (if (a0.size : Int) > 4194304 then (some true) else ((lex_Quote.f k a0).bind fun t324 => (if (t324.size : Int) < (wrap64 ((a0.size : Int) + 2)) then (some false) else (stratumlaw08_LexBack.l0 k a0 t324 0)))) else (some false))
theorem stratumlaw08_LexBack.mono_l : ∀ k, (∀ y0 y1 y2, LeO (stratumlaw08_LexBack.l0 k y0 y1 y2) (stratumlaw08_LexBack.l0 (k + 1) y0 y1 y2))
  | 0 => fun _ _ _ r h => by simp [stratumlaw08_LexBack.l0] at h
  | k + 1 => by
    have ih0 := stratumlaw08_LexBack.mono_l k
    · intro y0 y1 y2
      unfold stratumlaw08_LexBack.l0
      repeat' first
      | (with_reducible exact ih0 _ _ _)
      | (with_reducible exact lex_Lex.mono _ _)
      | (with_reducible exact lex_Quote.mono _ _)
      | (with_reducible exact stratumlaw08_lives.mono _)
      | (with_reducible exact stratumlaw08_same.mono _ _ _)
      | (with_reducible exact LeO.refl _)
      | (with_reducible exact LeO.none _)
      | (with_reducible refine LeO.ite ?_ ?_)
      | (with_reducible refine LeO.bind ?_ (fun _ => ?_))
      | exact ih0 _ _ _
      | exact lex_Lex.mono _ _
      | exact lex_Quote.mono _ _
      | exact stratumlaw08_lives.mono _
      | exact stratumlaw08_same.mono _ _ _
      | exact LeO.none _
      | refine LeO.ite ?_ ?_
      | refine LeO.bind ?_ (fun _ => ?_)
theorem stratumlaw08_LexBack.mono : ∀ a0 k, LeO (stratumlaw08_LexBack.f k a0) (stratumlaw08_LexBack.f (k + 1) a0) := by
  intro a0 k
  have ih0 := stratumlaw08_LexBack.mono_l k
  unfold stratumlaw08_LexBack.f
  repeat' first
      | (with_reducible exact ih0 _ _ _)
      | (with_reducible exact lex_Lex.mono _ _)
      | (with_reducible exact lex_Quote.mono _ _)
      | (with_reducible exact stratumlaw08_lives.mono _)
      | (with_reducible exact stratumlaw08_same.mono _ _ _)
      | (with_reducible exact LeO.refl _)
      | (with_reducible exact LeO.none _)
      | (with_reducible refine LeO.ite ?_ ?_)
      | (with_reducible refine LeO.bind ?_ (fun _ => ?_))
      | exact ih0 _ _ _
      | exact lex_Lex.mono _ _
      | exact lex_Quote.mono _ _
      | exact stratumlaw08_lives.mono _
      | exact stratumlaw08_same.mono _ _ _
      | exact LeO.none _
      | refine LeO.ite ?_ ?_
      | refine LeO.bind ?_ (fun _ => ?_)
set_option maxHeartbeats 8000000 in
set_option maxRecDepth 100000 in
theorem stratumlaw08_LexBack.calls (k : Nat) (a0 : ByteArray) (r : Bool) (w : World) (h : stratumlaw08_LexBack.f k a0 = some r) :
    Calls Try.prog 5 #[.string a0] w fun e w' => e = .returned (.bool r) ∧ Below w.heap.size w w' := by
  have hu32 := Try.underlying32
  have HB := Aside0.mk (Below.refl w.heap.size w)
  have H : ((stratumlaw08_lives.f k).bind fun t323 => (if t323 = true then (if (a0.size : Int) > 4194304 then (some true) else ((lex_Quote.f k a0).bind fun t324 => (if (t324.size : Int) < (wrap64 ((a0.size : Int) + 2)) then (some false) else (stratumlaw08_LexBack.l0 k a0 t324 0)))) else (some false))) = some r := h
  clear h
  replace H := Option.bind_eq_some_iff.mp H
  obtain ⟨t323, A20, H⟩ := H
  replace H : (if t323 = true then (if (a0.size : Int) > 4194304 then (some true) else ((lex_Quote.f k a0).bind fun t324 => (if (t324.size : Int) < (wrap64 ((a0.size : Int) + 2)) then (some false) else (stratumlaw08_LexBack.l0 k a0 t324 0)))) else (some false)) = some r := H
  have A2 := Aside0.mk A20
  clear A20
  by_cases c3 : t323 = true
  · subst c3
    have H1 : (if (a0.size : Int) > 4194304 then (some true) else ((lex_Quote.f k a0).bind fun t324 => (if (t324.size : Int) < (wrap64 ((a0.size : Int) + 2)) then (some false) else (stratumlaw08_LexBack.l0 k a0 t324 0)))) = some r := by rw [if_pos rfl] at H; exact H
    clear H
    have H := H1
    clear H1
    by_cases c4 : (a0.size : Int) > 4194304
    · rw [if_pos c4] at H
      have c4b0 : decide (4194304 < (a0.size : Int)) = true := decide_eq_true c4
      have c4b1 : decide (4194304 < a0.size) = true := decide_eq_true (by omega)
      clear c4
      obtain rfl := Option.some.inj H
      go_enter Try.func5, Try.ntmps5
      go_wp2_with (first | ((with_reducible refine gate_callee (f := 10) rfl ?_); refine goesL_ (some 9) rfl rfl Try.func10 (by kernel_rfl) rfl #[] rfl (by (try simp only [List.map_toArray, List.map_cons, List.map_nil]); first | done | rfl | (simp only [List.length_drop, List.length_take]; rfl)) ?_; (with_reducible refine (stratumlaw08_lives.calls k  true _ A2.out).mono ?_); rintro e w5 ⟨rfl, hb⟩; refine ⟨_, rfl, ?_⟩; have n0_ := Aside0.mk (below_step (by repeat (first | (with_reducible first | exact HB.out | apply below_alloc | apply pw_below_drewN | apply below_drew1) | exact HB.out)) hb); clear HB; have HB := n0_; clear n0_; (try clear hb); (try clear hb2); (try clear hk); (try clear hi)))
      go_ret
      exact ⟨by first | rfl | (simp [errW_none, errW_some] <;> rfl) | (simp [*, errW_none, errW_some] <;> rfl), by repeat (first | (with_reducible first | exact HB.out | apply below_alloc | apply pw_below_drewN | apply below_drew1) | exact HB.out)⟩
    · rw [if_neg c4] at H
      have c4b0 : decide (4194304 < (a0.size : Int)) = false := decide_eq_false c4
      have c4b1 : decide (4194304 < a0.size) = false := decide_eq_false (by omega)
      clear c4
      replace H := Option.bind_eq_some_iff.mp H
      obtain ⟨t324, A60, H⟩ := H
      replace H : (if (t324.size : Int) < (wrap64 ((a0.size : Int) + 2)) then (some false) else (stratumlaw08_LexBack.l0 k a0 t324 0)) = some r := H
      have A6 := Aside0.mk A60
      clear A60
      by_cases c7 : (t324.size : Int) < (wrap64 ((a0.size : Int) + 2))
      · rw [if_pos c7] at H
        have c7b0 : decide ((t324.size : Int) < (wrap64 ((a0.size : Int) + 2))) = true := decide_eq_true c7
        clear c7
        obtain rfl := Option.some.inj H
        go_enter Try.func5, Try.ntmps5
        go_wp2_with (first | ((with_reducible refine gate_callee (f := 10) rfl ?_); refine goesL_ (some 9) rfl rfl Try.func10 (by kernel_rfl) rfl #[] rfl (by (try simp only [List.map_toArray, List.map_cons, List.map_nil]); first | done | rfl | (simp only [List.length_drop, List.length_take]; rfl)) ?_; (with_reducible refine (stratumlaw08_lives.calls k  true _ A2.out).mono ?_); rintro e w8 ⟨rfl, hb⟩; refine ⟨_, rfl, ?_⟩; have n0_ := Aside0.mk (below_step (by repeat (first | (with_reducible first | exact HB.out | apply below_alloc | apply pw_below_drewN | apply below_drew1) | exact HB.out)) hb); clear HB; have HB := n0_; clear n0_; (try clear hb); (try clear hb2); (try clear hk); (try clear hi)) | ((with_reducible refine gate_callee (f := 16) rfl ?_); refine goesL_ (some 15) rfl rfl Try.func16 (by kernel_rfl) rfl #[.string a0] rfl (by (try simp only [List.map_toArray, List.map_cons, List.map_nil]); first | done | rfl | (simp only [List.length_drop, List.length_take]; rfl)) ?_; (with_reducible refine (lex_Quote.calls k a0 t324 _ A6.out).mono ?_); rintro e w9 ⟨rfl, hb⟩; refine ⟨_, rfl, ?_⟩; have n0_ := Aside0.mk (below_step (by repeat (first | (with_reducible first | exact HB.out | apply below_alloc | apply pw_below_drewN | apply below_drew1) | exact HB.out)) hb); clear HB; have HB := n0_; clear n0_; (try clear hb); (try clear hb2); (try clear hk); (try clear hi)))
        go_ret
        exact ⟨by first | rfl | (simp [errW_none, errW_some] <;> rfl) | (simp [*, errW_none, errW_some] <;> rfl), by repeat (first | (with_reducible first | exact HB.out | apply below_alloc | apply pw_below_drewN | apply below_drew1) | exact HB.out)⟩
      · rw [if_neg c7] at H
        have c7b0 : decide ((t324.size : Int) < (wrap64 ((a0.size : Int) + 2))) = false := decide_eq_false c7
        clear c7
        have H' := Aside0.mk H
        clear H
        go_enter Try.func5, Try.ntmps5
        go_wp2_with (first | ((with_reducible refine gate_callee (f := 10) rfl ?_); refine goesL_ (some 9) rfl rfl Try.func10 (by kernel_rfl) rfl #[] rfl (by (try simp only [List.map_toArray, List.map_cons, List.map_nil]); first | done | rfl | (simp only [List.length_drop, List.length_take]; rfl)) ?_; (with_reducible refine (stratumlaw08_lives.calls k  true _ A2.out).mono ?_); rintro e w10 ⟨rfl, hb⟩; refine ⟨_, rfl, ?_⟩; have n0_ := Aside0.mk (below_step (by repeat (first | (with_reducible first | exact HB.out | apply below_alloc | apply pw_below_drewN | apply below_drew1) | exact HB.out)) hb); clear HB; have HB := n0_; clear n0_; (try clear hb); (try clear hb2); (try clear hk); (try clear hi)) | ((with_reducible refine gate_callee (f := 16) rfl ?_); refine goesL_ (some 15) rfl rfl Try.func16 (by kernel_rfl) rfl #[.string a0] rfl (by (try simp only [List.map_toArray, List.map_cons, List.map_nil]); first | done | rfl | (simp only [List.length_drop, List.length_take]; rfl)) ?_; (with_reducible refine (lex_Quote.calls k a0 t324 _ A6.out).mono ?_); rintro e w11 ⟨rfl, hb⟩; refine ⟨_, rfl, ?_⟩; have n0_ := Aside0.mk (below_step (by repeat (first | (with_reducible first | exact HB.out | apply below_alloc | apply pw_below_drewN | apply below_drew1) | exact HB.out)) hb); clear HB; have HB := n0_; clear n0_; (try clear hb); (try clear hb2); (try clear hk); (try clear hi)))
        go_loopg [4] k (fun kq v4 w' => ∃ (x4_1 : Int), v4 = .int .i64 x4_1 ∧ Aside0 (stratumlaw08_LexBack.l0 kq a0 t324 x4_1 = some r) ∧ Aside0 (kq ≤ k) ∧ Aside0 (Below w.heap.size w w'))
        case atStart => exact ⟨(0), (by first | rfl | (simp; done) | (simp [*]; done)), H', ⟨Nat.le_refl _⟩, ⟨by repeat (first | (with_reducible first | exact HB.out | apply below_alloc | apply pw_below_drewN | apply below_drew1) | exact HB.out)⟩⟩
        case round =>
          clear H'
          try clear c1
          try clear p2
          try clear c3
          try clear c4
          try clear c4b0
          try clear c4b1
          try clear c5
          try clear p6
          try clear c7
          try clear c7b0
          try clear c10
          obtain ⟨x4_1, rfl, HA, HK1, HB⟩ := hrel
          cases gk with
          | zero => exact absurd HA.out (by simp [stratumlaw08_LexBack.l0])
          | succ k1 =>
            have H := HA.out
            clear HA
            simp only [stratumlaw08_LexBack.l0] at H
            by_cases c12 : x4_1 < (t324.size : Int)
            · rw [if_pos c12] at H
              have c12b0 : decide (x4_1 < (t324.size : Int)) = true := decide_eq_true c12
              clear c12
              by_cases c13 : 0 ≤ x4_1
              · rw [if_pos c13] at H
                have c13b0 : decide (0 ≤ x4_1) = true := decide_eq_true c13
                clear c13
                by_cases c15 : (bt t324 x4_1) < 32
                · rw [if_pos c15] at H
                  have c15b0 : decide ((bt t324 x4_1) < 32) = true := decide_eq_true c15
                  clear c15
                  obtain rfl := Option.some.inj H
                  have p14 : 0 ≤ (x4_1 : Int) := of_decide_eq_true (by first | (with_reducible assumption) | assumption)
                  have q14 : x4_1 < (t324.size : Int) := of_decide_eq_true (by first | (with_reducible assumption) | assumption)
                  have hx14 := bt_at t324 x4_1
                  replace p14 := eq_true p14
                  replace q14 := eq_true q14
                  go_wp2
                  go_ret
                  exact ⟨by first | rfl | (simp [errW_none, errW_some] <;> rfl) | (simp [*, errW_none, errW_some] <;> rfl), by repeat (first | (with_reducible first | exact HB.out | apply below_alloc | apply pw_below_drewN | apply below_drew1) | exact HB.out)⟩
                · rw [if_neg c15] at H
                  have c15b0 : decide ((bt t324 x4_1) < 32) = false := decide_eq_false c15
                  clear c15
                  by_cases c17 : (bt t324 x4_1) > 126
                  · rw [if_pos c17] at H
                    have c17b0 : decide (126 < (bt t324 x4_1)) = true := decide_eq_true c17
                    clear c17
                    obtain rfl := Option.some.inj H
                    have p14 : 0 ≤ (x4_1 : Int) := of_decide_eq_true (by first | (with_reducible assumption) | assumption)
                    have q14 : x4_1 < (t324.size : Int) := of_decide_eq_true (by first | (with_reducible assumption) | assumption)
                    have hx14 := bt_at t324 x4_1
                    replace p14 := eq_true p14
                    replace q14 := eq_true q14
                    have p16 : 0 ≤ (x4_1 : Int) := of_decide_eq_true (by first | (with_reducible assumption) | assumption)
                    have q16 : x4_1 < (t324.size : Int) := of_decide_eq_true (by first | (with_reducible assumption) | assumption)
                    have hx16 := bt_at t324 x4_1
                    replace p16 := eq_true p16
                    replace q16 := eq_true q16
                    go_wp2
                    go_ret
                    exact ⟨by first | rfl | (simp [errW_none, errW_some] <;> rfl) | (simp [*, errW_none, errW_some] <;> rfl), by repeat (first | (with_reducible first | exact HB.out | apply below_alloc | apply pw_below_drewN | apply below_drew1) | exact HB.out)⟩
                  · rw [if_neg c17] at H
                    have c17b0 : decide (126 < (bt t324 x4_1)) = false := decide_eq_false c17
                    clear c17
                    have H' := Aside0.mk H
                    clear H
                    have p14 : 0 ≤ (x4_1 : Int) := of_decide_eq_true (by first | (with_reducible assumption) | assumption)
                    have q14 : x4_1 < (t324.size : Int) := of_decide_eq_true (by first | (with_reducible assumption) | assumption)
                    have hx14 := bt_at t324 x4_1
                    replace p14 := eq_true p14
                    replace q14 := eq_true q14
                    have p16 : 0 ≤ (x4_1 : Int) := of_decide_eq_true (by first | (with_reducible assumption) | assumption)
                    have q16 : x4_1 < (t324.size : Int) := of_decide_eq_true (by first | (with_reducible assumption) | assumption)
                    have hx16 := bt_at t324 x4_1
                    replace p16 := eq_true p16
                    replace q16 := eq_true q16
                    go_wp2
                    go_roundg k1
                    case measure => have := HK1.out; omega
                    case rel => exact ⟨(wrap64 (x4_1 + 1)), (by first | rfl | (simp; done) | (simp [*]; done)), H', ⟨by have := HK1.out; omega⟩, ⟨by repeat (first | (with_reducible first | exact HB.out | apply below_alloc | apply pw_below_drewN | apply below_drew1) | exact HB.out)⟩⟩
              · rw [if_neg c13] at H
                exact absurd H (by simp)
            · rw [if_neg c12] at H
              have c12b0 : decide (x4_1 < (t324.size : Int)) = false := decide_eq_false c12
              clear c12
              replace H := Option.bind_eq_some_iff.mp H
              obtain ⟨⟨t325, t326, t327⟩, A180, H⟩ := H
              replace H : (if (t324.size : Int) > 1048576 then (if (t325.length : Int) = 0 then (if t326 = 0 then (some (t327 == 2)) else (some false)) else (some false)) else ((stratumlaw08_same.f k1 t325 (([(⟨3, a0, 0, 0, (t324.size : Int)⟩ : S32), (⟨0, (⟨#[]⟩ : ByteArray), 0, (t324.size : Int), (t324.size : Int)⟩ : S32)] : List (S32)))).bind fun t333 => (if t333 = true then (if t326 = 0 then (some (t327 == 0)) else (some false)) else (some false)))) = some r := H
              have A18 := Aside0.mk A180
              clear A180
              by_cases c19 : (t324.size : Int) > 1048576
              · rw [if_pos c19] at H
                have c19b0 : decide (1048576 < (t324.size : Int)) = true := decide_eq_true c19
                have c19b1 : decide (1048576 < t324.size) = true := decide_eq_true (by omega)
                clear c19
                by_cases c20 : (t325.length : Int) = 0
                · rw [if_pos c20] at H
                  have c20b0 : ((t325.length : Int) == 0) = true := beq_iff_eq.mpr c20
                  have c20b1 : ((t325.length : Int) != 0) = false := bne_eq_false_iff_eq.mpr c20
                  clear c20
                  by_cases c21 : t326 = 0
                  · rw [if_pos c21] at H
                    have c21b0 : (t326 == 0) = true := beq_iff_eq.mpr c21
                    have c21b1 : (t326 != 0) = false := bne_eq_false_iff_eq.mpr c21
                    clear c21
                    obtain rfl := Option.some.inj H
                    go_wp2_with (first | ((with_reducible refine gate_callee (f := 12) rfl ?_); refine goesL_ (some 40) rfl rfl Try.func12 (by kernel_rfl) rfl #[.string t324] rfl (by (try simp only [List.map_toArray, List.map_cons, List.map_nil]); first | done | rfl | (simp only [List.length_drop, List.length_take]; rfl)) ?_; (with_reducible refine (lex_Lex.calls k1 t324 t325 t326 t327 _ A18.out).mono ?_); rintro e w22 ⟨v328, rfl, ho0, hb⟩; refine ⟨_, rfl, ?_⟩; have n0_ := Aside0.mk (Kd.R_lower ho0 (below_size (by repeat (first | (with_reducible first | exact HB.out | apply below_alloc | apply pw_below_drewN | apply below_drew1) | exact HB.out)))); have n1_ := Aside0.mk (below_step (by repeat (first | (with_reducible first | exact HB.out | apply below_alloc | apply pw_below_drewN | apply below_drew1) | exact HB.out)) hb); clear HB; have HO329 := n0_; have HB := n1_; clear n0_ n1_; (try clear hb); (try clear hb2); (try clear hk); (try clear hi); (try clear ho0); obtain ⟨Ao23, co23, eo23⟩ := Kd.R_slice HO329.out; subst eo23))
                    go_ret
                    exact ⟨by first | rfl | (simp [errW_none, errW_some] <;> rfl) | (simp [*, errW_none, errW_some] <;> rfl), by repeat (first | (with_reducible first | exact HB.out | apply below_alloc | apply pw_below_drewN | apply below_drew1) | exact HB.out)⟩
                  · rw [if_neg c21] at H
                    have c21b0 : (t326 == 0) = false := beq_eq_false_iff_ne.mpr c21
                    have c21b1 : (t326 != 0) = true := bne_iff_ne.mpr c21
                    obtain rfl := Option.some.inj H
                    go_wp2_with (first | ((with_reducible refine gate_callee (f := 12) rfl ?_); refine goesL_ (some 40) rfl rfl Try.func12 (by kernel_rfl) rfl #[.string t324] rfl (by (try simp only [List.map_toArray, List.map_cons, List.map_nil]); first | done | rfl | (simp only [List.length_drop, List.length_take]; rfl)) ?_; (with_reducible refine (lex_Lex.calls k1 t324 t325 t326 t327 _ A18.out).mono ?_); rintro e w24 ⟨v328, rfl, ho0, hb⟩; refine ⟨_, rfl, ?_⟩; have n0_ := Aside0.mk (Kd.R_lower ho0 (below_size (by repeat (first | (with_reducible first | exact HB.out | apply below_alloc | apply pw_below_drewN | apply below_drew1) | exact HB.out)))); have n1_ := Aside0.mk (below_step (by repeat (first | (with_reducible first | exact HB.out | apply below_alloc | apply pw_below_drewN | apply below_drew1) | exact HB.out)) hb); clear HB; have HO329 := n0_; have HB := n1_; clear n0_ n1_; (try clear hb); (try clear hb2); (try clear hk); (try clear hi); (try clear ho0); obtain ⟨Ao25, co25, eo25⟩ := Kd.R_slice HO329.out; subst eo25))
                    go_ret
                    exact ⟨by first | rfl | (simp [errW_none, errW_some] <;> rfl) | (simp [*, errW_none, errW_some] <;> rfl), by repeat (first | (with_reducible first | exact HB.out | apply below_alloc | apply pw_below_drewN | apply below_drew1) | exact HB.out)⟩
                · rw [if_neg c20] at H
                  have c20b0 : ((t325.length : Int) == 0) = false := beq_eq_false_iff_ne.mpr c20
                  have c20b1 : ((t325.length : Int) != 0) = true := bne_iff_ne.mpr c20
                  have c20b2 : ¬ (t325 = []) := fun h_ => c20 (by rw [h_]; rfl)
                  obtain rfl := Option.some.inj H
                  go_wp2_with (first | ((with_reducible refine gate_callee (f := 12) rfl ?_); refine goesL_ (some 40) rfl rfl Try.func12 (by kernel_rfl) rfl #[.string t324] rfl (by (try simp only [List.map_toArray, List.map_cons, List.map_nil]); first | done | rfl | (simp only [List.length_drop, List.length_take]; rfl)) ?_; (with_reducible refine (lex_Lex.calls k1 t324 t325 t326 t327 _ A18.out).mono ?_); rintro e w26 ⟨v328, rfl, ho0, hb⟩; refine ⟨_, rfl, ?_⟩; have n0_ := Aside0.mk (Kd.R_lower ho0 (below_size (by repeat (first | (with_reducible first | exact HB.out | apply below_alloc | apply pw_below_drewN | apply below_drew1) | exact HB.out)))); have n1_ := Aside0.mk (below_step (by repeat (first | (with_reducible first | exact HB.out | apply below_alloc | apply pw_below_drewN | apply below_drew1) | exact HB.out)) hb); clear HB; have HO329 := n0_; have HB := n1_; clear n0_ n1_; (try clear hb); (try clear hb2); (try clear hk); (try clear hi); (try clear ho0); obtain ⟨Ao27, co27, eo27⟩ := Kd.R_slice HO329.out; subst eo27))
                  go_ret
                  exact ⟨by first | rfl | (simp [errW_none, errW_some] <;> rfl) | (simp [*, errW_none, errW_some] <;> rfl), by repeat (first | (with_reducible first | exact HB.out | apply below_alloc | apply pw_below_drewN | apply below_drew1) | exact HB.out)⟩
              · rw [if_neg c19] at H
                have c19b0 : decide (1048576 < (t324.size : Int)) = false := decide_eq_false c19
                have c19b1 : decide (1048576 < t324.size) = false := decide_eq_false (by omega)
                clear c19
                obtain ⟨y330, hy330⟩ : ∃ y_ : List (S32), y_ = (([(⟨3, a0, 0, 0, (t324.size : Int)⟩ : S32), (⟨0, (⟨#[]⟩ : ByteArray), 0, (t324.size : Int), (t324.size : Int)⟩ : S32)] : List (S32))) := ⟨_, rfl⟩
                replace H : ((stratumlaw08_same.f k1 t325 y330).bind fun t333 => (if t333 = true then (if t326 = 0 then (some (t327 == 0)) else (some false)) else (some false))) = some r := by first | (rw [hy330]; with_reducible exact H) | (have H2_ := (Option.bind_some _ _).symm.trans H; rw [hy330]; with_reducible exact H2_) | (have H2_ := (Option.bind_some _ _).symm.trans H; with_reducible exact H2_) | with_reducible exact H | (rw [hy330]; exact H) | exact H
                have Ny330 := Aside0.mk hy330
                clear hy330
                replace H := Option.bind_eq_some_iff.mp H
                obtain ⟨t333, A280, H⟩ := H
                replace H : (if t333 = true then (if t326 = 0 then (some (t327 == 0)) else (some false)) else (some false)) = some r := H
                have A28 := Aside0.mk A280
                clear A280
                by_cases c29 : t333 = true
                · subst c29
                  have H1 : (if t326 = 0 then (some (t327 == 0)) else (some false)) = some r := by rw [if_pos rfl] at H; exact H
                  clear H
                  have H := H1
                  clear H1
                  by_cases c30 : t326 = 0
                  · rw [if_pos c30] at H
                    have c30b0 : (t326 == 0) = true := beq_iff_eq.mpr c30
                    have c30b1 : (t326 != 0) = false := bne_eq_false_iff_eq.mpr c30
                    clear c30
                    obtain rfl := Option.some.inj H
                    go_wp2_with (first | ((with_reducible refine gate_callee (f := 12) rfl ?_); refine goesL_ (some 40) rfl rfl Try.func12 (by kernel_rfl) rfl #[.string t324] rfl (by (try simp only [List.map_toArray, List.map_cons, List.map_nil]); first | done | rfl | (simp only [List.length_drop, List.length_take]; rfl)) ?_; (with_reducible refine (lex_Lex.calls k1 t324 t325 t326 t327 _ A18.out).mono ?_); rintro e w31 ⟨v328, rfl, ho0, hb⟩; refine ⟨_, rfl, ?_⟩; have n0_ := Aside0.mk (Kd.R_lower ho0 (below_size (by repeat (first | (with_reducible first | exact HB.out | apply below_alloc | apply pw_below_drewN | apply below_drew1) | exact HB.out)))); have n1_ := Aside0.mk (below_step (by repeat (first | (with_reducible first | exact HB.out | apply below_alloc | apply pw_below_drewN | apply below_drew1) | exact HB.out)) hb); clear HB; have HO329 := n0_; have HB := n1_; clear n0_ n1_; (try clear hb); (try clear hb2); (try clear hk); (try clear hi); (try clear ho0)) | ((with_reducible refine gate_dst (N := 67) rfl ?_); refine Kd.R_lit k32 _ 32 ?hg (N := 67) ?hd (xs := ([(⟨3, a0, 0, 0, (t324.size : Int)⟩ : S32), (⟨0, (⟨#[]⟩ : ByteArray), 0, (t324.size : Int), (t324.size : Int)⟩ : S32)] : List (S32))) (inner := [.int .i64 3, .string a0, .int .u64 0, .int .i64 0, .int .i64 (t324.size : Int), .int .i64 0, .string (⟨#[]⟩ : ByteArray), .int .u64 0, .int .i64 (t324.size : Int), .int .i64 (t324.size : Int)]) (ok := fun _ => True) (okp := fun _ => True) ?hr ?hp (fun _ hk => hk) trivial (Below.refl _ _) (Nat.le_refl _) (by simp) ?_; (case hd => rfl); (case hg => rfl); (case hr => first | (go_simp; done) | (go_simp; rfl)); (case hp => exact (Reps.c5 (show Kd.M k32 _ _ _ (⟨3, a0, 0, 0, (t324.size : Int)⟩ : S32) [.int .i64 3, .string a0, .int .u64 0, .int .i64 0, .int .i64 (t324.size : Int)] from (k32_mkM _ _ _ (⟨3, a0, 0, 0, (t324.size : Int)⟩ : S32) )) (Reps.c5 (show Kd.M k32 _ _ _ (⟨0, (⟨#[]⟩ : ByteArray), 0, (t324.size : Int), (t324.size : Int)⟩ : S32) [.int .i64 0, .string (⟨#[]⟩ : ByteArray), .int .u64 0, .int .i64 (t324.size : Int), .int .i64 (t324.size : Int)] from (k32_mkM _ _ _ (⟨0, (⟨#[]⟩ : ByteArray), 0, (t324.size : Int), (t324.size : Int)⟩ : S32) )) (Reps.none _ _)))); intro v331 w32 ho33 hb hg_ hnew_; clear hg_ hnew_; (first | rw [← Ny330.out] at ho33 | (simp only [Int.reduceToNat] at ho33; rw [← Ny330.out] at ho33)); have n0_ := Aside0.mk (Kd.R_elder' (by (with_reducible repeat (first | apply Kd.R_alloc | apply Kd.R_drewN | apply Kd.R_drew)); exact HO329.out) (Kd.R_base ho33) hb); have n1_ := Aside0.mk (Kd.R_lower (Kd.R_new' ho33 (Kd.R_lt (by (with_reducible repeat (first | apply Kd.R_alloc | apply Kd.R_drewN | apply Kd.R_drew)); exact HO329.out))) (below_size (by repeat (first | (with_reducible first | exact HB.out | apply below_alloc | apply pw_below_drewN | apply below_drew1) | exact HB.out)))); have n2_ := Aside0.mk (below_step (by repeat (first | (with_reducible first | exact HB.out | apply below_alloc | apply pw_below_drewN | apply below_drew1) | exact HB.out)) hb); clear HO329; clear HB; have HO329 := n0_; have HO332 := n1_; have HB := n2_; clear n0_ n1_ n2_; clear hb ho33; obtain ⟨Ao34, co34, eo34⟩ := Kd.R_slice HO329.out; subst eo34; obtain ⟨Ao35, co35, eo35⟩ := Kd.R_slice HO332.out; subst eo35) | ((with_reducible refine gate_callee (f := 13) rfl ?_); refine goesL_ (some 70) rfl rfl Try.func13 (by kernel_rfl) rfl #[.slice Ao34 t325.length co34, .slice Ao35 y330.length co35] rfl (by (try simp only [List.map_toArray, List.map_cons, List.map_nil]); first | done | rfl | (simp only [List.length_drop, List.length_take]; rfl)) ?_; (with_reducible refine (stratumlaw08_same.calls k1 _ _ t325 _ _ y330 true _ ?side1 ?side2 ?side3 ?side4 A28.out).mono ?_); (case side1 => repeat (first | exact (Kd.R_reads' HO329.out).2.2 | (with_reducible refine Kd.C_alloc ?_ _) | (with_reducible refine Kd.C_drewN ?_ _) | (with_reducible refine Kd.C_drew ?_))); (case side2 => exact (Kd.R_reads' HO329.out).2.1); (case side3 => repeat (first | exact (Kd.R_reads' HO332.out).2.2 | (with_reducible refine Kd.C_alloc ?_ _) | (with_reducible refine Kd.C_drewN ?_ _) | (with_reducible refine Kd.C_drew ?_))); (case side4 => exact (Kd.R_reads' HO332.out).2.1); rintro e w' ⟨rfl, ⟨nd, rfl⟩⟩; refine ⟨_, rfl, ?_⟩))
                    go_ret
                    exact ⟨by first | rfl | (simp [errW_none, errW_some] <;> rfl) | (simp [*, errW_none, errW_some] <;> rfl), by repeat (first | (with_reducible first | exact HB.out | apply below_alloc | apply pw_below_drewN | apply below_drew1) | exact HB.out)⟩
                  · rw [if_neg c30] at H
                    have c30b0 : (t326 == 0) = false := beq_eq_false_iff_ne.mpr c30
                    have c30b1 : (t326 != 0) = true := bne_iff_ne.mpr c30
                    obtain rfl := Option.some.inj H
                    go_wp2_with (first | ((with_reducible refine gate_callee (f := 12) rfl ?_); refine goesL_ (some 40) rfl rfl Try.func12 (by kernel_rfl) rfl #[.string t324] rfl (by (try simp only [List.map_toArray, List.map_cons, List.map_nil]); first | done | rfl | (simp only [List.length_drop, List.length_take]; rfl)) ?_; (with_reducible refine (lex_Lex.calls k1 t324 t325 t326 t327 _ A18.out).mono ?_); rintro e w36 ⟨v328, rfl, ho0, hb⟩; refine ⟨_, rfl, ?_⟩; have n0_ := Aside0.mk (Kd.R_lower ho0 (below_size (by repeat (first | (with_reducible first | exact HB.out | apply below_alloc | apply pw_below_drewN | apply below_drew1) | exact HB.out)))); have n1_ := Aside0.mk (below_step (by repeat (first | (with_reducible first | exact HB.out | apply below_alloc | apply pw_below_drewN | apply below_drew1) | exact HB.out)) hb); clear HB; have HO329 := n0_; have HB := n1_; clear n0_ n1_; (try clear hb); (try clear hb2); (try clear hk); (try clear hi); (try clear ho0)) | ((with_reducible refine gate_dst (N := 67) rfl ?_); refine Kd.R_lit k32 _ 32 ?hg (N := 67) ?hd (xs := ([(⟨3, a0, 0, 0, (t324.size : Int)⟩ : S32), (⟨0, (⟨#[]⟩ : ByteArray), 0, (t324.size : Int), (t324.size : Int)⟩ : S32)] : List (S32))) (inner := [.int .i64 3, .string a0, .int .u64 0, .int .i64 0, .int .i64 (t324.size : Int), .int .i64 0, .string (⟨#[]⟩ : ByteArray), .int .u64 0, .int .i64 (t324.size : Int), .int .i64 (t324.size : Int)]) (ok := fun _ => True) (okp := fun _ => True) ?hr ?hp (fun _ hk => hk) trivial (Below.refl _ _) (Nat.le_refl _) (by simp) ?_; (case hd => rfl); (case hg => rfl); (case hr => first | (go_simp; done) | (go_simp; rfl)); (case hp => exact (Reps.c5 (show Kd.M k32 _ _ _ (⟨3, a0, 0, 0, (t324.size : Int)⟩ : S32) [.int .i64 3, .string a0, .int .u64 0, .int .i64 0, .int .i64 (t324.size : Int)] from (k32_mkM _ _ _ (⟨3, a0, 0, 0, (t324.size : Int)⟩ : S32) )) (Reps.c5 (show Kd.M k32 _ _ _ (⟨0, (⟨#[]⟩ : ByteArray), 0, (t324.size : Int), (t324.size : Int)⟩ : S32) [.int .i64 0, .string (⟨#[]⟩ : ByteArray), .int .u64 0, .int .i64 (t324.size : Int), .int .i64 (t324.size : Int)] from (k32_mkM _ _ _ (⟨0, (⟨#[]⟩ : ByteArray), 0, (t324.size : Int), (t324.size : Int)⟩ : S32) )) (Reps.none _ _)))); intro v331 w37 ho38 hb hg_ hnew_; clear hg_ hnew_; (first | rw [← Ny330.out] at ho38 | (simp only [Int.reduceToNat] at ho38; rw [← Ny330.out] at ho38)); have n0_ := Aside0.mk (Kd.R_elder' (by (with_reducible repeat (first | apply Kd.R_alloc | apply Kd.R_drewN | apply Kd.R_drew)); exact HO329.out) (Kd.R_base ho38) hb); have n1_ := Aside0.mk (Kd.R_lower (Kd.R_new' ho38 (Kd.R_lt (by (with_reducible repeat (first | apply Kd.R_alloc | apply Kd.R_drewN | apply Kd.R_drew)); exact HO329.out))) (below_size (by repeat (first | (with_reducible first | exact HB.out | apply below_alloc | apply pw_below_drewN | apply below_drew1) | exact HB.out)))); have n2_ := Aside0.mk (below_step (by repeat (first | (with_reducible first | exact HB.out | apply below_alloc | apply pw_below_drewN | apply below_drew1) | exact HB.out)) hb); clear HO329; clear HB; have HO329 := n0_; have HO332 := n1_; have HB := n2_; clear n0_ n1_ n2_; clear hb ho38; obtain ⟨Ao39, co39, eo39⟩ := Kd.R_slice HO329.out; subst eo39; obtain ⟨Ao40, co40, eo40⟩ := Kd.R_slice HO332.out; subst eo40) | ((with_reducible refine gate_callee (f := 13) rfl ?_); refine goesL_ (some 70) rfl rfl Try.func13 (by kernel_rfl) rfl #[.slice Ao39 t325.length co39, .slice Ao40 y330.length co40] rfl (by (try simp only [List.map_toArray, List.map_cons, List.map_nil]); first | done | rfl | (simp only [List.length_drop, List.length_take]; rfl)) ?_; (with_reducible refine (stratumlaw08_same.calls k1 _ _ t325 _ _ y330 true _ ?side1 ?side2 ?side3 ?side4 A28.out).mono ?_); (case side1 => repeat (first | exact (Kd.R_reads' HO329.out).2.2 | (with_reducible refine Kd.C_alloc ?_ _) | (with_reducible refine Kd.C_drewN ?_ _) | (with_reducible refine Kd.C_drew ?_))); (case side2 => exact (Kd.R_reads' HO329.out).2.1); (case side3 => repeat (first | exact (Kd.R_reads' HO332.out).2.2 | (with_reducible refine Kd.C_alloc ?_ _) | (with_reducible refine Kd.C_drewN ?_ _) | (with_reducible refine Kd.C_drew ?_))); (case side4 => exact (Kd.R_reads' HO332.out).2.1); rintro e w' ⟨rfl, ⟨nd, rfl⟩⟩; refine ⟨_, rfl, ?_⟩))
                    go_ret
                    exact ⟨by first | rfl | (simp [errW_none, errW_some] <;> rfl) | (simp [*, errW_none, errW_some] <;> rfl), by repeat (first | (with_reducible first | exact HB.out | apply below_alloc | apply pw_below_drewN | apply below_drew1) | exact HB.out)⟩
                · replace c29 := Bool.eq_false_iff.mpr c29
                  subst c29
                  have H1 : (some false) = some r := by rw [if_neg (show ¬ (false = true) by decide)] at H; exact H
                  clear H
                  have H := H1
                  clear H1
                  obtain rfl := Option.some.inj H
                  go_wp2_with (first | ((with_reducible refine gate_callee (f := 12) rfl ?_); refine goesL_ (some 40) rfl rfl Try.func12 (by kernel_rfl) rfl #[.string t324] rfl (by (try simp only [List.map_toArray, List.map_cons, List.map_nil]); first | done | rfl | (simp only [List.length_drop, List.length_take]; rfl)) ?_; (with_reducible refine (lex_Lex.calls k1 t324 t325 t326 t327 _ A18.out).mono ?_); rintro e w41 ⟨v328, rfl, ho0, hb⟩; refine ⟨_, rfl, ?_⟩; have n0_ := Aside0.mk (Kd.R_lower ho0 (below_size (by repeat (first | (with_reducible first | exact HB.out | apply below_alloc | apply pw_below_drewN | apply below_drew1) | exact HB.out)))); have n1_ := Aside0.mk (below_step (by repeat (first | (with_reducible first | exact HB.out | apply below_alloc | apply pw_below_drewN | apply below_drew1) | exact HB.out)) hb); clear HB; have HO329 := n0_; have HB := n1_; clear n0_ n1_; (try clear hb); (try clear hb2); (try clear hk); (try clear hi); (try clear ho0)) | ((with_reducible refine gate_dst (N := 67) rfl ?_); refine Kd.R_lit k32 _ 32 ?hg (N := 67) ?hd (xs := ([(⟨3, a0, 0, 0, (t324.size : Int)⟩ : S32), (⟨0, (⟨#[]⟩ : ByteArray), 0, (t324.size : Int), (t324.size : Int)⟩ : S32)] : List (S32))) (inner := [.int .i64 3, .string a0, .int .u64 0, .int .i64 0, .int .i64 (t324.size : Int), .int .i64 0, .string (⟨#[]⟩ : ByteArray), .int .u64 0, .int .i64 (t324.size : Int), .int .i64 (t324.size : Int)]) (ok := fun _ => True) (okp := fun _ => True) ?hr ?hp (fun _ hk => hk) trivial (Below.refl _ _) (Nat.le_refl _) (by simp) ?_; (case hd => rfl); (case hg => rfl); (case hr => first | (go_simp; done) | (go_simp; rfl)); (case hp => exact (Reps.c5 (show Kd.M k32 _ _ _ (⟨3, a0, 0, 0, (t324.size : Int)⟩ : S32) [.int .i64 3, .string a0, .int .u64 0, .int .i64 0, .int .i64 (t324.size : Int)] from (k32_mkM _ _ _ (⟨3, a0, 0, 0, (t324.size : Int)⟩ : S32) )) (Reps.c5 (show Kd.M k32 _ _ _ (⟨0, (⟨#[]⟩ : ByteArray), 0, (t324.size : Int), (t324.size : Int)⟩ : S32) [.int .i64 0, .string (⟨#[]⟩ : ByteArray), .int .u64 0, .int .i64 (t324.size : Int), .int .i64 (t324.size : Int)] from (k32_mkM _ _ _ (⟨0, (⟨#[]⟩ : ByteArray), 0, (t324.size : Int), (t324.size : Int)⟩ : S32) )) (Reps.none _ _)))); intro v331 w42 ho43 hb hg_ hnew_; clear hg_ hnew_; (first | rw [← Ny330.out] at ho43 | (simp only [Int.reduceToNat] at ho43; rw [← Ny330.out] at ho43)); have n0_ := Aside0.mk (Kd.R_elder' (by (with_reducible repeat (first | apply Kd.R_alloc | apply Kd.R_drewN | apply Kd.R_drew)); exact HO329.out) (Kd.R_base ho43) hb); have n1_ := Aside0.mk (Kd.R_lower (Kd.R_new' ho43 (Kd.R_lt (by (with_reducible repeat (first | apply Kd.R_alloc | apply Kd.R_drewN | apply Kd.R_drew)); exact HO329.out))) (below_size (by repeat (first | (with_reducible first | exact HB.out | apply below_alloc | apply pw_below_drewN | apply below_drew1) | exact HB.out)))); have n2_ := Aside0.mk (below_step (by repeat (first | (with_reducible first | exact HB.out | apply below_alloc | apply pw_below_drewN | apply below_drew1) | exact HB.out)) hb); clear HO329; clear HB; have HO329 := n0_; have HO332 := n1_; have HB := n2_; clear n0_ n1_ n2_; clear hb ho43; obtain ⟨Ao44, co44, eo44⟩ := Kd.R_slice HO329.out; subst eo44; obtain ⟨Ao45, co45, eo45⟩ := Kd.R_slice HO332.out; subst eo45) | ((with_reducible refine gate_callee (f := 13) rfl ?_); refine goesL_ (some 70) rfl rfl Try.func13 (by kernel_rfl) rfl #[.slice Ao44 t325.length co44, .slice Ao45 y330.length co45] rfl (by (try simp only [List.map_toArray, List.map_cons, List.map_nil]); first | done | rfl | (simp only [List.length_drop, List.length_take]; rfl)) ?_; (with_reducible refine (stratumlaw08_same.calls k1 _ _ t325 _ _ y330 false _ ?side1 ?side2 ?side3 ?side4 A28.out).mono ?_); (case side1 => repeat (first | exact (Kd.R_reads' HO329.out).2.2 | (with_reducible refine Kd.C_alloc ?_ _) | (with_reducible refine Kd.C_drewN ?_ _) | (with_reducible refine Kd.C_drew ?_))); (case side2 => exact (Kd.R_reads' HO329.out).2.1); (case side3 => repeat (first | exact (Kd.R_reads' HO332.out).2.2 | (with_reducible refine Kd.C_alloc ?_ _) | (with_reducible refine Kd.C_drewN ?_ _) | (with_reducible refine Kd.C_drew ?_))); (case side4 => exact (Kd.R_reads' HO332.out).2.1); rintro e w' ⟨rfl, ⟨nd, rfl⟩⟩; refine ⟨_, rfl, ?_⟩))
                  go_ret
                  exact ⟨by first | rfl | (simp [errW_none, errW_some] <;> rfl) | (simp [*, errW_none, errW_some] <;> rfl), by repeat (first | (with_reducible first | exact HB.out | apply below_alloc | apply pw_below_drewN | apply below_drew1) | exact HB.out)⟩
  · replace c3 := Bool.eq_false_iff.mpr c3
    subst c3
    have H1 : (some false) = some r := by rw [if_neg (show ¬ (false = true) by decide)] at H; exact H
    clear H
    have H := H1
    clear H1
    obtain rfl := Option.some.inj H
    go_enter Try.func5, Try.ntmps5
    go_wp2_with (first | ((with_reducible refine gate_callee (f := 10) rfl ?_); refine goesL_ (some 9) rfl rfl Try.func10 (by kernel_rfl) rfl #[] rfl (by (try simp only [List.map_toArray, List.map_cons, List.map_nil]); first | done | rfl | (simp only [List.length_drop, List.length_take]; rfl)) ?_; (with_reducible refine (stratumlaw08_lives.calls k  false _ A2.out).mono ?_); rintro e w46 ⟨rfl, hb⟩; refine ⟨_, rfl, ?_⟩; have n0_ := Aside0.mk (below_step (by repeat (first | (with_reducible first | exact HB.out | apply below_alloc | apply pw_below_drewN | apply below_drew1) | exact HB.out)) hb); clear HB; have HB := n0_; clear n0_; (try clear hb); (try clear hb2); (try clear hk); (try clear hi)))
    go_ret
    exact ⟨by first | rfl | (simp [errW_none, errW_some] <;> rfl) | (simp [*, errW_none, errW_some] <;> rfl), by repeat (first | (with_reducible first | exact HB.out | apply below_alloc | apply pw_below_drewN | apply below_drew1) | exact HB.out)⟩

/-- THE ONE PURE STATEMENT of stratumlaw08_LexBack: yours. -/
def stratumlaw08_LexBack.Pure : Prop := ∀ (a0 : ByteArray), a0.size ≤ 140737488351232 → ∃ k, stratumlaw08_LexBack.f k a0 = some true
theorem stratumlaw08_LexBack.walk (P : stratumlaw08_LexBack.Pure) (a0 : ByteArray) (w : World) (w0 : a0.size ≤ 140737488351232) :
    Calls Try.prog 5 #[.string a0] w fun e w' => e = .returned (.bool true) ∧ Below w.heap.size w w' := by
  obtain ⟨k, h⟩ := P a0 w0
  refine (stratumlaw08_LexBack.calls k a0 true w h).mono ?_
  rintro e w' ⟨rfl, hd⟩
  exact ⟨rfl, hd⟩

/-! ### stratumlaw08_gap: function 18 -/
def stratumlaw08_gap.l0 : Nat → ByteArray → Bool → Int → Option (Bool)
  | 0, _, _, _ => none
  | k + 1, x0, x3, x4 => if x4 < (x0.size : Int) then (if 0 ≤ x4 then (if x3 = true then (stratumlaw08_gap.l0 k x0 ((bt x0 x4) != 10) (wrap64 (x4 + 1))) else (if (bt x0 x4) = 35 then (stratumlaw08_gap.l0 k x0 true (wrap64 (x4 + 1))) else (if (bt x0 x4) = 32 then (stratumlaw08_gap.l0 k x0 x3 (wrap64 (x4 + 1))) else (if (bt x0 x4) = 9 then (stratumlaw08_gap.l0 k x0 x3 (wrap64 (x4 + 1))) else (if (bt x0 x4) = 10 then (stratumlaw08_gap.l0 k x0 x3 (wrap64 (x4 + 1))) else (if (bt x0 x4) = 13 then (stratumlaw08_gap.l0 k x0 x3 (wrap64 (x4 + 1))) else (some false))))))) else (none)) else (some true)
def stratumlaw08_gap.f (k : Nat) (a0 : ByteArray) : Option (Bool) := stratumlaw08_gap.l0 k a0 false 0
theorem stratumlaw08_gap.mono_l : ∀ k, (∀ y0 y1 y2, LeO (stratumlaw08_gap.l0 k y0 y1 y2) (stratumlaw08_gap.l0 (k + 1) y0 y1 y2))
  | 0 => fun _ _ _ r h => by simp [stratumlaw08_gap.l0] at h
  | k + 1 => by
    have ih0 := stratumlaw08_gap.mono_l k
    · intro y0 y1 y2
      unfold stratumlaw08_gap.l0
      repeat' first
      | (with_reducible exact ih0 _ _ _)
      | (with_reducible exact LeO.refl _)
      | (with_reducible exact LeO.none _)
      | (with_reducible refine LeO.ite ?_ ?_)
      | (with_reducible refine LeO.bind ?_ (fun _ => ?_))
      | exact ih0 _ _ _
      | exact LeO.none _
      | refine LeO.ite ?_ ?_
      | refine LeO.bind ?_ (fun _ => ?_)
theorem stratumlaw08_gap.mono : ∀ a0 k, LeO (stratumlaw08_gap.f k a0) (stratumlaw08_gap.f (k + 1) a0) := by
  intro a0 k
  have ih0 := stratumlaw08_gap.mono_l k
  unfold stratumlaw08_gap.f
  repeat' first
      | (with_reducible exact ih0 _ _ _)
      | (with_reducible exact LeO.refl _)
      | (with_reducible exact LeO.none _)
      | (with_reducible refine LeO.ite ?_ ?_)
      | (with_reducible refine LeO.bind ?_ (fun _ => ?_))
      | exact ih0 _ _ _
      | exact LeO.none _
      | refine LeO.ite ?_ ?_
      | refine LeO.bind ?_ (fun _ => ?_)
set_option maxHeartbeats 8000000 in
set_option maxRecDepth 100000 in
theorem stratumlaw08_gap.calls (k : Nat) (a0 : ByteArray) (r : Bool) (w : World) (h : stratumlaw08_gap.f k a0 = some r) :
    Calls Try.prog 18 #[.string a0] w fun e w' => e = .returned (.bool r) ∧ Drawn0 w w' := by
  have H : (stratumlaw08_gap.l0 k a0 false 0) = some r := h
  clear h
  have H' := Aside0.mk H
  clear H
  go_enter Try.func18, Try.ntmps18
  go_wp2
  go_loopg [3, 4] k (fun kq v3 v4 w' => ∃ (x3_1 : Bool) (x4_1 : Int), v3 = .bool x3_1 ∧ v4 = .int .i64 x4_1 ∧ Aside0 (stratumlaw08_gap.l0 kq a0 x3_1 x4_1 = some r) ∧ Aside0 (kq ≤ k) ∧ Drawn0 w w')
  case atStart => exact ⟨(false), (0), (by first | rfl | (simp; done) | (simp [*]; done)), (by first | rfl | (simp; done) | (simp [*]; done)), H', ⟨Nat.le_refl _⟩, by repeat (first | exact Drawn0.refl _ | apply Drawn0.step)⟩
  case round =>
    clear H'
    try clear c1
    obtain ⟨x3_1, x4_1, rfl, rfl, HA, HK1, ⟨m1, rfl⟩⟩ := hrel
    cases gk with
    | zero => exact absurd HA.out (by simp [stratumlaw08_gap.l0])
    | succ k1 =>
      have H := HA.out
      clear HA
      simp only [stratumlaw08_gap.l0] at H
      by_cases c2 : x4_1 < (a0.size : Int)
      · rw [if_pos c2] at H
        have c2b0 : decide (x4_1 < (a0.size : Int)) = true := decide_eq_true c2
        clear c2
        by_cases c3 : 0 ≤ x4_1
        · rw [if_pos c3] at H
          have c3b0 : decide (0 ≤ x4_1) = true := decide_eq_true c3
          clear c3
          by_cases c5 : x3_1 = true
          · subst c5
            have H1 : (stratumlaw08_gap.l0 k1 a0 ((bt a0 x4_1) != 10) (wrap64 (x4_1 + 1))) = some r := by rw [if_pos rfl] at H; exact H
            clear H
            have H := H1
            clear H1
            have H' := Aside0.mk H
            clear H
            have p4 : 0 ≤ (x4_1 : Int) := of_decide_eq_true (by first | (with_reducible assumption) | assumption)
            have q4 : x4_1 < (a0.size : Int) := of_decide_eq_true (by first | (with_reducible assumption) | assumption)
            have hx4 := bt_at a0 x4_1
            replace p4 := eq_true p4
            replace q4 := eq_true q4
            go_wp2
            go_roundg k1
            case measure => have := HK1.out; omega
            case rel => exact ⟨(((bt a0 x4_1) != 10)), (wrap64 (x4_1 + 1)), (by first | rfl | (simp; done) | (simp [*]; done)), (by first | rfl | (simp; done) | (simp [*]; done)), H', ⟨by have := HK1.out; omega⟩, by repeat (first | exact Drawn0.refl _ | apply Drawn0.step)⟩
          · replace c5 := Bool.eq_false_iff.mpr c5
            subst c5
            have H1 : (if (bt a0 x4_1) = 35 then (stratumlaw08_gap.l0 k1 a0 true (wrap64 (x4_1 + 1))) else (if (bt a0 x4_1) = 32 then (stratumlaw08_gap.l0 k1 a0 false (wrap64 (x4_1 + 1))) else (if (bt a0 x4_1) = 9 then (stratumlaw08_gap.l0 k1 a0 false (wrap64 (x4_1 + 1))) else (if (bt a0 x4_1) = 10 then (stratumlaw08_gap.l0 k1 a0 false (wrap64 (x4_1 + 1))) else (if (bt a0 x4_1) = 13 then (stratumlaw08_gap.l0 k1 a0 false (wrap64 (x4_1 + 1))) else (some false)))))) = some r := by rw [if_neg (show ¬ (false = true) by decide)] at H; exact H
            clear H
            have H := H1
            clear H1
            by_cases c6 : (bt a0 x4_1) = 35
            · rw [if_pos c6] at H
              have c6b0 : ((bt a0 x4_1) == 35) = true := beq_iff_eq.mpr c6
              have c6b1 : ((bt a0 x4_1) != 35) = false := bne_eq_false_iff_eq.mpr c6
              clear c6
              have H' := Aside0.mk H
              clear H
              have p4 : 0 ≤ (x4_1 : Int) := of_decide_eq_true (by first | (with_reducible assumption) | assumption)
              have q4 : x4_1 < (a0.size : Int) := of_decide_eq_true (by first | (with_reducible assumption) | assumption)
              have hx4 := bt_at a0 x4_1
              replace p4 := eq_true p4
              replace q4 := eq_true q4
              go_wp2
              go_roundg k1
              case measure => have := HK1.out; omega
              case rel => exact ⟨(true), (wrap64 (x4_1 + 1)), (by first | rfl | (simp; done) | (simp [*]; done)), (by first | rfl | (simp; done) | (simp [*]; done)), H', ⟨by have := HK1.out; omega⟩, by repeat (first | exact Drawn0.refl _ | apply Drawn0.step)⟩
            · rw [if_neg c6] at H
              have c6b0 : ((bt a0 x4_1) == 35) = false := beq_eq_false_iff_ne.mpr c6
              have c6b1 : ((bt a0 x4_1) != 35) = true := bne_iff_ne.mpr c6
              by_cases c7 : (bt a0 x4_1) = 32
              · rw [if_pos c7] at H
                have c7b0 : ((bt a0 x4_1) == 32) = true := beq_iff_eq.mpr c7
                have c7b1 : ((bt a0 x4_1) != 32) = false := bne_eq_false_iff_eq.mpr c7
                clear c7
                have H' := Aside0.mk H
                clear H
                have p4 : 0 ≤ (x4_1 : Int) := of_decide_eq_true (by first | (with_reducible assumption) | assumption)
                have q4 : x4_1 < (a0.size : Int) := of_decide_eq_true (by first | (with_reducible assumption) | assumption)
                have hx4 := bt_at a0 x4_1
                replace p4 := eq_true p4
                replace q4 := eq_true q4
                go_wp2
                go_roundg k1
                case measure => have := HK1.out; omega
                case rel => exact ⟨(false), (wrap64 (x4_1 + 1)), (by first | rfl | (simp; done) | (simp [*]; done)), (by first | rfl | (simp; done) | (simp [*]; done)), H', ⟨by have := HK1.out; omega⟩, by repeat (first | exact Drawn0.refl _ | apply Drawn0.step)⟩
              · rw [if_neg c7] at H
                have c7b0 : ((bt a0 x4_1) == 32) = false := beq_eq_false_iff_ne.mpr c7
                have c7b1 : ((bt a0 x4_1) != 32) = true := bne_iff_ne.mpr c7
                by_cases c8 : (bt a0 x4_1) = 9
                · rw [if_pos c8] at H
                  have c8b0 : ((bt a0 x4_1) == 9) = true := beq_iff_eq.mpr c8
                  have c8b1 : ((bt a0 x4_1) != 9) = false := bne_eq_false_iff_eq.mpr c8
                  clear c8
                  have H' := Aside0.mk H
                  clear H
                  have p4 : 0 ≤ (x4_1 : Int) := of_decide_eq_true (by first | (with_reducible assumption) | assumption)
                  have q4 : x4_1 < (a0.size : Int) := of_decide_eq_true (by first | (with_reducible assumption) | assumption)
                  have hx4 := bt_at a0 x4_1
                  replace p4 := eq_true p4
                  replace q4 := eq_true q4
                  go_wp2
                  go_roundg k1
                  case measure => have := HK1.out; omega
                  case rel => exact ⟨(false), (wrap64 (x4_1 + 1)), (by first | rfl | (simp; done) | (simp [*]; done)), (by first | rfl | (simp; done) | (simp [*]; done)), H', ⟨by have := HK1.out; omega⟩, by repeat (first | exact Drawn0.refl _ | apply Drawn0.step)⟩
                · rw [if_neg c8] at H
                  have c8b0 : ((bt a0 x4_1) == 9) = false := beq_eq_false_iff_ne.mpr c8
                  have c8b1 : ((bt a0 x4_1) != 9) = true := bne_iff_ne.mpr c8
                  by_cases c9 : (bt a0 x4_1) = 10
                  · rw [if_pos c9] at H
                    have c9b0 : ((bt a0 x4_1) == 10) = true := beq_iff_eq.mpr c9
                    have c9b1 : ((bt a0 x4_1) != 10) = false := bne_eq_false_iff_eq.mpr c9
                    clear c9
                    have H' := Aside0.mk H
                    clear H
                    have p4 : 0 ≤ (x4_1 : Int) := of_decide_eq_true (by first | (with_reducible assumption) | assumption)
                    have q4 : x4_1 < (a0.size : Int) := of_decide_eq_true (by first | (with_reducible assumption) | assumption)
                    have hx4 := bt_at a0 x4_1
                    replace p4 := eq_true p4
                    replace q4 := eq_true q4
                    go_wp2
                    go_roundg k1
                    case measure => have := HK1.out; omega
                    case rel => exact ⟨(false), (wrap64 (x4_1 + 1)), (by first | rfl | (simp; done) | (simp [*]; done)), (by first | rfl | (simp; done) | (simp [*]; done)), H', ⟨by have := HK1.out; omega⟩, by repeat (first | exact Drawn0.refl _ | apply Drawn0.step)⟩
                  · rw [if_neg c9] at H
                    have c9b0 : ((bt a0 x4_1) == 10) = false := beq_eq_false_iff_ne.mpr c9
                    have c9b1 : ((bt a0 x4_1) != 10) = true := bne_iff_ne.mpr c9
                    by_cases c10 : (bt a0 x4_1) = 13
                    · rw [if_pos c10] at H
                      have c10b0 : ((bt a0 x4_1) == 13) = true := beq_iff_eq.mpr c10
                      have c10b1 : ((bt a0 x4_1) != 13) = false := bne_eq_false_iff_eq.mpr c10
                      clear c10
                      have H' := Aside0.mk H
                      clear H
                      have p4 : 0 ≤ (x4_1 : Int) := of_decide_eq_true (by first | (with_reducible assumption) | assumption)
                      have q4 : x4_1 < (a0.size : Int) := of_decide_eq_true (by first | (with_reducible assumption) | assumption)
                      have hx4 := bt_at a0 x4_1
                      replace p4 := eq_true p4
                      replace q4 := eq_true q4
                      go_wp2
                      go_roundg k1
                      case measure => have := HK1.out; omega
                      case rel => exact ⟨(false), (wrap64 (x4_1 + 1)), (by first | rfl | (simp; done) | (simp [*]; done)), (by first | rfl | (simp; done) | (simp [*]; done)), H', ⟨by have := HK1.out; omega⟩, by repeat (first | exact Drawn0.refl _ | apply Drawn0.step)⟩
                    · rw [if_neg c10] at H
                      have c10b0 : ((bt a0 x4_1) == 13) = false := beq_eq_false_iff_ne.mpr c10
                      have c10b1 : ((bt a0 x4_1) != 13) = true := bne_iff_ne.mpr c10
                      obtain rfl := Option.some.inj H
                      have p4 : 0 ≤ (x4_1 : Int) := of_decide_eq_true (by first | (with_reducible assumption) | assumption)
                      have q4 : x4_1 < (a0.size : Int) := of_decide_eq_true (by first | (with_reducible assumption) | assumption)
                      have hx4 := bt_at a0 x4_1
                      replace p4 := eq_true p4
                      replace q4 := eq_true q4
                      go_wp2
                      go_ret
                      exact ⟨by first | rfl | (simp; done) | (simp [*]; done), by repeat (first | exact Drawn0.refl _ | apply Drawn0.step)⟩
        · rw [if_neg c3] at H
          exact absurd H (by simp)
      · rw [if_neg c2] at H
        have c2b0 : decide (x4_1 < (a0.size : Int)) = false := decide_eq_false c2
        clear c2
        obtain rfl := Option.some.inj H
        go_wp2
        go_ret
        exact ⟨by first | rfl | (simp; done) | (simp [*]; done), by repeat (first | exact Drawn0.refl _ | apply Drawn0.step)⟩

end Go.Proofs.Ytedhkelochpdnaa.X
