/- The machine's side of the laws of this seat: for each Go function a Lean function of lists and numbers, and that the call answers what it answers. No condition but those in the theorems. -/
import Derived.Test.YtedhkelochpdnaaX0
import Derived.Test.YtedhkelochpdnaaX4
import Derived.Test.YtedhkelochpdnaaX5
namespace Go.Proofs.Ytedhkelochpdnaa.X
open Go.RowKit Go.Proofs.YtedhkelochpdnaaW.PrintWords Go.Proofs.YtedhkelochpdnaaW.PrintLast Go.Proofs.YtedhkelochpdnaaW.PrintMore
attribute [local go_sem] max2_int min2_int max_two min_two max_three min_three max_four min_four   -- for this text's walks alone
set_option linter.unusedVariables false
set_option linter.unusedSimpArgs false

/-! ### stratumlaw08_LexNames: function 8 -/
def stratumlaw08_LexNames.f (k : Nat) (a0 : ByteArray) : Option (Bool) := (stratumlaw08_lives.f k).bind fun t378 => (if t378 = true then ((lex_Lex.f k a0).bind fun bt379 => (if bt379.2.2 = 0 then (if (bt379.1.length : Int) = 2 then (if 0 < (bt379.1.length : Int) then (if ((rd_T32 bt379.1 0).f0) = 1 then (if ((rd_T32 bt379.1 0).f3) = 0 then ((lex_Name.f a0).bind fun t387 => (if (t387 == (((rd_T32 bt379.1 0).f4) == (a0.size : Int))) = true then (if (((rd_T32 bt379.1 0).f4) = (a0.size : Int)) then (if ((rd_T32 bt379.1 0).f1).toList = a0.toList then (some (decide ((a0.size : Int) ≤ 64))) else (some false)) else (some true)) else (some false))) else ((lex_Name.f a0).bind fun t389 => (if (t389 == false) = true then (some true) else (some false)))) else ((lex_Name.f a0).bind fun t390 => (if (t390 == false) = true then (some true) else (some false)))) else (none)) else ((lex_Name.f a0).bind fun t391 => (if (t391 == false) = true then (some true) else (some false)))) else ((lex_Name.f a0).bind fun t392 => (if (t392 == false) = true then (some true) else (some false))))) else (some false))
theorem stratumlaw08_LexNames.mono : ∀ a0 k, LeO (stratumlaw08_LexNames.f k a0) (stratumlaw08_LexNames.f (k + 1) a0) := by
  intro a0 k
  unfold stratumlaw08_LexNames.f
  repeat' first
      | (with_reducible exact lex_Lex.mono _ _)
      | (with_reducible exact stratumlaw08_lives.mono _)
      | (with_reducible exact LeO.refl _)
      | (with_reducible exact LeO.none _)
      | (with_reducible refine LeO.ite ?_ ?_)
      | (with_reducible refine LeO.bind ?_ (fun _ => ?_))
      | exact lex_Lex.mono _ _
      | exact stratumlaw08_lives.mono _
      | exact LeO.none _
      | refine LeO.ite ?_ ?_
      | refine LeO.bind ?_ (fun _ => ?_)
set_option maxHeartbeats 8000000 in
set_option maxRecDepth 100000 in
theorem stratumlaw08_LexNames.calls (k : Nat) (a0 : ByteArray) (r : Bool) (w : World) (h : stratumlaw08_LexNames.f k a0 = some r) :
    Calls Try.prog 8 #[.string a0] w fun e w' => e = .returned (.bool r) ∧ Below w.heap.size w w' := by
  have HB := Aside0.mk (Below.refl w.heap.size w)
  have H : ((stratumlaw08_lives.f k).bind fun t378 => (if t378 = true then ((lex_Lex.f k a0).bind fun bt379 => (if bt379.2.2 = 0 then (if (bt379.1.length : Int) = 2 then (if 0 < (bt379.1.length : Int) then (if ((rd_T32 bt379.1 0).f0) = 1 then (if ((rd_T32 bt379.1 0).f3) = 0 then ((lex_Name.f a0).bind fun t387 => (if (t387 == (((rd_T32 bt379.1 0).f4) == (a0.size : Int))) = true then (if (((rd_T32 bt379.1 0).f4) = (a0.size : Int)) then (if ((rd_T32 bt379.1 0).f1).toList = a0.toList then (some (decide ((a0.size : Int) ≤ 64))) else (some false)) else (some true)) else (some false))) else ((lex_Name.f a0).bind fun t389 => (if (t389 == false) = true then (some true) else (some false)))) else ((lex_Name.f a0).bind fun t390 => (if (t390 == false) = true then (some true) else (some false)))) else (none)) else ((lex_Name.f a0).bind fun t391 => (if (t391 == false) = true then (some true) else (some false)))) else ((lex_Name.f a0).bind fun t392 => (if (t392 == false) = true then (some true) else (some false))))) else (some false))) = some r := h
  clear h
  replace H := Option.bind_eq_some_iff.mp H
  obtain ⟨t378, A20, H⟩ := H
  replace H : (if t378 = true then ((lex_Lex.f k a0).bind fun bt379 => (if bt379.2.2 = 0 then (if (bt379.1.length : Int) = 2 then (if 0 < (bt379.1.length : Int) then (if ((rd_T32 bt379.1 0).f0) = 1 then (if ((rd_T32 bt379.1 0).f3) = 0 then ((lex_Name.f a0).bind fun t387 => (if (t387 == (((rd_T32 bt379.1 0).f4) == (a0.size : Int))) = true then (if (((rd_T32 bt379.1 0).f4) = (a0.size : Int)) then (if ((rd_T32 bt379.1 0).f1).toList = a0.toList then (some (decide ((a0.size : Int) ≤ 64))) else (some false)) else (some true)) else (some false))) else ((lex_Name.f a0).bind fun t389 => (if (t389 == false) = true then (some true) else (some false)))) else ((lex_Name.f a0).bind fun t390 => (if (t390 == false) = true then (some true) else (some false)))) else (none)) else ((lex_Name.f a0).bind fun t391 => (if (t391 == false) = true then (some true) else (some false)))) else ((lex_Name.f a0).bind fun t392 => (if (t392 == false) = true then (some true) else (some false))))) else (some false)) = some r := H
  have A2 := Aside0.mk A20
  clear A20
  by_cases c3 : t378 = true
  · subst c3
    have H1 : ((lex_Lex.f k a0).bind fun bt379 => (if bt379.2.2 = 0 then (if (bt379.1.length : Int) = 2 then (if 0 < (bt379.1.length : Int) then (if ((rd_T32 bt379.1 0).f0) = 1 then (if ((rd_T32 bt379.1 0).f3) = 0 then ((lex_Name.f a0).bind fun t387 => (if (t387 == (((rd_T32 bt379.1 0).f4) == (a0.size : Int))) = true then (if (((rd_T32 bt379.1 0).f4) = (a0.size : Int)) then (if ((rd_T32 bt379.1 0).f1).toList = a0.toList then (some (decide ((a0.size : Int) ≤ 64))) else (some false)) else (some true)) else (some false))) else ((lex_Name.f a0).bind fun t389 => (if (t389 == false) = true then (some true) else (some false)))) else ((lex_Name.f a0).bind fun t390 => (if (t390 == false) = true then (some true) else (some false)))) else (none)) else ((lex_Name.f a0).bind fun t391 => (if (t391 == false) = true then (some true) else (some false)))) else ((lex_Name.f a0).bind fun t392 => (if (t392 == false) = true then (some true) else (some false))))) = some r := by rw [if_pos rfl] at H; exact H
    clear H
    have H := H1
    clear H1
    replace H := Option.bind_eq_some_iff.mp H
    obtain ⟨⟨t379, t380, t381⟩, A40, H⟩ := H
    replace H : (if t381 = 0 then (if (t379.length : Int) = 2 then (if 0 < (t379.length : Int) then (if ((rd_T32 t379 0).f0) = 1 then (if ((rd_T32 t379 0).f3) = 0 then ((lex_Name.f a0).bind fun t387 => (if (t387 == (((rd_T32 t379 0).f4) == (a0.size : Int))) = true then (if (((rd_T32 t379 0).f4) = (a0.size : Int)) then (if ((rd_T32 t379 0).f1).toList = a0.toList then (some (decide ((a0.size : Int) ≤ 64))) else (some false)) else (some true)) else (some false))) else ((lex_Name.f a0).bind fun t389 => (if (t389 == false) = true then (some true) else (some false)))) else ((lex_Name.f a0).bind fun t390 => (if (t390 == false) = true then (some true) else (some false)))) else (none)) else ((lex_Name.f a0).bind fun t391 => (if (t391 == false) = true then (some true) else (some false)))) else ((lex_Name.f a0).bind fun t392 => (if (t392 == false) = true then (some true) else (some false)))) = some r := H
    have A4 := Aside0.mk A40
    clear A40
    by_cases c5 : t381 = 0
    · rw [if_pos c5] at H
      have c5b0 : (t381 == 0) = true := beq_iff_eq.mpr c5
      have c5b1 : (t381 != 0) = false := bne_eq_false_iff_eq.mpr c5
      clear c5
      by_cases c6 : (t379.length : Int) = 2
      · rw [if_pos c6] at H
        have c6b0 : ((t379.length : Int) == 2) = true := beq_iff_eq.mpr c6
        have c6b1 : ((t379.length : Int) != 2) = false := bne_eq_false_iff_eq.mpr c6
        clear c6
        by_cases c7 : 0 < (t379.length : Int)
        · rw [if_pos c7] at H
          have c7b0 : decide (0 < (t379.length : Int)) = true := decide_eq_true c7
          have c7b1 : decide (0 < t379.length) = true := decide_eq_true (by omega)
          clear c7
          by_cases c8 : ((rd_T32 t379 0).f0) = 1
          · rw [if_pos c8] at H
            have c8b0 : (((rd_T32 t379 0).f0) == 1) = true := beq_iff_eq.mpr c8
            have c8b1 : (((rd_T32 t379 0).f0) != 1) = false := bne_eq_false_iff_eq.mpr c8
            clear c8
            by_cases c9 : ((rd_T32 t379 0).f3) = 0
            · rw [if_pos c9] at H
              have c9b0 : (((rd_T32 t379 0).f3) == 0) = true := beq_iff_eq.mpr c9
              have c9b1 : (((rd_T32 t379 0).f3) != 0) = false := bne_eq_false_iff_eq.mpr c9
              clear c9
              replace H := Option.bind_eq_some_iff.mp H
              obtain ⟨t387, A100, H⟩ := H
              replace H : (if (t387 == (((rd_T32 t379 0).f4) == (a0.size : Int))) = true then (if (((rd_T32 t379 0).f4) = (a0.size : Int)) then (if ((rd_T32 t379 0).f1).toList = a0.toList then (some (decide ((a0.size : Int) ≤ 64))) else (some false)) else (some true)) else (some false)) = some r := H
              have A10 := Aside0.mk A100
              clear A100
              by_cases c11 : (t387 == (((rd_T32 t379 0).f4) == (a0.size : Int))) = true
              · rw [if_pos c11] at H
                have c11b0 : (t387 == (((rd_T32 t379 0).f4) == (a0.size : Int))) = true := c11
                (try (have c11b1 : decide (t387 = (((rd_T32 t379 0).f4) == (a0.size : Int))) = true := by simpa using c11))
                (try (have c11b2 : (t387 == (((rd_T32 t379 0).f4) == (a0.size : Int))) = true := by simpa using c11))
                clear c11
                by_cases c12 : (((rd_T32 t379 0).f4) = (a0.size : Int))
                · rw [if_pos c12] at H
                  have c12b0 : (((rd_T32 t379 0).f4) == (a0.size : Int)) = true := beq_iff_eq.mpr c12
                  try (have c12t := c11b0; rw [c12b0] at c12t; simp at c12t)
                  have c12b1 : (((rd_T32 t379 0).f4) != (a0.size : Int)) = false := bne_eq_false_iff_eq.mpr c12
                  clear c12
                  by_cases c13 : ((rd_T32 t379 0).f1).toList = a0.toList
                  · rw [if_pos c13] at H
                    have c13b0 : (((rd_T32 t379 0).f1).toList == a0.toList) = true := beq_iff_eq.mpr c13
                    have c13b1 : (((rd_T32 t379 0).f1).toList != a0.toList) = false := bne_eq_false_iff_eq.mpr c13
                    clear c13
                    obtain rfl := Option.some.inj H
                    go_enter Try.func8, Try.ntmps8
                    go_wp2_with (first | ((with_reducible refine gate_callee (f := 10) rfl ?_); refine goesL_ (some 7) rfl rfl Try.func10 (by kernel_rfl) rfl #[] rfl (by (try simp only [List.map_toArray, List.map_cons, List.map_nil]); first | done | rfl | (simp only [List.length_drop, List.length_take]; rfl)) ?_; (with_reducible refine (stratumlaw08_lives.calls k  true _ A2.out).mono ?_); rintro e w14 ⟨rfl, hb⟩; refine ⟨_, rfl, ?_⟩; have n0_ := Aside0.mk (below_step (by repeat (first | (with_reducible first | exact HB.out | apply below_alloc | apply pw_below_drewN | apply below_drew1) | exact HB.out)) hb); clear HB; have HB := n0_; clear n0_; (try clear hb); (try clear hb2); (try clear hk); (try clear hi)) | ((with_reducible refine gate_callee (f := 12) rfl ?_); refine goesL_ (some 11) rfl rfl Try.func12 (by kernel_rfl) rfl #[.string a0] rfl (by (try simp only [List.map_toArray, List.map_cons, List.map_nil]); first | done | rfl | (simp only [List.length_drop, List.length_take]; rfl)) ?_; (with_reducible refine (lex_Lex.calls k a0 t379 t380 t381 _ A4.out).mono ?_); rintro e w15 ⟨v382, rfl, ho0, hb⟩; refine ⟨_, rfl, ?_⟩; have n0_ := Aside0.mk (Kd.R_lower ho0 (below_size (by repeat (first | (with_reducible first | exact HB.out | apply below_alloc | apply pw_below_drewN | apply below_drew1) | exact HB.out)))); have n1_ := Aside0.mk (below_step (by repeat (first | (with_reducible first | exact HB.out | apply below_alloc | apply pw_below_drewN | apply below_drew1) | exact HB.out)) hb); clear HB; have HO383 := n0_; have HB := n1_; clear n0_ n1_; (try clear hb); (try clear hb2); (try clear hk); (try clear hi); (try clear ho0); obtain ⟨Ao16, co16, eo16⟩ := Kd.R_slice HO383.out; subst eo16; have p384 : 0 ≤ (0 : Int) := (by omega); have q384 : 0 < (t379.length : Int) := of_decide_eq_true (by first | (with_reducible assumption) | assumption); obtain ⟨ad384, e384, hx384_0, hx384_1, hx384_2, hx384_3, hx384_4⟩ := at_T32 (Kd.R_reads' HO383.out).2.2 0 p384 q384; cases e384; have qi384 : (0 < t379.length) = True := eq_true (by omega); (try rw [show ((0 : Int)).toNat = 0 from rfl] at hx384_0); (try rw [show 0 * 5 = 0 from rfl] at hx384_0); (try rw [Addr.add_zero'] at hx384_0); (try rw [show ((0 : Int)).toNat = 0 from rfl] at hx384_1); (try rw [show 0 * 5 = 0 from rfl] at hx384_1); (try rw [Addr.add_zero'] at hx384_1); (try rw [show ((0 : Int)).toNat = 0 from rfl] at hx384_2); (try rw [show 0 * 5 = 0 from rfl] at hx384_2); (try rw [Addr.add_zero'] at hx384_2); (try rw [show ((0 : Int)).toNat = 0 from rfl] at hx384_3); (try rw [show 0 * 5 = 0 from rfl] at hx384_3); (try rw [Addr.add_zero'] at hx384_3); (try rw [show ((0 : Int)).toNat = 0 from rfl] at hx384_4); (try rw [show 0 * 5 = 0 from rfl] at hx384_4); (try rw [Addr.add_zero'] at hx384_4); replace p384 := eq_true p384; replace q384 := eq_true q384; have p385 : 0 ≤ (0 : Int) := (by omega); have q385 : 0 < (t379.length : Int) := of_decide_eq_true (by first | (with_reducible assumption) | assumption); obtain ⟨ad385, e385, hx385_0, hx385_1, hx385_2, hx385_3, hx385_4⟩ := at_T32 (Kd.R_reads' HO383.out).2.2 0 p385 q385; obtain rfl : ad384 = ad385 := (by injection e385); have qi385 : (0 < t379.length) = True := eq_true (by omega); (try rw [show ((0 : Int)).toNat = 0 from rfl] at hx385_0); (try rw [show 0 * 5 = 0 from rfl] at hx385_0); (try rw [Addr.add_zero'] at hx385_0); (try rw [show ((0 : Int)).toNat = 0 from rfl] at hx385_1); (try rw [show 0 * 5 = 0 from rfl] at hx385_1); (try rw [Addr.add_zero'] at hx385_1); (try rw [show ((0 : Int)).toNat = 0 from rfl] at hx385_2); (try rw [show 0 * 5 = 0 from rfl] at hx385_2); (try rw [Addr.add_zero'] at hx385_2); (try rw [show ((0 : Int)).toNat = 0 from rfl] at hx385_3); (try rw [show 0 * 5 = 0 from rfl] at hx385_3); (try rw [Addr.add_zero'] at hx385_3); (try rw [show ((0 : Int)).toNat = 0 from rfl] at hx385_4); (try rw [show 0 * 5 = 0 from rfl] at hx385_4); (try rw [Addr.add_zero'] at hx385_4); replace p385 := eq_true p385; replace q385 := eq_true q385; have p386 : 0 ≤ (0 : Int) := (by omega); have q386 : 0 < (t379.length : Int) := of_decide_eq_true (by first | (with_reducible assumption) | assumption); obtain ⟨ad386, e386, hx386_0, hx386_1, hx386_2, hx386_3, hx386_4⟩ := at_T32 (Kd.R_reads' HO383.out).2.2 0 p386 q386; obtain rfl : ad384 = ad386 := (by injection e386); have qi386 : (0 < t379.length) = True := eq_true (by omega); (try rw [show ((0 : Int)).toNat = 0 from rfl] at hx386_0); (try rw [show 0 * 5 = 0 from rfl] at hx386_0); (try rw [Addr.add_zero'] at hx386_0); (try rw [show ((0 : Int)).toNat = 0 from rfl] at hx386_1); (try rw [show 0 * 5 = 0 from rfl] at hx386_1); (try rw [Addr.add_zero'] at hx386_1); (try rw [show ((0 : Int)).toNat = 0 from rfl] at hx386_2); (try rw [show 0 * 5 = 0 from rfl] at hx386_2); (try rw [Addr.add_zero'] at hx386_2); (try rw [show ((0 : Int)).toNat = 0 from rfl] at hx386_3); (try rw [show 0 * 5 = 0 from rfl] at hx386_3); (try rw [Addr.add_zero'] at hx386_3); (try rw [show ((0 : Int)).toNat = 0 from rfl] at hx386_4); (try rw [show 0 * 5 = 0 from rfl] at hx386_4); (try rw [Addr.add_zero'] at hx386_4); replace p386 := eq_true p386; replace q386 := eq_true q386) | ((with_reducible refine gate_callee (f := 14) rfl ?_); refine goesL_ (some 46) rfl rfl Try.func14 (by kernel_rfl) rfl #[.string a0] rfl (by (try simp only [List.map_toArray, List.map_cons, List.map_nil]); first | done | rfl | (simp only [List.length_drop, List.length_take]; rfl)) ?_; (with_reducible refine (lex_Name.calls a0 t387 _ A10.out).mono ?_); rintro e w' ⟨rfl, ⟨nd, rfl⟩⟩; refine ⟨_, rfl, ?_⟩; have p388 : 0 ≤ (0 : Int) := (by omega); have q388 : 0 < (t379.length : Int) := of_decide_eq_true (by first | (with_reducible assumption) | assumption); obtain ⟨ad388, e388, hx388_0, hx388_1, hx388_2, hx388_3, hx388_4⟩ := at_T32 (Kd.R_reads' HO383.out).2.2 0 p388 q388; obtain rfl : ad384 = ad388 := (by injection e388); have qi388 : (0 < t379.length) = True := eq_true (by omega); (try rw [show ((0 : Int)).toNat = 0 from rfl] at hx388_0); (try rw [show 0 * 5 = 0 from rfl] at hx388_0); (try rw [Addr.add_zero'] at hx388_0); (try rw [show ((0 : Int)).toNat = 0 from rfl] at hx388_1); (try rw [show 0 * 5 = 0 from rfl] at hx388_1); (try rw [Addr.add_zero'] at hx388_1); (try rw [show ((0 : Int)).toNat = 0 from rfl] at hx388_2); (try rw [show 0 * 5 = 0 from rfl] at hx388_2); (try rw [Addr.add_zero'] at hx388_2); (try rw [show ((0 : Int)).toNat = 0 from rfl] at hx388_3); (try rw [show 0 * 5 = 0 from rfl] at hx388_3); (try rw [Addr.add_zero'] at hx388_3); (try rw [show ((0 : Int)).toNat = 0 from rfl] at hx388_4); (try rw [show 0 * 5 = 0 from rfl] at hx388_4); (try rw [Addr.add_zero'] at hx388_4); replace p388 := eq_true p388; replace q388 := eq_true q388))
                    go_ret
                    exact ⟨by first | rfl | (simp [errW_none, errW_some] <;> rfl) | (simp [*, errW_none, errW_some] <;> rfl), by repeat (first | (with_reducible first | exact HB.out | apply below_alloc | apply pw_below_drewN | apply below_drew1) | exact HB.out)⟩
                  · rw [if_neg c13] at H
                    have c13b0 : (((rd_T32 t379 0).f1).toList == a0.toList) = false := beq_eq_false_iff_ne.mpr c13
                    have c13b1 : (((rd_T32 t379 0).f1).toList != a0.toList) = true := bne_iff_ne.mpr c13
                    obtain rfl := Option.some.inj H
                    go_enter Try.func8, Try.ntmps8
                    go_wp2_with (first | ((with_reducible refine gate_callee (f := 10) rfl ?_); refine goesL_ (some 7) rfl rfl Try.func10 (by kernel_rfl) rfl #[] rfl (by (try simp only [List.map_toArray, List.map_cons, List.map_nil]); first | done | rfl | (simp only [List.length_drop, List.length_take]; rfl)) ?_; (with_reducible refine (stratumlaw08_lives.calls k  true _ A2.out).mono ?_); rintro e w17 ⟨rfl, hb⟩; refine ⟨_, rfl, ?_⟩; have n0_ := Aside0.mk (below_step (by repeat (first | (with_reducible first | exact HB.out | apply below_alloc | apply pw_below_drewN | apply below_drew1) | exact HB.out)) hb); clear HB; have HB := n0_; clear n0_; (try clear hb); (try clear hb2); (try clear hk); (try clear hi)) | ((with_reducible refine gate_callee (f := 12) rfl ?_); refine goesL_ (some 11) rfl rfl Try.func12 (by kernel_rfl) rfl #[.string a0] rfl (by (try simp only [List.map_toArray, List.map_cons, List.map_nil]); first | done | rfl | (simp only [List.length_drop, List.length_take]; rfl)) ?_; (with_reducible refine (lex_Lex.calls k a0 t379 t380 t381 _ A4.out).mono ?_); rintro e w18 ⟨v382, rfl, ho0, hb⟩; refine ⟨_, rfl, ?_⟩; have n0_ := Aside0.mk (Kd.R_lower ho0 (below_size (by repeat (first | (with_reducible first | exact HB.out | apply below_alloc | apply pw_below_drewN | apply below_drew1) | exact HB.out)))); have n1_ := Aside0.mk (below_step (by repeat (first | (with_reducible first | exact HB.out | apply below_alloc | apply pw_below_drewN | apply below_drew1) | exact HB.out)) hb); clear HB; have HO383 := n0_; have HB := n1_; clear n0_ n1_; (try clear hb); (try clear hb2); (try clear hk); (try clear hi); (try clear ho0); obtain ⟨Ao19, co19, eo19⟩ := Kd.R_slice HO383.out; subst eo19; have p384 : 0 ≤ (0 : Int) := (by omega); have q384 : 0 < (t379.length : Int) := of_decide_eq_true (by first | (with_reducible assumption) | assumption); obtain ⟨ad384, e384, hx384_0, hx384_1, hx384_2, hx384_3, hx384_4⟩ := at_T32 (Kd.R_reads' HO383.out).2.2 0 p384 q384; cases e384; have qi384 : (0 < t379.length) = True := eq_true (by omega); (try rw [show ((0 : Int)).toNat = 0 from rfl] at hx384_0); (try rw [show 0 * 5 = 0 from rfl] at hx384_0); (try rw [Addr.add_zero'] at hx384_0); (try rw [show ((0 : Int)).toNat = 0 from rfl] at hx384_1); (try rw [show 0 * 5 = 0 from rfl] at hx384_1); (try rw [Addr.add_zero'] at hx384_1); (try rw [show ((0 : Int)).toNat = 0 from rfl] at hx384_2); (try rw [show 0 * 5 = 0 from rfl] at hx384_2); (try rw [Addr.add_zero'] at hx384_2); (try rw [show ((0 : Int)).toNat = 0 from rfl] at hx384_3); (try rw [show 0 * 5 = 0 from rfl] at hx384_3); (try rw [Addr.add_zero'] at hx384_3); (try rw [show ((0 : Int)).toNat = 0 from rfl] at hx384_4); (try rw [show 0 * 5 = 0 from rfl] at hx384_4); (try rw [Addr.add_zero'] at hx384_4); replace p384 := eq_true p384; replace q384 := eq_true q384; have p385 : 0 ≤ (0 : Int) := (by omega); have q385 : 0 < (t379.length : Int) := of_decide_eq_true (by first | (with_reducible assumption) | assumption); obtain ⟨ad385, e385, hx385_0, hx385_1, hx385_2, hx385_3, hx385_4⟩ := at_T32 (Kd.R_reads' HO383.out).2.2 0 p385 q385; obtain rfl : ad384 = ad385 := (by injection e385); have qi385 : (0 < t379.length) = True := eq_true (by omega); (try rw [show ((0 : Int)).toNat = 0 from rfl] at hx385_0); (try rw [show 0 * 5 = 0 from rfl] at hx385_0); (try rw [Addr.add_zero'] at hx385_0); (try rw [show ((0 : Int)).toNat = 0 from rfl] at hx385_1); (try rw [show 0 * 5 = 0 from rfl] at hx385_1); (try rw [Addr.add_zero'] at hx385_1); (try rw [show ((0 : Int)).toNat = 0 from rfl] at hx385_2); (try rw [show 0 * 5 = 0 from rfl] at hx385_2); (try rw [Addr.add_zero'] at hx385_2); (try rw [show ((0 : Int)).toNat = 0 from rfl] at hx385_3); (try rw [show 0 * 5 = 0 from rfl] at hx385_3); (try rw [Addr.add_zero'] at hx385_3); (try rw [show ((0 : Int)).toNat = 0 from rfl] at hx385_4); (try rw [show 0 * 5 = 0 from rfl] at hx385_4); (try rw [Addr.add_zero'] at hx385_4); replace p385 := eq_true p385; replace q385 := eq_true q385; have p386 : 0 ≤ (0 : Int) := (by omega); have q386 : 0 < (t379.length : Int) := of_decide_eq_true (by first | (with_reducible assumption) | assumption); obtain ⟨ad386, e386, hx386_0, hx386_1, hx386_2, hx386_3, hx386_4⟩ := at_T32 (Kd.R_reads' HO383.out).2.2 0 p386 q386; obtain rfl : ad384 = ad386 := (by injection e386); have qi386 : (0 < t379.length) = True := eq_true (by omega); (try rw [show ((0 : Int)).toNat = 0 from rfl] at hx386_0); (try rw [show 0 * 5 = 0 from rfl] at hx386_0); (try rw [Addr.add_zero'] at hx386_0); (try rw [show ((0 : Int)).toNat = 0 from rfl] at hx386_1); (try rw [show 0 * 5 = 0 from rfl] at hx386_1); (try rw [Addr.add_zero'] at hx386_1); (try rw [show ((0 : Int)).toNat = 0 from rfl] at hx386_2); (try rw [show 0 * 5 = 0 from rfl] at hx386_2); (try rw [Addr.add_zero'] at hx386_2); (try rw [show ((0 : Int)).toNat = 0 from rfl] at hx386_3); (try rw [show 0 * 5 = 0 from rfl] at hx386_3); (try rw [Addr.add_zero'] at hx386_3); (try rw [show ((0 : Int)).toNat = 0 from rfl] at hx386_4); (try rw [show 0 * 5 = 0 from rfl] at hx386_4); (try rw [Addr.add_zero'] at hx386_4); replace p386 := eq_true p386; replace q386 := eq_true q386) | ((with_reducible refine gate_callee (f := 14) rfl ?_); refine goesL_ (some 46) rfl rfl Try.func14 (by kernel_rfl) rfl #[.string a0] rfl (by (try simp only [List.map_toArray, List.map_cons, List.map_nil]); first | done | rfl | (simp only [List.length_drop, List.length_take]; rfl)) ?_; (with_reducible refine (lex_Name.calls a0 t387 _ A10.out).mono ?_); rintro e w' ⟨rfl, ⟨nd, rfl⟩⟩; refine ⟨_, rfl, ?_⟩; have p388 : 0 ≤ (0 : Int) := (by omega); have q388 : 0 < (t379.length : Int) := of_decide_eq_true (by first | (with_reducible assumption) | assumption); obtain ⟨ad388, e388, hx388_0, hx388_1, hx388_2, hx388_3, hx388_4⟩ := at_T32 (Kd.R_reads' HO383.out).2.2 0 p388 q388; obtain rfl : ad384 = ad388 := (by injection e388); have qi388 : (0 < t379.length) = True := eq_true (by omega); (try rw [show ((0 : Int)).toNat = 0 from rfl] at hx388_0); (try rw [show 0 * 5 = 0 from rfl] at hx388_0); (try rw [Addr.add_zero'] at hx388_0); (try rw [show ((0 : Int)).toNat = 0 from rfl] at hx388_1); (try rw [show 0 * 5 = 0 from rfl] at hx388_1); (try rw [Addr.add_zero'] at hx388_1); (try rw [show ((0 : Int)).toNat = 0 from rfl] at hx388_2); (try rw [show 0 * 5 = 0 from rfl] at hx388_2); (try rw [Addr.add_zero'] at hx388_2); (try rw [show ((0 : Int)).toNat = 0 from rfl] at hx388_3); (try rw [show 0 * 5 = 0 from rfl] at hx388_3); (try rw [Addr.add_zero'] at hx388_3); (try rw [show ((0 : Int)).toNat = 0 from rfl] at hx388_4); (try rw [show 0 * 5 = 0 from rfl] at hx388_4); (try rw [Addr.add_zero'] at hx388_4); replace p388 := eq_true p388; replace q388 := eq_true q388))
                    go_ret
                    exact ⟨by first | rfl | (simp [errW_none, errW_some] <;> rfl) | (simp [*, errW_none, errW_some] <;> rfl), by repeat (first | (with_reducible first | exact HB.out | apply below_alloc | apply pw_below_drewN | apply below_drew1) | exact HB.out)⟩
                · rw [if_neg c12] at H
                  have c12b0 : (((rd_T32 t379 0).f4) == (a0.size : Int)) = false := beq_eq_false_iff_ne.mpr c12
                  try (have c12t := c11b0; rw [c12b0] at c12t; simp at c12t)
                  have c12b1 : (((rd_T32 t379 0).f4) != (a0.size : Int)) = true := bne_iff_ne.mpr c12
                  obtain rfl := Option.some.inj H
                  go_enter Try.func8, Try.ntmps8
                  go_wp2_with (first | ((with_reducible refine gate_callee (f := 10) rfl ?_); refine goesL_ (some 7) rfl rfl Try.func10 (by kernel_rfl) rfl #[] rfl (by (try simp only [List.map_toArray, List.map_cons, List.map_nil]); first | done | rfl | (simp only [List.length_drop, List.length_take]; rfl)) ?_; (with_reducible refine (stratumlaw08_lives.calls k  true _ A2.out).mono ?_); rintro e w20 ⟨rfl, hb⟩; refine ⟨_, rfl, ?_⟩; have n0_ := Aside0.mk (below_step (by repeat (first | (with_reducible first | exact HB.out | apply below_alloc | apply pw_below_drewN | apply below_drew1) | exact HB.out)) hb); clear HB; have HB := n0_; clear n0_; (try clear hb); (try clear hb2); (try clear hk); (try clear hi)) | ((with_reducible refine gate_callee (f := 12) rfl ?_); refine goesL_ (some 11) rfl rfl Try.func12 (by kernel_rfl) rfl #[.string a0] rfl (by (try simp only [List.map_toArray, List.map_cons, List.map_nil]); first | done | rfl | (simp only [List.length_drop, List.length_take]; rfl)) ?_; (with_reducible refine (lex_Lex.calls k a0 t379 t380 t381 _ A4.out).mono ?_); rintro e w21 ⟨v382, rfl, ho0, hb⟩; refine ⟨_, rfl, ?_⟩; have n0_ := Aside0.mk (Kd.R_lower ho0 (below_size (by repeat (first | (with_reducible first | exact HB.out | apply below_alloc | apply pw_below_drewN | apply below_drew1) | exact HB.out)))); have n1_ := Aside0.mk (below_step (by repeat (first | (with_reducible first | exact HB.out | apply below_alloc | apply pw_below_drewN | apply below_drew1) | exact HB.out)) hb); clear HB; have HO383 := n0_; have HB := n1_; clear n0_ n1_; (try clear hb); (try clear hb2); (try clear hk); (try clear hi); (try clear ho0); obtain ⟨Ao22, co22, eo22⟩ := Kd.R_slice HO383.out; subst eo22; have p384 : 0 ≤ (0 : Int) := (by omega); have q384 : 0 < (t379.length : Int) := of_decide_eq_true (by first | (with_reducible assumption) | assumption); obtain ⟨ad384, e384, hx384_0, hx384_1, hx384_2, hx384_3, hx384_4⟩ := at_T32 (Kd.R_reads' HO383.out).2.2 0 p384 q384; cases e384; have qi384 : (0 < t379.length) = True := eq_true (by omega); (try rw [show ((0 : Int)).toNat = 0 from rfl] at hx384_0); (try rw [show 0 * 5 = 0 from rfl] at hx384_0); (try rw [Addr.add_zero'] at hx384_0); (try rw [show ((0 : Int)).toNat = 0 from rfl] at hx384_1); (try rw [show 0 * 5 = 0 from rfl] at hx384_1); (try rw [Addr.add_zero'] at hx384_1); (try rw [show ((0 : Int)).toNat = 0 from rfl] at hx384_2); (try rw [show 0 * 5 = 0 from rfl] at hx384_2); (try rw [Addr.add_zero'] at hx384_2); (try rw [show ((0 : Int)).toNat = 0 from rfl] at hx384_3); (try rw [show 0 * 5 = 0 from rfl] at hx384_3); (try rw [Addr.add_zero'] at hx384_3); (try rw [show ((0 : Int)).toNat = 0 from rfl] at hx384_4); (try rw [show 0 * 5 = 0 from rfl] at hx384_4); (try rw [Addr.add_zero'] at hx384_4); replace p384 := eq_true p384; replace q384 := eq_true q384; have p385 : 0 ≤ (0 : Int) := (by omega); have q385 : 0 < (t379.length : Int) := of_decide_eq_true (by first | (with_reducible assumption) | assumption); obtain ⟨ad385, e385, hx385_0, hx385_1, hx385_2, hx385_3, hx385_4⟩ := at_T32 (Kd.R_reads' HO383.out).2.2 0 p385 q385; obtain rfl : ad384 = ad385 := (by injection e385); have qi385 : (0 < t379.length) = True := eq_true (by omega); (try rw [show ((0 : Int)).toNat = 0 from rfl] at hx385_0); (try rw [show 0 * 5 = 0 from rfl] at hx385_0); (try rw [Addr.add_zero'] at hx385_0); (try rw [show ((0 : Int)).toNat = 0 from rfl] at hx385_1); (try rw [show 0 * 5 = 0 from rfl] at hx385_1); (try rw [Addr.add_zero'] at hx385_1); (try rw [show ((0 : Int)).toNat = 0 from rfl] at hx385_2); (try rw [show 0 * 5 = 0 from rfl] at hx385_2); (try rw [Addr.add_zero'] at hx385_2); (try rw [show ((0 : Int)).toNat = 0 from rfl] at hx385_3); (try rw [show 0 * 5 = 0 from rfl] at hx385_3); (try rw [Addr.add_zero'] at hx385_3); (try rw [show ((0 : Int)).toNat = 0 from rfl] at hx385_4); (try rw [show 0 * 5 = 0 from rfl] at hx385_4); (try rw [Addr.add_zero'] at hx385_4); replace p385 := eq_true p385; replace q385 := eq_true q385; have p386 : 0 ≤ (0 : Int) := (by omega); have q386 : 0 < (t379.length : Int) := of_decide_eq_true (by first | (with_reducible assumption) | assumption); obtain ⟨ad386, e386, hx386_0, hx386_1, hx386_2, hx386_3, hx386_4⟩ := at_T32 (Kd.R_reads' HO383.out).2.2 0 p386 q386; obtain rfl : ad384 = ad386 := (by injection e386); have qi386 : (0 < t379.length) = True := eq_true (by omega); (try rw [show ((0 : Int)).toNat = 0 from rfl] at hx386_0); (try rw [show 0 * 5 = 0 from rfl] at hx386_0); (try rw [Addr.add_zero'] at hx386_0); (try rw [show ((0 : Int)).toNat = 0 from rfl] at hx386_1); (try rw [show 0 * 5 = 0 from rfl] at hx386_1); (try rw [Addr.add_zero'] at hx386_1); (try rw [show ((0 : Int)).toNat = 0 from rfl] at hx386_2); (try rw [show 0 * 5 = 0 from rfl] at hx386_2); (try rw [Addr.add_zero'] at hx386_2); (try rw [show ((0 : Int)).toNat = 0 from rfl] at hx386_3); (try rw [show 0 * 5 = 0 from rfl] at hx386_3); (try rw [Addr.add_zero'] at hx386_3); (try rw [show ((0 : Int)).toNat = 0 from rfl] at hx386_4); (try rw [show 0 * 5 = 0 from rfl] at hx386_4); (try rw [Addr.add_zero'] at hx386_4); replace p386 := eq_true p386; replace q386 := eq_true q386) | ((with_reducible refine gate_callee (f := 14) rfl ?_); refine goesL_ (some 46) rfl rfl Try.func14 (by kernel_rfl) rfl #[.string a0] rfl (by (try simp only [List.map_toArray, List.map_cons, List.map_nil]); first | done | rfl | (simp only [List.length_drop, List.length_take]; rfl)) ?_; (with_reducible refine (lex_Name.calls a0 t387 _ A10.out).mono ?_); rintro e w' ⟨rfl, ⟨nd, rfl⟩⟩; refine ⟨_, rfl, ?_⟩))
                  go_ret
                  exact ⟨by first | rfl | (simp [errW_none, errW_some] <;> rfl) | (simp [*, errW_none, errW_some] <;> rfl), by repeat (first | (with_reducible first | exact HB.out | apply below_alloc | apply pw_below_drewN | apply below_drew1) | exact HB.out)⟩
              · rw [if_neg c11] at H
                have c11b0 : (t387 == (((rd_T32 t379 0).f4) == (a0.size : Int))) = false := by simpa using c11
                (try (have c11b1 : decide (t387 = (((rd_T32 t379 0).f4) == (a0.size : Int))) = false := by simpa using c11))
                (try (have c11b2 : (t387 == (((rd_T32 t379 0).f4) == (a0.size : Int))) = false := by simpa using c11))
                (try (have c11b3 : ¬ (t387 = (((rd_T32 t379 0).f4) == (a0.size : Int))) := by simpa using c11))
                clear c11
                obtain rfl := Option.some.inj H
                go_enter Try.func8, Try.ntmps8
                go_wp2_with (first | ((with_reducible refine gate_callee (f := 10) rfl ?_); refine goesL_ (some 7) rfl rfl Try.func10 (by kernel_rfl) rfl #[] rfl (by (try simp only [List.map_toArray, List.map_cons, List.map_nil]); first | done | rfl | (simp only [List.length_drop, List.length_take]; rfl)) ?_; (with_reducible refine (stratumlaw08_lives.calls k  true _ A2.out).mono ?_); rintro e w23 ⟨rfl, hb⟩; refine ⟨_, rfl, ?_⟩; have n0_ := Aside0.mk (below_step (by repeat (first | (with_reducible first | exact HB.out | apply below_alloc | apply pw_below_drewN | apply below_drew1) | exact HB.out)) hb); clear HB; have HB := n0_; clear n0_; (try clear hb); (try clear hb2); (try clear hk); (try clear hi)) | ((with_reducible refine gate_callee (f := 12) rfl ?_); refine goesL_ (some 11) rfl rfl Try.func12 (by kernel_rfl) rfl #[.string a0] rfl (by (try simp only [List.map_toArray, List.map_cons, List.map_nil]); first | done | rfl | (simp only [List.length_drop, List.length_take]; rfl)) ?_; (with_reducible refine (lex_Lex.calls k a0 t379 t380 t381 _ A4.out).mono ?_); rintro e w24 ⟨v382, rfl, ho0, hb⟩; refine ⟨_, rfl, ?_⟩; have n0_ := Aside0.mk (Kd.R_lower ho0 (below_size (by repeat (first | (with_reducible first | exact HB.out | apply below_alloc | apply pw_below_drewN | apply below_drew1) | exact HB.out)))); have n1_ := Aside0.mk (below_step (by repeat (first | (with_reducible first | exact HB.out | apply below_alloc | apply pw_below_drewN | apply below_drew1) | exact HB.out)) hb); clear HB; have HO383 := n0_; have HB := n1_; clear n0_ n1_; (try clear hb); (try clear hb2); (try clear hk); (try clear hi); (try clear ho0); obtain ⟨Ao25, co25, eo25⟩ := Kd.R_slice HO383.out; subst eo25; have p384 : 0 ≤ (0 : Int) := (by omega); have q384 : 0 < (t379.length : Int) := of_decide_eq_true (by first | (with_reducible assumption) | assumption); obtain ⟨ad384, e384, hx384_0, hx384_1, hx384_2, hx384_3, hx384_4⟩ := at_T32 (Kd.R_reads' HO383.out).2.2 0 p384 q384; cases e384; have qi384 : (0 < t379.length) = True := eq_true (by omega); (try rw [show ((0 : Int)).toNat = 0 from rfl] at hx384_0); (try rw [show 0 * 5 = 0 from rfl] at hx384_0); (try rw [Addr.add_zero'] at hx384_0); (try rw [show ((0 : Int)).toNat = 0 from rfl] at hx384_1); (try rw [show 0 * 5 = 0 from rfl] at hx384_1); (try rw [Addr.add_zero'] at hx384_1); (try rw [show ((0 : Int)).toNat = 0 from rfl] at hx384_2); (try rw [show 0 * 5 = 0 from rfl] at hx384_2); (try rw [Addr.add_zero'] at hx384_2); (try rw [show ((0 : Int)).toNat = 0 from rfl] at hx384_3); (try rw [show 0 * 5 = 0 from rfl] at hx384_3); (try rw [Addr.add_zero'] at hx384_3); (try rw [show ((0 : Int)).toNat = 0 from rfl] at hx384_4); (try rw [show 0 * 5 = 0 from rfl] at hx384_4); (try rw [Addr.add_zero'] at hx384_4); replace p384 := eq_true p384; replace q384 := eq_true q384; have p385 : 0 ≤ (0 : Int) := (by omega); have q385 : 0 < (t379.length : Int) := of_decide_eq_true (by first | (with_reducible assumption) | assumption); obtain ⟨ad385, e385, hx385_0, hx385_1, hx385_2, hx385_3, hx385_4⟩ := at_T32 (Kd.R_reads' HO383.out).2.2 0 p385 q385; obtain rfl : ad384 = ad385 := (by injection e385); have qi385 : (0 < t379.length) = True := eq_true (by omega); (try rw [show ((0 : Int)).toNat = 0 from rfl] at hx385_0); (try rw [show 0 * 5 = 0 from rfl] at hx385_0); (try rw [Addr.add_zero'] at hx385_0); (try rw [show ((0 : Int)).toNat = 0 from rfl] at hx385_1); (try rw [show 0 * 5 = 0 from rfl] at hx385_1); (try rw [Addr.add_zero'] at hx385_1); (try rw [show ((0 : Int)).toNat = 0 from rfl] at hx385_2); (try rw [show 0 * 5 = 0 from rfl] at hx385_2); (try rw [Addr.add_zero'] at hx385_2); (try rw [show ((0 : Int)).toNat = 0 from rfl] at hx385_3); (try rw [show 0 * 5 = 0 from rfl] at hx385_3); (try rw [Addr.add_zero'] at hx385_3); (try rw [show ((0 : Int)).toNat = 0 from rfl] at hx385_4); (try rw [show 0 * 5 = 0 from rfl] at hx385_4); (try rw [Addr.add_zero'] at hx385_4); replace p385 := eq_true p385; replace q385 := eq_true q385; have p386 : 0 ≤ (0 : Int) := (by omega); have q386 : 0 < (t379.length : Int) := of_decide_eq_true (by first | (with_reducible assumption) | assumption); obtain ⟨ad386, e386, hx386_0, hx386_1, hx386_2, hx386_3, hx386_4⟩ := at_T32 (Kd.R_reads' HO383.out).2.2 0 p386 q386; obtain rfl : ad384 = ad386 := (by injection e386); have qi386 : (0 < t379.length) = True := eq_true (by omega); (try rw [show ((0 : Int)).toNat = 0 from rfl] at hx386_0); (try rw [show 0 * 5 = 0 from rfl] at hx386_0); (try rw [Addr.add_zero'] at hx386_0); (try rw [show ((0 : Int)).toNat = 0 from rfl] at hx386_1); (try rw [show 0 * 5 = 0 from rfl] at hx386_1); (try rw [Addr.add_zero'] at hx386_1); (try rw [show ((0 : Int)).toNat = 0 from rfl] at hx386_2); (try rw [show 0 * 5 = 0 from rfl] at hx386_2); (try rw [Addr.add_zero'] at hx386_2); (try rw [show ((0 : Int)).toNat = 0 from rfl] at hx386_3); (try rw [show 0 * 5 = 0 from rfl] at hx386_3); (try rw [Addr.add_zero'] at hx386_3); (try rw [show ((0 : Int)).toNat = 0 from rfl] at hx386_4); (try rw [show 0 * 5 = 0 from rfl] at hx386_4); (try rw [Addr.add_zero'] at hx386_4); replace p386 := eq_true p386; replace q386 := eq_true q386) | ((with_reducible refine gate_callee (f := 14) rfl ?_); refine goesL_ (some 46) rfl rfl Try.func14 (by kernel_rfl) rfl #[.string a0] rfl (by (try simp only [List.map_toArray, List.map_cons, List.map_nil]); first | done | rfl | (simp only [List.length_drop, List.length_take]; rfl)) ?_; (with_reducible refine (lex_Name.calls a0 t387 _ A10.out).mono ?_); rintro e w' ⟨rfl, ⟨nd, rfl⟩⟩; refine ⟨_, rfl, ?_⟩))
                go_ret
                exact ⟨by first | rfl | (simp [errW_none, errW_some] <;> rfl) | (simp [*, errW_none, errW_some] <;> rfl), by repeat (first | (with_reducible first | exact HB.out | apply below_alloc | apply pw_below_drewN | apply below_drew1) | exact HB.out)⟩
            · rw [if_neg c9] at H
              have c9b0 : (((rd_T32 t379 0).f3) == 0) = false := beq_eq_false_iff_ne.mpr c9
              have c9b1 : (((rd_T32 t379 0).f3) != 0) = true := bne_iff_ne.mpr c9
              replace H := Option.bind_eq_some_iff.mp H
              obtain ⟨t389, A260, H⟩ := H
              replace H : (if (t389 == false) = true then (some true) else (some false)) = some r := H
              have A26 := Aside0.mk A260
              clear A260
              by_cases c27 : (t389 == false) = true
              · rw [if_pos c27] at H
                have c27b0 : (t389 == false) = true := c27
                (try (have c27b1 : decide (t389 = false) = true := by simpa using c27))
                (try (have c27b2 : (t389 == false) = true := by simpa using c27))
                clear c27
                obtain rfl := Option.some.inj H
                go_enter Try.func8, Try.ntmps8
                go_wp2_with (first | ((with_reducible refine gate_callee (f := 10) rfl ?_); refine goesL_ (some 7) rfl rfl Try.func10 (by kernel_rfl) rfl #[] rfl (by (try simp only [List.map_toArray, List.map_cons, List.map_nil]); first | done | rfl | (simp only [List.length_drop, List.length_take]; rfl)) ?_; (with_reducible refine (stratumlaw08_lives.calls k  true _ A2.out).mono ?_); rintro e w28 ⟨rfl, hb⟩; refine ⟨_, rfl, ?_⟩; have n0_ := Aside0.mk (below_step (by repeat (first | (with_reducible first | exact HB.out | apply below_alloc | apply pw_below_drewN | apply below_drew1) | exact HB.out)) hb); clear HB; have HB := n0_; clear n0_; (try clear hb); (try clear hb2); (try clear hk); (try clear hi)) | ((with_reducible refine gate_callee (f := 12) rfl ?_); refine goesL_ (some 11) rfl rfl Try.func12 (by kernel_rfl) rfl #[.string a0] rfl (by (try simp only [List.map_toArray, List.map_cons, List.map_nil]); first | done | rfl | (simp only [List.length_drop, List.length_take]; rfl)) ?_; (with_reducible refine (lex_Lex.calls k a0 t379 t380 t381 _ A4.out).mono ?_); rintro e w29 ⟨v382, rfl, ho0, hb⟩; refine ⟨_, rfl, ?_⟩; have n0_ := Aside0.mk (Kd.R_lower ho0 (below_size (by repeat (first | (with_reducible first | exact HB.out | apply below_alloc | apply pw_below_drewN | apply below_drew1) | exact HB.out)))); have n1_ := Aside0.mk (below_step (by repeat (first | (with_reducible first | exact HB.out | apply below_alloc | apply pw_below_drewN | apply below_drew1) | exact HB.out)) hb); clear HB; have HO383 := n0_; have HB := n1_; clear n0_ n1_; (try clear hb); (try clear hb2); (try clear hk); (try clear hi); (try clear ho0); obtain ⟨Ao30, co30, eo30⟩ := Kd.R_slice HO383.out; subst eo30; have p384 : 0 ≤ (0 : Int) := (by omega); have q384 : 0 < (t379.length : Int) := of_decide_eq_true (by first | (with_reducible assumption) | assumption); obtain ⟨ad384, e384, hx384_0, hx384_1, hx384_2, hx384_3, hx384_4⟩ := at_T32 (Kd.R_reads' HO383.out).2.2 0 p384 q384; cases e384; have qi384 : (0 < t379.length) = True := eq_true (by omega); (try rw [show ((0 : Int)).toNat = 0 from rfl] at hx384_0); (try rw [show 0 * 5 = 0 from rfl] at hx384_0); (try rw [Addr.add_zero'] at hx384_0); (try rw [show ((0 : Int)).toNat = 0 from rfl] at hx384_1); (try rw [show 0 * 5 = 0 from rfl] at hx384_1); (try rw [Addr.add_zero'] at hx384_1); (try rw [show ((0 : Int)).toNat = 0 from rfl] at hx384_2); (try rw [show 0 * 5 = 0 from rfl] at hx384_2); (try rw [Addr.add_zero'] at hx384_2); (try rw [show ((0 : Int)).toNat = 0 from rfl] at hx384_3); (try rw [show 0 * 5 = 0 from rfl] at hx384_3); (try rw [Addr.add_zero'] at hx384_3); (try rw [show ((0 : Int)).toNat = 0 from rfl] at hx384_4); (try rw [show 0 * 5 = 0 from rfl] at hx384_4); (try rw [Addr.add_zero'] at hx384_4); replace p384 := eq_true p384; replace q384 := eq_true q384; have p385 : 0 ≤ (0 : Int) := (by omega); have q385 : 0 < (t379.length : Int) := of_decide_eq_true (by first | (with_reducible assumption) | assumption); obtain ⟨ad385, e385, hx385_0, hx385_1, hx385_2, hx385_3, hx385_4⟩ := at_T32 (Kd.R_reads' HO383.out).2.2 0 p385 q385; obtain rfl : ad384 = ad385 := (by injection e385); have qi385 : (0 < t379.length) = True := eq_true (by omega); (try rw [show ((0 : Int)).toNat = 0 from rfl] at hx385_0); (try rw [show 0 * 5 = 0 from rfl] at hx385_0); (try rw [Addr.add_zero'] at hx385_0); (try rw [show ((0 : Int)).toNat = 0 from rfl] at hx385_1); (try rw [show 0 * 5 = 0 from rfl] at hx385_1); (try rw [Addr.add_zero'] at hx385_1); (try rw [show ((0 : Int)).toNat = 0 from rfl] at hx385_2); (try rw [show 0 * 5 = 0 from rfl] at hx385_2); (try rw [Addr.add_zero'] at hx385_2); (try rw [show ((0 : Int)).toNat = 0 from rfl] at hx385_3); (try rw [show 0 * 5 = 0 from rfl] at hx385_3); (try rw [Addr.add_zero'] at hx385_3); (try rw [show ((0 : Int)).toNat = 0 from rfl] at hx385_4); (try rw [show 0 * 5 = 0 from rfl] at hx385_4); (try rw [Addr.add_zero'] at hx385_4); replace p385 := eq_true p385; replace q385 := eq_true q385) | ((with_reducible refine gate_callee (f := 14) rfl ?_); refine goesL_ (some 46) rfl rfl Try.func14 (by kernel_rfl) rfl #[.string a0] rfl (by (try simp only [List.map_toArray, List.map_cons, List.map_nil]); first | done | rfl | (simp only [List.length_drop, List.length_take]; rfl)) ?_; (with_reducible refine (lex_Name.calls a0 t389 _ A26.out).mono ?_); rintro e w' ⟨rfl, ⟨nd, rfl⟩⟩; refine ⟨_, rfl, ?_⟩))
                go_ret
                exact ⟨by first | rfl | (simp [errW_none, errW_some] <;> rfl) | (simp [*, errW_none, errW_some] <;> rfl), by repeat (first | (with_reducible first | exact HB.out | apply below_alloc | apply pw_below_drewN | apply below_drew1) | exact HB.out)⟩
              · rw [if_neg c27] at H
                have c27b0 : (t389 == false) = false := by simpa using c27
                (try (have c27b1 : decide (t389 = false) = false := by simpa using c27))
                (try (have c27b2 : (t389 == false) = false := by simpa using c27))
                (try (have c27b3 : ¬ (t389 = false) := by simpa using c27))
                clear c27
                obtain rfl := Option.some.inj H
                go_enter Try.func8, Try.ntmps8
                go_wp2_with (first | ((with_reducible refine gate_callee (f := 10) rfl ?_); refine goesL_ (some 7) rfl rfl Try.func10 (by kernel_rfl) rfl #[] rfl (by (try simp only [List.map_toArray, List.map_cons, List.map_nil]); first | done | rfl | (simp only [List.length_drop, List.length_take]; rfl)) ?_; (with_reducible refine (stratumlaw08_lives.calls k  true _ A2.out).mono ?_); rintro e w31 ⟨rfl, hb⟩; refine ⟨_, rfl, ?_⟩; have n0_ := Aside0.mk (below_step (by repeat (first | (with_reducible first | exact HB.out | apply below_alloc | apply pw_below_drewN | apply below_drew1) | exact HB.out)) hb); clear HB; have HB := n0_; clear n0_; (try clear hb); (try clear hb2); (try clear hk); (try clear hi)) | ((with_reducible refine gate_callee (f := 12) rfl ?_); refine goesL_ (some 11) rfl rfl Try.func12 (by kernel_rfl) rfl #[.string a0] rfl (by (try simp only [List.map_toArray, List.map_cons, List.map_nil]); first | done | rfl | (simp only [List.length_drop, List.length_take]; rfl)) ?_; (with_reducible refine (lex_Lex.calls k a0 t379 t380 t381 _ A4.out).mono ?_); rintro e w32 ⟨v382, rfl, ho0, hb⟩; refine ⟨_, rfl, ?_⟩; have n0_ := Aside0.mk (Kd.R_lower ho0 (below_size (by repeat (first | (with_reducible first | exact HB.out | apply below_alloc | apply pw_below_drewN | apply below_drew1) | exact HB.out)))); have n1_ := Aside0.mk (below_step (by repeat (first | (with_reducible first | exact HB.out | apply below_alloc | apply pw_below_drewN | apply below_drew1) | exact HB.out)) hb); clear HB; have HO383 := n0_; have HB := n1_; clear n0_ n1_; (try clear hb); (try clear hb2); (try clear hk); (try clear hi); (try clear ho0); obtain ⟨Ao33, co33, eo33⟩ := Kd.R_slice HO383.out; subst eo33; have p384 : 0 ≤ (0 : Int) := (by omega); have q384 : 0 < (t379.length : Int) := of_decide_eq_true (by first | (with_reducible assumption) | assumption); obtain ⟨ad384, e384, hx384_0, hx384_1, hx384_2, hx384_3, hx384_4⟩ := at_T32 (Kd.R_reads' HO383.out).2.2 0 p384 q384; cases e384; have qi384 : (0 < t379.length) = True := eq_true (by omega); (try rw [show ((0 : Int)).toNat = 0 from rfl] at hx384_0); (try rw [show 0 * 5 = 0 from rfl] at hx384_0); (try rw [Addr.add_zero'] at hx384_0); (try rw [show ((0 : Int)).toNat = 0 from rfl] at hx384_1); (try rw [show 0 * 5 = 0 from rfl] at hx384_1); (try rw [Addr.add_zero'] at hx384_1); (try rw [show ((0 : Int)).toNat = 0 from rfl] at hx384_2); (try rw [show 0 * 5 = 0 from rfl] at hx384_2); (try rw [Addr.add_zero'] at hx384_2); (try rw [show ((0 : Int)).toNat = 0 from rfl] at hx384_3); (try rw [show 0 * 5 = 0 from rfl] at hx384_3); (try rw [Addr.add_zero'] at hx384_3); (try rw [show ((0 : Int)).toNat = 0 from rfl] at hx384_4); (try rw [show 0 * 5 = 0 from rfl] at hx384_4); (try rw [Addr.add_zero'] at hx384_4); replace p384 := eq_true p384; replace q384 := eq_true q384; have p385 : 0 ≤ (0 : Int) := (by omega); have q385 : 0 < (t379.length : Int) := of_decide_eq_true (by first | (with_reducible assumption) | assumption); obtain ⟨ad385, e385, hx385_0, hx385_1, hx385_2, hx385_3, hx385_4⟩ := at_T32 (Kd.R_reads' HO383.out).2.2 0 p385 q385; obtain rfl : ad384 = ad385 := (by injection e385); have qi385 : (0 < t379.length) = True := eq_true (by omega); (try rw [show ((0 : Int)).toNat = 0 from rfl] at hx385_0); (try rw [show 0 * 5 = 0 from rfl] at hx385_0); (try rw [Addr.add_zero'] at hx385_0); (try rw [show ((0 : Int)).toNat = 0 from rfl] at hx385_1); (try rw [show 0 * 5 = 0 from rfl] at hx385_1); (try rw [Addr.add_zero'] at hx385_1); (try rw [show ((0 : Int)).toNat = 0 from rfl] at hx385_2); (try rw [show 0 * 5 = 0 from rfl] at hx385_2); (try rw [Addr.add_zero'] at hx385_2); (try rw [show ((0 : Int)).toNat = 0 from rfl] at hx385_3); (try rw [show 0 * 5 = 0 from rfl] at hx385_3); (try rw [Addr.add_zero'] at hx385_3); (try rw [show ((0 : Int)).toNat = 0 from rfl] at hx385_4); (try rw [show 0 * 5 = 0 from rfl] at hx385_4); (try rw [Addr.add_zero'] at hx385_4); replace p385 := eq_true p385; replace q385 := eq_true q385) | ((with_reducible refine gate_callee (f := 14) rfl ?_); refine goesL_ (some 46) rfl rfl Try.func14 (by kernel_rfl) rfl #[.string a0] rfl (by (try simp only [List.map_toArray, List.map_cons, List.map_nil]); first | done | rfl | (simp only [List.length_drop, List.length_take]; rfl)) ?_; (with_reducible refine (lex_Name.calls a0 t389 _ A26.out).mono ?_); rintro e w' ⟨rfl, ⟨nd, rfl⟩⟩; refine ⟨_, rfl, ?_⟩))
                go_ret
                exact ⟨by first | rfl | (simp [errW_none, errW_some] <;> rfl) | (simp [*, errW_none, errW_some] <;> rfl), by repeat (first | (with_reducible first | exact HB.out | apply below_alloc | apply pw_below_drewN | apply below_drew1) | exact HB.out)⟩
          · rw [if_neg c8] at H
            have c8b0 : (((rd_T32 t379 0).f0) == 1) = false := beq_eq_false_iff_ne.mpr c8
            have c8b1 : (((rd_T32 t379 0).f0) != 1) = true := bne_iff_ne.mpr c8
            replace H := Option.bind_eq_some_iff.mp H
            obtain ⟨t390, A340, H⟩ := H
            replace H : (if (t390 == false) = true then (some true) else (some false)) = some r := H
            have A34 := Aside0.mk A340
            clear A340
            by_cases c35 : (t390 == false) = true
            · rw [if_pos c35] at H
              have c35b0 : (t390 == false) = true := c35
              (try (have c35b1 : decide (t390 = false) = true := by simpa using c35))
              (try (have c35b2 : (t390 == false) = true := by simpa using c35))
              clear c35
              obtain rfl := Option.some.inj H
              go_enter Try.func8, Try.ntmps8
              go_wp2_with (first | ((with_reducible refine gate_callee (f := 10) rfl ?_); refine goesL_ (some 7) rfl rfl Try.func10 (by kernel_rfl) rfl #[] rfl (by (try simp only [List.map_toArray, List.map_cons, List.map_nil]); first | done | rfl | (simp only [List.length_drop, List.length_take]; rfl)) ?_; (with_reducible refine (stratumlaw08_lives.calls k  true _ A2.out).mono ?_); rintro e w36 ⟨rfl, hb⟩; refine ⟨_, rfl, ?_⟩; have n0_ := Aside0.mk (below_step (by repeat (first | (with_reducible first | exact HB.out | apply below_alloc | apply pw_below_drewN | apply below_drew1) | exact HB.out)) hb); clear HB; have HB := n0_; clear n0_; (try clear hb); (try clear hb2); (try clear hk); (try clear hi)) | ((with_reducible refine gate_callee (f := 12) rfl ?_); refine goesL_ (some 11) rfl rfl Try.func12 (by kernel_rfl) rfl #[.string a0] rfl (by (try simp only [List.map_toArray, List.map_cons, List.map_nil]); first | done | rfl | (simp only [List.length_drop, List.length_take]; rfl)) ?_; (with_reducible refine (lex_Lex.calls k a0 t379 t380 t381 _ A4.out).mono ?_); rintro e w37 ⟨v382, rfl, ho0, hb⟩; refine ⟨_, rfl, ?_⟩; have n0_ := Aside0.mk (Kd.R_lower ho0 (below_size (by repeat (first | (with_reducible first | exact HB.out | apply below_alloc | apply pw_below_drewN | apply below_drew1) | exact HB.out)))); have n1_ := Aside0.mk (below_step (by repeat (first | (with_reducible first | exact HB.out | apply below_alloc | apply pw_below_drewN | apply below_drew1) | exact HB.out)) hb); clear HB; have HO383 := n0_; have HB := n1_; clear n0_ n1_; (try clear hb); (try clear hb2); (try clear hk); (try clear hi); (try clear ho0); obtain ⟨Ao38, co38, eo38⟩ := Kd.R_slice HO383.out; subst eo38; have p384 : 0 ≤ (0 : Int) := (by omega); have q384 : 0 < (t379.length : Int) := of_decide_eq_true (by first | (with_reducible assumption) | assumption); obtain ⟨ad384, e384, hx384_0, hx384_1, hx384_2, hx384_3, hx384_4⟩ := at_T32 (Kd.R_reads' HO383.out).2.2 0 p384 q384; cases e384; have qi384 : (0 < t379.length) = True := eq_true (by omega); (try rw [show ((0 : Int)).toNat = 0 from rfl] at hx384_0); (try rw [show 0 * 5 = 0 from rfl] at hx384_0); (try rw [Addr.add_zero'] at hx384_0); (try rw [show ((0 : Int)).toNat = 0 from rfl] at hx384_1); (try rw [show 0 * 5 = 0 from rfl] at hx384_1); (try rw [Addr.add_zero'] at hx384_1); (try rw [show ((0 : Int)).toNat = 0 from rfl] at hx384_2); (try rw [show 0 * 5 = 0 from rfl] at hx384_2); (try rw [Addr.add_zero'] at hx384_2); (try rw [show ((0 : Int)).toNat = 0 from rfl] at hx384_3); (try rw [show 0 * 5 = 0 from rfl] at hx384_3); (try rw [Addr.add_zero'] at hx384_3); (try rw [show ((0 : Int)).toNat = 0 from rfl] at hx384_4); (try rw [show 0 * 5 = 0 from rfl] at hx384_4); (try rw [Addr.add_zero'] at hx384_4); replace p384 := eq_true p384; replace q384 := eq_true q384) | ((with_reducible refine gate_callee (f := 14) rfl ?_); refine goesL_ (some 46) rfl rfl Try.func14 (by kernel_rfl) rfl #[.string a0] rfl (by (try simp only [List.map_toArray, List.map_cons, List.map_nil]); first | done | rfl | (simp only [List.length_drop, List.length_take]; rfl)) ?_; (with_reducible refine (lex_Name.calls a0 t390 _ A34.out).mono ?_); rintro e w' ⟨rfl, ⟨nd, rfl⟩⟩; refine ⟨_, rfl, ?_⟩))
              go_ret
              exact ⟨by first | rfl | (simp [errW_none, errW_some] <;> rfl) | (simp [*, errW_none, errW_some] <;> rfl), by repeat (first | (with_reducible first | exact HB.out | apply below_alloc | apply pw_below_drewN | apply below_drew1) | exact HB.out)⟩
            · rw [if_neg c35] at H
              have c35b0 : (t390 == false) = false := by simpa using c35
              (try (have c35b1 : decide (t390 = false) = false := by simpa using c35))
              (try (have c35b2 : (t390 == false) = false := by simpa using c35))
              (try (have c35b3 : ¬ (t390 = false) := by simpa using c35))
              clear c35
              obtain rfl := Option.some.inj H
              go_enter Try.func8, Try.ntmps8
              go_wp2_with (first | ((with_reducible refine gate_callee (f := 10) rfl ?_); refine goesL_ (some 7) rfl rfl Try.func10 (by kernel_rfl) rfl #[] rfl (by (try simp only [List.map_toArray, List.map_cons, List.map_nil]); first | done | rfl | (simp only [List.length_drop, List.length_take]; rfl)) ?_; (with_reducible refine (stratumlaw08_lives.calls k  true _ A2.out).mono ?_); rintro e w39 ⟨rfl, hb⟩; refine ⟨_, rfl, ?_⟩; have n0_ := Aside0.mk (below_step (by repeat (first | (with_reducible first | exact HB.out | apply below_alloc | apply pw_below_drewN | apply below_drew1) | exact HB.out)) hb); clear HB; have HB := n0_; clear n0_; (try clear hb); (try clear hb2); (try clear hk); (try clear hi)) | ((with_reducible refine gate_callee (f := 12) rfl ?_); refine goesL_ (some 11) rfl rfl Try.func12 (by kernel_rfl) rfl #[.string a0] rfl (by (try simp only [List.map_toArray, List.map_cons, List.map_nil]); first | done | rfl | (simp only [List.length_drop, List.length_take]; rfl)) ?_; (with_reducible refine (lex_Lex.calls k a0 t379 t380 t381 _ A4.out).mono ?_); rintro e w40 ⟨v382, rfl, ho0, hb⟩; refine ⟨_, rfl, ?_⟩; have n0_ := Aside0.mk (Kd.R_lower ho0 (below_size (by repeat (first | (with_reducible first | exact HB.out | apply below_alloc | apply pw_below_drewN | apply below_drew1) | exact HB.out)))); have n1_ := Aside0.mk (below_step (by repeat (first | (with_reducible first | exact HB.out | apply below_alloc | apply pw_below_drewN | apply below_drew1) | exact HB.out)) hb); clear HB; have HO383 := n0_; have HB := n1_; clear n0_ n1_; (try clear hb); (try clear hb2); (try clear hk); (try clear hi); (try clear ho0); obtain ⟨Ao41, co41, eo41⟩ := Kd.R_slice HO383.out; subst eo41; have p384 : 0 ≤ (0 : Int) := (by omega); have q384 : 0 < (t379.length : Int) := of_decide_eq_true (by first | (with_reducible assumption) | assumption); obtain ⟨ad384, e384, hx384_0, hx384_1, hx384_2, hx384_3, hx384_4⟩ := at_T32 (Kd.R_reads' HO383.out).2.2 0 p384 q384; cases e384; have qi384 : (0 < t379.length) = True := eq_true (by omega); (try rw [show ((0 : Int)).toNat = 0 from rfl] at hx384_0); (try rw [show 0 * 5 = 0 from rfl] at hx384_0); (try rw [Addr.add_zero'] at hx384_0); (try rw [show ((0 : Int)).toNat = 0 from rfl] at hx384_1); (try rw [show 0 * 5 = 0 from rfl] at hx384_1); (try rw [Addr.add_zero'] at hx384_1); (try rw [show ((0 : Int)).toNat = 0 from rfl] at hx384_2); (try rw [show 0 * 5 = 0 from rfl] at hx384_2); (try rw [Addr.add_zero'] at hx384_2); (try rw [show ((0 : Int)).toNat = 0 from rfl] at hx384_3); (try rw [show 0 * 5 = 0 from rfl] at hx384_3); (try rw [Addr.add_zero'] at hx384_3); (try rw [show ((0 : Int)).toNat = 0 from rfl] at hx384_4); (try rw [show 0 * 5 = 0 from rfl] at hx384_4); (try rw [Addr.add_zero'] at hx384_4); replace p384 := eq_true p384; replace q384 := eq_true q384) | ((with_reducible refine gate_callee (f := 14) rfl ?_); refine goesL_ (some 46) rfl rfl Try.func14 (by kernel_rfl) rfl #[.string a0] rfl (by (try simp only [List.map_toArray, List.map_cons, List.map_nil]); first | done | rfl | (simp only [List.length_drop, List.length_take]; rfl)) ?_; (with_reducible refine (lex_Name.calls a0 t390 _ A34.out).mono ?_); rintro e w' ⟨rfl, ⟨nd, rfl⟩⟩; refine ⟨_, rfl, ?_⟩))
              go_ret
              exact ⟨by first | rfl | (simp [errW_none, errW_some] <;> rfl) | (simp [*, errW_none, errW_some] <;> rfl), by repeat (first | (with_reducible first | exact HB.out | apply below_alloc | apply pw_below_drewN | apply below_drew1) | exact HB.out)⟩
        · rw [if_neg c7] at H
          exact absurd H (by simp)
      · rw [if_neg c6] at H
        have c6b0 : ((t379.length : Int) == 2) = false := beq_eq_false_iff_ne.mpr c6
        have c6b1 : ((t379.length : Int) != 2) = true := bne_iff_ne.mpr c6
        replace H := Option.bind_eq_some_iff.mp H
        obtain ⟨t391, A420, H⟩ := H
        replace H : (if (t391 == false) = true then (some true) else (some false)) = some r := H
        have A42 := Aside0.mk A420
        clear A420
        by_cases c43 : (t391 == false) = true
        · rw [if_pos c43] at H
          have c43b0 : (t391 == false) = true := c43
          (try (have c43b1 : decide (t391 = false) = true := by simpa using c43))
          (try (have c43b2 : (t391 == false) = true := by simpa using c43))
          clear c43
          obtain rfl := Option.some.inj H
          go_enter Try.func8, Try.ntmps8
          go_wp2_with (first | ((with_reducible refine gate_callee (f := 10) rfl ?_); refine goesL_ (some 7) rfl rfl Try.func10 (by kernel_rfl) rfl #[] rfl (by (try simp only [List.map_toArray, List.map_cons, List.map_nil]); first | done | rfl | (simp only [List.length_drop, List.length_take]; rfl)) ?_; (with_reducible refine (stratumlaw08_lives.calls k  true _ A2.out).mono ?_); rintro e w44 ⟨rfl, hb⟩; refine ⟨_, rfl, ?_⟩; have n0_ := Aside0.mk (below_step (by repeat (first | (with_reducible first | exact HB.out | apply below_alloc | apply pw_below_drewN | apply below_drew1) | exact HB.out)) hb); clear HB; have HB := n0_; clear n0_; (try clear hb); (try clear hb2); (try clear hk); (try clear hi)) | ((with_reducible refine gate_callee (f := 12) rfl ?_); refine goesL_ (some 11) rfl rfl Try.func12 (by kernel_rfl) rfl #[.string a0] rfl (by (try simp only [List.map_toArray, List.map_cons, List.map_nil]); first | done | rfl | (simp only [List.length_drop, List.length_take]; rfl)) ?_; (with_reducible refine (lex_Lex.calls k a0 t379 t380 t381 _ A4.out).mono ?_); rintro e w45 ⟨v382, rfl, ho0, hb⟩; refine ⟨_, rfl, ?_⟩; have n0_ := Aside0.mk (Kd.R_lower ho0 (below_size (by repeat (first | (with_reducible first | exact HB.out | apply below_alloc | apply pw_below_drewN | apply below_drew1) | exact HB.out)))); have n1_ := Aside0.mk (below_step (by repeat (first | (with_reducible first | exact HB.out | apply below_alloc | apply pw_below_drewN | apply below_drew1) | exact HB.out)) hb); clear HB; have HO383 := n0_; have HB := n1_; clear n0_ n1_; (try clear hb); (try clear hb2); (try clear hk); (try clear hi); (try clear ho0); obtain ⟨Ao46, co46, eo46⟩ := Kd.R_slice HO383.out; subst eo46) | ((with_reducible refine gate_callee (f := 14) rfl ?_); refine goesL_ (some 46) rfl rfl Try.func14 (by kernel_rfl) rfl #[.string a0] rfl (by (try simp only [List.map_toArray, List.map_cons, List.map_nil]); first | done | rfl | (simp only [List.length_drop, List.length_take]; rfl)) ?_; (with_reducible refine (lex_Name.calls a0 t391 _ A42.out).mono ?_); rintro e w' ⟨rfl, ⟨nd, rfl⟩⟩; refine ⟨_, rfl, ?_⟩))
          go_ret
          exact ⟨by first | rfl | (simp [errW_none, errW_some] <;> rfl) | (simp [*, errW_none, errW_some] <;> rfl), by repeat (first | (with_reducible first | exact HB.out | apply below_alloc | apply pw_below_drewN | apply below_drew1) | exact HB.out)⟩
        · rw [if_neg c43] at H
          have c43b0 : (t391 == false) = false := by simpa using c43
          (try (have c43b1 : decide (t391 = false) = false := by simpa using c43))
          (try (have c43b2 : (t391 == false) = false := by simpa using c43))
          (try (have c43b3 : ¬ (t391 = false) := by simpa using c43))
          clear c43
          obtain rfl := Option.some.inj H
          go_enter Try.func8, Try.ntmps8
          go_wp2_with (first | ((with_reducible refine gate_callee (f := 10) rfl ?_); refine goesL_ (some 7) rfl rfl Try.func10 (by kernel_rfl) rfl #[] rfl (by (try simp only [List.map_toArray, List.map_cons, List.map_nil]); first | done | rfl | (simp only [List.length_drop, List.length_take]; rfl)) ?_; (with_reducible refine (stratumlaw08_lives.calls k  true _ A2.out).mono ?_); rintro e w47 ⟨rfl, hb⟩; refine ⟨_, rfl, ?_⟩; have n0_ := Aside0.mk (below_step (by repeat (first | (with_reducible first | exact HB.out | apply below_alloc | apply pw_below_drewN | apply below_drew1) | exact HB.out)) hb); clear HB; have HB := n0_; clear n0_; (try clear hb); (try clear hb2); (try clear hk); (try clear hi)) | ((with_reducible refine gate_callee (f := 12) rfl ?_); refine goesL_ (some 11) rfl rfl Try.func12 (by kernel_rfl) rfl #[.string a0] rfl (by (try simp only [List.map_toArray, List.map_cons, List.map_nil]); first | done | rfl | (simp only [List.length_drop, List.length_take]; rfl)) ?_; (with_reducible refine (lex_Lex.calls k a0 t379 t380 t381 _ A4.out).mono ?_); rintro e w48 ⟨v382, rfl, ho0, hb⟩; refine ⟨_, rfl, ?_⟩; have n0_ := Aside0.mk (Kd.R_lower ho0 (below_size (by repeat (first | (with_reducible first | exact HB.out | apply below_alloc | apply pw_below_drewN | apply below_drew1) | exact HB.out)))); have n1_ := Aside0.mk (below_step (by repeat (first | (with_reducible first | exact HB.out | apply below_alloc | apply pw_below_drewN | apply below_drew1) | exact HB.out)) hb); clear HB; have HO383 := n0_; have HB := n1_; clear n0_ n1_; (try clear hb); (try clear hb2); (try clear hk); (try clear hi); (try clear ho0); obtain ⟨Ao49, co49, eo49⟩ := Kd.R_slice HO383.out; subst eo49) | ((with_reducible refine gate_callee (f := 14) rfl ?_); refine goesL_ (some 46) rfl rfl Try.func14 (by kernel_rfl) rfl #[.string a0] rfl (by (try simp only [List.map_toArray, List.map_cons, List.map_nil]); first | done | rfl | (simp only [List.length_drop, List.length_take]; rfl)) ?_; (with_reducible refine (lex_Name.calls a0 t391 _ A42.out).mono ?_); rintro e w' ⟨rfl, ⟨nd, rfl⟩⟩; refine ⟨_, rfl, ?_⟩))
          go_ret
          exact ⟨by first | rfl | (simp [errW_none, errW_some] <;> rfl) | (simp [*, errW_none, errW_some] <;> rfl), by repeat (first | (with_reducible first | exact HB.out | apply below_alloc | apply pw_below_drewN | apply below_drew1) | exact HB.out)⟩
    · rw [if_neg c5] at H
      have c5b0 : (t381 == 0) = false := beq_eq_false_iff_ne.mpr c5
      have c5b1 : (t381 != 0) = true := bne_iff_ne.mpr c5
      replace H := Option.bind_eq_some_iff.mp H
      obtain ⟨t392, A500, H⟩ := H
      replace H : (if (t392 == false) = true then (some true) else (some false)) = some r := H
      have A50 := Aside0.mk A500
      clear A500
      by_cases c51 : (t392 == false) = true
      · rw [if_pos c51] at H
        have c51b0 : (t392 == false) = true := c51
        (try (have c51b1 : decide (t392 = false) = true := by simpa using c51))
        (try (have c51b2 : (t392 == false) = true := by simpa using c51))
        clear c51
        obtain rfl := Option.some.inj H
        go_enter Try.func8, Try.ntmps8
        go_wp2_with (first | ((with_reducible refine gate_callee (f := 10) rfl ?_); refine goesL_ (some 7) rfl rfl Try.func10 (by kernel_rfl) rfl #[] rfl (by (try simp only [List.map_toArray, List.map_cons, List.map_nil]); first | done | rfl | (simp only [List.length_drop, List.length_take]; rfl)) ?_; (with_reducible refine (stratumlaw08_lives.calls k  true _ A2.out).mono ?_); rintro e w52 ⟨rfl, hb⟩; refine ⟨_, rfl, ?_⟩; have n0_ := Aside0.mk (below_step (by repeat (first | (with_reducible first | exact HB.out | apply below_alloc | apply pw_below_drewN | apply below_drew1) | exact HB.out)) hb); clear HB; have HB := n0_; clear n0_; (try clear hb); (try clear hb2); (try clear hk); (try clear hi)) | ((with_reducible refine gate_callee (f := 12) rfl ?_); refine goesL_ (some 11) rfl rfl Try.func12 (by kernel_rfl) rfl #[.string a0] rfl (by (try simp only [List.map_toArray, List.map_cons, List.map_nil]); first | done | rfl | (simp only [List.length_drop, List.length_take]; rfl)) ?_; (with_reducible refine (lex_Lex.calls k a0 t379 t380 t381 _ A4.out).mono ?_); rintro e w53 ⟨v382, rfl, ho0, hb⟩; refine ⟨_, rfl, ?_⟩; have n0_ := Aside0.mk (Kd.R_lower ho0 (below_size (by repeat (first | (with_reducible first | exact HB.out | apply below_alloc | apply pw_below_drewN | apply below_drew1) | exact HB.out)))); have n1_ := Aside0.mk (below_step (by repeat (first | (with_reducible first | exact HB.out | apply below_alloc | apply pw_below_drewN | apply below_drew1) | exact HB.out)) hb); clear HB; have HO383 := n0_; have HB := n1_; clear n0_ n1_; (try clear hb); (try clear hb2); (try clear hk); (try clear hi); (try clear ho0)) | ((with_reducible refine gate_callee (f := 14) rfl ?_); refine goesL_ (some 46) rfl rfl Try.func14 (by kernel_rfl) rfl #[.string a0] rfl (by (try simp only [List.map_toArray, List.map_cons, List.map_nil]); first | done | rfl | (simp only [List.length_drop, List.length_take]; rfl)) ?_; (with_reducible refine (lex_Name.calls a0 t392 _ A50.out).mono ?_); rintro e w' ⟨rfl, ⟨nd, rfl⟩⟩; refine ⟨_, rfl, ?_⟩))
        go_ret
        exact ⟨by first | rfl | (simp [errW_none, errW_some] <;> rfl) | (simp [*, errW_none, errW_some] <;> rfl), by repeat (first | (with_reducible first | exact HB.out | apply below_alloc | apply pw_below_drewN | apply below_drew1) | exact HB.out)⟩
      · rw [if_neg c51] at H
        have c51b0 : (t392 == false) = false := by simpa using c51
        (try (have c51b1 : decide (t392 = false) = false := by simpa using c51))
        (try (have c51b2 : (t392 == false) = false := by simpa using c51))
        (try (have c51b3 : ¬ (t392 = false) := by simpa using c51))
        clear c51
        obtain rfl := Option.some.inj H
        go_enter Try.func8, Try.ntmps8
        go_wp2_with (first | ((with_reducible refine gate_callee (f := 10) rfl ?_); refine goesL_ (some 7) rfl rfl Try.func10 (by kernel_rfl) rfl #[] rfl (by (try simp only [List.map_toArray, List.map_cons, List.map_nil]); first | done | rfl | (simp only [List.length_drop, List.length_take]; rfl)) ?_; (with_reducible refine (stratumlaw08_lives.calls k  true _ A2.out).mono ?_); rintro e w54 ⟨rfl, hb⟩; refine ⟨_, rfl, ?_⟩; have n0_ := Aside0.mk (below_step (by repeat (first | (with_reducible first | exact HB.out | apply below_alloc | apply pw_below_drewN | apply below_drew1) | exact HB.out)) hb); clear HB; have HB := n0_; clear n0_; (try clear hb); (try clear hb2); (try clear hk); (try clear hi)) | ((with_reducible refine gate_callee (f := 12) rfl ?_); refine goesL_ (some 11) rfl rfl Try.func12 (by kernel_rfl) rfl #[.string a0] rfl (by (try simp only [List.map_toArray, List.map_cons, List.map_nil]); first | done | rfl | (simp only [List.length_drop, List.length_take]; rfl)) ?_; (with_reducible refine (lex_Lex.calls k a0 t379 t380 t381 _ A4.out).mono ?_); rintro e w55 ⟨v382, rfl, ho0, hb⟩; refine ⟨_, rfl, ?_⟩; have n0_ := Aside0.mk (Kd.R_lower ho0 (below_size (by repeat (first | (with_reducible first | exact HB.out | apply below_alloc | apply pw_below_drewN | apply below_drew1) | exact HB.out)))); have n1_ := Aside0.mk (below_step (by repeat (first | (with_reducible first | exact HB.out | apply below_alloc | apply pw_below_drewN | apply below_drew1) | exact HB.out)) hb); clear HB; have HO383 := n0_; have HB := n1_; clear n0_ n1_; (try clear hb); (try clear hb2); (try clear hk); (try clear hi); (try clear ho0)) | ((with_reducible refine gate_callee (f := 14) rfl ?_); refine goesL_ (some 46) rfl rfl Try.func14 (by kernel_rfl) rfl #[.string a0] rfl (by (try simp only [List.map_toArray, List.map_cons, List.map_nil]); first | done | rfl | (simp only [List.length_drop, List.length_take]; rfl)) ?_; (with_reducible refine (lex_Name.calls a0 t392 _ A50.out).mono ?_); rintro e w' ⟨rfl, ⟨nd, rfl⟩⟩; refine ⟨_, rfl, ?_⟩))
        go_ret
        exact ⟨by first | rfl | (simp [errW_none, errW_some] <;> rfl) | (simp [*, errW_none, errW_some] <;> rfl), by repeat (first | (with_reducible first | exact HB.out | apply below_alloc | apply pw_below_drewN | apply below_drew1) | exact HB.out)⟩
  · replace c3 := Bool.eq_false_iff.mpr c3
    subst c3
    have H1 : (some false) = some r := by rw [if_neg (show ¬ (false = true) by decide)] at H; exact H
    clear H
    have H := H1
    clear H1
    obtain rfl := Option.some.inj H
    go_enter Try.func8, Try.ntmps8
    go_wp2_with (first | ((with_reducible refine gate_callee (f := 10) rfl ?_); refine goesL_ (some 7) rfl rfl Try.func10 (by kernel_rfl) rfl #[] rfl (by (try simp only [List.map_toArray, List.map_cons, List.map_nil]); first | done | rfl | (simp only [List.length_drop, List.length_take]; rfl)) ?_; (with_reducible refine (stratumlaw08_lives.calls k  false _ A2.out).mono ?_); rintro e w56 ⟨rfl, hb⟩; refine ⟨_, rfl, ?_⟩; have n0_ := Aside0.mk (below_step (by repeat (first | (with_reducible first | exact HB.out | apply below_alloc | apply pw_below_drewN | apply below_drew1) | exact HB.out)) hb); clear HB; have HB := n0_; clear n0_; (try clear hb); (try clear hb2); (try clear hk); (try clear hi)))
    go_ret
    exact ⟨by first | rfl | (simp [errW_none, errW_some] <;> rfl) | (simp [*, errW_none, errW_some] <;> rfl), by repeat (first | (with_reducible first | exact HB.out | apply below_alloc | apply pw_below_drewN | apply below_drew1) | exact HB.out)⟩

/-- THE ONE PURE STATEMENT of stratumlaw08_LexNames: yours. -/
def stratumlaw08_LexNames.Pure : Prop := ∀ (a0 : ByteArray), a0.size ≤ 140737488351232 → ∃ k, stratumlaw08_LexNames.f k a0 = some true
theorem stratumlaw08_LexNames.walk (P : stratumlaw08_LexNames.Pure) (a0 : ByteArray) (w : World) (w0 : a0.size ≤ 140737488351232) :
    Calls Try.prog 8 #[.string a0] w fun e w' => e = .returned (.bool true) ∧ Below w.heap.size w w' := by
  obtain ⟨k, h⟩ := P a0 w0
  refine (stratumlaw08_LexNames.calls k a0 true w h).mono ?_
  rintro e w' ⟨rfl, hd⟩
  exact ⟨rfl, hd⟩

/-! ### stratumlaw08_LexFaults: function 9 -/
mutual
def stratumlaw08_LexFaults.j0 : Nat → ByteArray → ByteArray → Bool → Option (Bool)
  | 0, _, _, _ => none
  | k + 1, x0, x1, x32 => if x32 = true then (some true) else ((lex_Lex.f k x0).bind fun bt394 => (if bt394.2.2 = 0 then (some true) else (if x0.size + 1 ≤ 9223372036854775807 then (if (x0 ++ (⟨#[10]⟩ : ByteArray)).size + x1.size ≤ 9223372036854775807 then ((lex_Lex.f k ((x0 ++ (⟨#[10]⟩ : ByteArray)) ++ x1)).bind fun bt399 => (if bt399.2.1 = bt394.2.1 then (stratumlaw08_LexFaults.j1 k x0 bt394.2.1 bt394.2.2 (bt399.2.2 != bt394.2.2)) else (stratumlaw08_LexFaults.j1 k x0 bt394.2.1 bt394.2.2 true))) else (none)) else (none))))
def stratumlaw08_LexFaults.j1 : Nat → ByteArray → Int → Int → Bool → Option (Bool)
  | 0, _, _, _, _ => none
  | k + 1, x0, x6, x7, x57 => if x57 = true then (some false) else (if 0 ≤ x6 then (if x6 ≤ (x0.size : Int) then ((lex_Lex.f k (x0.extract 0 (x6 : Int).toNat)).bind fun bt404 => (if x7 = 82 then (if bt404.2.2 = 81 then (some (decide (bt404.2.1 < x6))) else (some false)) else (some (bt404.2.2 == 0)))) else (none)) else (none))
end
def stratumlaw08_LexFaults.f (k : Nat) (a0 : ByteArray) (a1 : ByteArray) : Option (Bool) := (stratumlaw08_lives.f k).bind fun t393 => (if t393 = true then (if (a0.size : Int) > 1048576 then (stratumlaw08_LexFaults.j0 k a0 a1 true) else (if (a1.size : Int) > 1048576 then (stratumlaw08_LexFaults.j0 k a0 a1 true) else (stratumlaw08_LexFaults.j0 k a0 a1 (decide ((wrap64 ((wrap64 ((a0.size : Int) + 1)) + (a1.size : Int))) > 1048576))))) else (some false))
theorem stratumlaw08_LexFaults.mono_l : ∀ k, (∀ y0 y1 y2, LeO (stratumlaw08_LexFaults.j0 k y0 y1 y2) (stratumlaw08_LexFaults.j0 (k + 1) y0 y1 y2)) ∧ (∀ y0 y1 y2 y3, LeO (stratumlaw08_LexFaults.j1 k y0 y1 y2 y3) (stratumlaw08_LexFaults.j1 (k + 1) y0 y1 y2 y3))
  | 0 => ⟨fun _ _ _ r h => by simp [stratumlaw08_LexFaults.j0] at h, fun _ _ _ _ r h => by simp [stratumlaw08_LexFaults.j1] at h⟩
  | k + 1 => by
    obtain ⟨ih0, ih1⟩ := stratumlaw08_LexFaults.mono_l k
    refine ⟨?_, ?_⟩
    · intro y0 y1 y2
      unfold stratumlaw08_LexFaults.j0
      repeat' first
      | (with_reducible exact ih0 _ _ _)
      | (with_reducible exact ih1 _ _ _ _)
      | (with_reducible exact lex_Lex.mono _ _)
      | (with_reducible exact stratumlaw08_lives.mono _)
      | (with_reducible exact LeO.refl _)
      | (with_reducible exact LeO.none _)
      | (with_reducible refine LeO.ite ?_ ?_)
      | (with_reducible refine LeO.bind ?_ (fun _ => ?_))
      | exact ih0 _ _ _
      | exact ih1 _ _ _ _
      | exact lex_Lex.mono _ _
      | exact stratumlaw08_lives.mono _
      | exact LeO.none _
      | refine LeO.ite ?_ ?_
      | refine LeO.bind ?_ (fun _ => ?_)
    · intro y0 y1 y2 y3
      unfold stratumlaw08_LexFaults.j1
      repeat' first
      | (with_reducible exact ih0 _ _ _)
      | (with_reducible exact ih1 _ _ _ _)
      | (with_reducible exact lex_Lex.mono _ _)
      | (with_reducible exact stratumlaw08_lives.mono _)
      | (with_reducible exact LeO.refl _)
      | (with_reducible exact LeO.none _)
      | (with_reducible refine LeO.ite ?_ ?_)
      | (with_reducible refine LeO.bind ?_ (fun _ => ?_))
      | exact ih0 _ _ _
      | exact ih1 _ _ _ _
      | exact lex_Lex.mono _ _
      | exact stratumlaw08_lives.mono _
      | exact LeO.none _
      | refine LeO.ite ?_ ?_
      | refine LeO.bind ?_ (fun _ => ?_)
theorem stratumlaw08_LexFaults.mono : ∀ a0 a1 k, LeO (stratumlaw08_LexFaults.f k a0 a1) (stratumlaw08_LexFaults.f (k + 1) a0 a1) := by
  intro a0 a1 k
  obtain ⟨ih0, ih1⟩ := stratumlaw08_LexFaults.mono_l k
  unfold stratumlaw08_LexFaults.f
  repeat' first
      | (with_reducible exact ih0 _ _ _)
      | (with_reducible exact ih1 _ _ _ _)
      | (with_reducible exact lex_Lex.mono _ _)
      | (with_reducible exact stratumlaw08_lives.mono _)
      | (with_reducible exact LeO.refl _)
      | (with_reducible exact LeO.none _)
      | (with_reducible refine LeO.ite ?_ ?_)
      | (with_reducible refine LeO.bind ?_ (fun _ => ?_))
      | exact ih0 _ _ _
      | exact ih1 _ _ _ _
      | exact lex_Lex.mono _ _
      | exact stratumlaw08_lives.mono _
      | exact LeO.none _
      | refine LeO.ite ?_ ?_
      | refine LeO.bind ?_ (fun _ => ?_)
set_option maxHeartbeats 8000000 in
set_option maxRecDepth 100000 in
theorem stratumlaw08_LexFaults.calls (k : Nat) (a0 : ByteArray) (a1 : ByteArray) (r : Bool) (w : World) (h : stratumlaw08_LexFaults.f k a0 a1 = some r) :
    Calls Try.prog 9 #[.string a0, .string a1] w fun e w' => e = .returned (.bool r) ∧ Below w.heap.size w w' := by
  have HB := Aside0.mk (Below.refl w.heap.size w)
  have H : ((stratumlaw08_lives.f k).bind fun t393 => (if t393 = true then (if (a0.size : Int) > 1048576 then (stratumlaw08_LexFaults.j0 k a0 a1 true) else (if (a1.size : Int) > 1048576 then (stratumlaw08_LexFaults.j0 k a0 a1 true) else (stratumlaw08_LexFaults.j0 k a0 a1 (decide ((wrap64 ((wrap64 ((a0.size : Int) + 1)) + (a1.size : Int))) > 1048576))))) else (some false))) = some r := h
  clear h
  replace H := Option.bind_eq_some_iff.mp H
  obtain ⟨t393, A30, H⟩ := H
  replace H : (if t393 = true then (if (a0.size : Int) > 1048576 then (stratumlaw08_LexFaults.j0 k a0 a1 true) else (if (a1.size : Int) > 1048576 then (stratumlaw08_LexFaults.j0 k a0 a1 true) else (stratumlaw08_LexFaults.j0 k a0 a1 (decide ((wrap64 ((wrap64 ((a0.size : Int) + 1)) + (a1.size : Int))) > 1048576))))) else (some false)) = some r := H
  have A3 := Aside0.mk A30
  clear A30
  by_cases c4 : t393 = true
  · subst c4
    have H1 : (if (a0.size : Int) > 1048576 then (stratumlaw08_LexFaults.j0 k a0 a1 true) else (if (a1.size : Int) > 1048576 then (stratumlaw08_LexFaults.j0 k a0 a1 true) else (stratumlaw08_LexFaults.j0 k a0 a1 (decide ((wrap64 ((wrap64 ((a0.size : Int) + 1)) + (a1.size : Int))) > 1048576))))) = some r := by rw [if_pos rfl] at H; exact H
    clear H
    have H := H1
    clear H1
    have HC5 := Aside0.mk H
    clear H
    go_enter Try.func9, Try.ntmps9
    go_upto_region 3 with (first | ((with_reducible refine gate_callee (f := 10) rfl ?_); refine goesL_ (some 14) rfl rfl Try.func10 (by kernel_rfl) rfl #[] rfl (by (try simp only [List.map_toArray, List.map_cons, List.map_nil]); first | done | rfl | (simp only [List.length_drop, List.length_take]; rfl)) ?_; (with_reducible refine (stratumlaw08_lives.calls k  true _ A3.out).mono ?_); rintro e w6 ⟨rfl, hb⟩; refine ⟨_, rfl, ?_⟩; have n0_ := Aside0.mk (below_step (by repeat (first | (with_reducible first | exact HB.out | apply below_alloc | apply pw_below_drewN | apply below_drew1) | exact HB.out)) hb); clear HB; have HB := n0_; clear n0_; (try clear hb); (try clear hb2); (try clear hk); (try clear hi)))
    (try simp only [Act.put, List.setIfInBounds_toArray, List.set_cons_zero, List.set_cons_succ])
    go_cut [32] (fun v32 wc => ∃ (kq : Nat) (x32_4 : Bool), v32 = .bool x32_4 ∧ Aside0 (stratumlaw08_LexFaults.j0 kq a0 a1 x32_4 = some r) ∧ Aside0 (kq ≤ k) ∧ Aside0 (Below w.heap.size w wc))
    case first =>
      have H := HC5.out
      clear HC5
      by_cases c7 : (a0.size : Int) > 1048576
      · rw [if_pos c7] at H
        have c7b0 : decide (1048576 < (a0.size : Int)) = true := decide_eq_true c7
        have c7b1 : decide (1048576 < a0.size) = true := decide_eq_true (by omega)
        clear c7
        (first | rw [c7b0] | (simp only [i64_w, i32_w]; rw [c7b0]) | skip)
        have H' := Aside0.mk H
        clear H
        go_wp2
        go_meet
        case rel => exact ⟨_, (true), (by first | rfl | (simp; done) | (simp [*]; done)), H', ⟨by first | omega | exact Nat.le_refl _⟩, ⟨by repeat (first | (with_reducible first | exact HB.out | apply below_alloc | apply pw_below_drewN | apply below_drew1) | exact HB.out)⟩⟩
      · rw [if_neg c7] at H
        have c7b0 : decide (1048576 < (a0.size : Int)) = false := decide_eq_false c7
        have c7b1 : decide (1048576 < a0.size) = false := decide_eq_false (by omega)
        clear c7
        (first | rw [c7b0] | (simp only [i64_w, i32_w]; rw [c7b0]) | skip)
        by_cases c8 : (a1.size : Int) > 1048576
        · rw [if_pos c8] at H
          have c8b0 : decide (1048576 < (a1.size : Int)) = true := decide_eq_true c8
          have c8b1 : decide (1048576 < a1.size) = true := decide_eq_true (by omega)
          clear c8
          have H' := Aside0.mk H
          clear H
          go_wp2
          go_meet
          case rel => exact ⟨_, (true), (by first | rfl | (simp; done) | (simp [*]; done)), H', ⟨by first | omega | exact Nat.le_refl _⟩, ⟨by repeat (first | (with_reducible first | exact HB.out | apply below_alloc | apply pw_below_drewN | apply below_drew1) | exact HB.out)⟩⟩
        · rw [if_neg c8] at H
          have c8b0 : decide (1048576 < (a1.size : Int)) = false := decide_eq_false c8
          have c8b1 : decide (1048576 < a1.size) = false := decide_eq_false (by omega)
          clear c8
          have H' := Aside0.mk H
          clear H
          go_wp2
          go_meet
          case rel => exact ⟨_, (decide ((wrap64 ((wrap64 ((a0.size : Int) + 1)) + (a1.size : Int))) > 1048576)), (by first | rfl | (simp; done) | (simp [*]; done)), H', ⟨by first | omega | exact Nat.le_refl _⟩, ⟨by repeat (first | (with_reducible first | exact HB.out | apply below_alloc | apply pw_below_drewN | apply below_drew1) | exact HB.out)⟩⟩
    case rest =>
      clear HC5
      try clear c1
      try clear p2
      try clear c4
      try clear p6
      try clear c7
      try clear c7b0
      try clear c7b1
      try clear c8
      try clear c8b0
      try clear c8b1
      obtain ⟨kq, x32_4, rfl, HA, HJ4, HB⟩ := hcut
      cases kq with
      | zero => exact absurd HA.out (by simp [stratumlaw08_LexFaults.j0])
      | succ kj4 =>
        have H := HA.out
        clear HA
        simp only [stratumlaw08_LexFaults.j0] at H
        by_cases c9 : x32_4 = true
        · subst c9
          have H1 : (some true) = some r := by rw [if_pos rfl] at H; exact H
          clear H
          have H := H1
          clear H1
          obtain rfl := Option.some.inj H
          go_wp2
          go_ret
          exact ⟨by first | rfl | (simp [errW_none, errW_some] <;> rfl) | (simp [*, errW_none, errW_some] <;> rfl), by repeat (first | (with_reducible first | exact HB.out | apply below_alloc | apply pw_below_drewN | apply below_drew1) | exact HB.out)⟩
        · replace c9 := Bool.eq_false_iff.mpr c9
          subst c9
          have H1 : ((lex_Lex.f kj4 a0).bind fun bt394 => (if bt394.2.2 = 0 then (some true) else (if a0.size + 1 ≤ 9223372036854775807 then (if (a0 ++ (⟨#[10]⟩ : ByteArray)).size + a1.size ≤ 9223372036854775807 then ((lex_Lex.f kj4 ((a0 ++ (⟨#[10]⟩ : ByteArray)) ++ a1)).bind fun bt399 => (if bt399.2.1 = bt394.2.1 then (stratumlaw08_LexFaults.j1 kj4 a0 bt394.2.1 bt394.2.2 (bt399.2.2 != bt394.2.2)) else (stratumlaw08_LexFaults.j1 kj4 a0 bt394.2.1 bt394.2.2 true))) else (none)) else (none)))) = some r := by rw [if_neg (show ¬ (false = true) by decide)] at H; exact H
          clear H
          have H := H1
          clear H1
          replace H := Option.bind_eq_some_iff.mp H
          obtain ⟨⟨t394, t395, t396⟩, A100, H⟩ := H
          replace H : (if t396 = 0 then (some true) else (if a0.size + 1 ≤ 9223372036854775807 then (if (a0 ++ (⟨#[10]⟩ : ByteArray)).size + a1.size ≤ 9223372036854775807 then ((lex_Lex.f kj4 ((a0 ++ (⟨#[10]⟩ : ByteArray)) ++ a1)).bind fun bt399 => (if bt399.2.1 = t395 then (stratumlaw08_LexFaults.j1 kj4 a0 t395 t396 (bt399.2.2 != t396)) else (stratumlaw08_LexFaults.j1 kj4 a0 t395 t396 true))) else (none)) else (none))) = some r := H
          have A10 := Aside0.mk A100
          clear A100
          by_cases c11 : t396 = 0
          · rw [if_pos c11] at H
            have c11b0 : (t396 == 0) = true := beq_iff_eq.mpr c11
            have c11b1 : (t396 != 0) = false := bne_eq_false_iff_eq.mpr c11
            clear c11
            obtain rfl := Option.some.inj H
            go_wp2_with (first | ((with_reducible refine gate_callee (f := 12) rfl ?_); refine goesL_ (some 35) rfl rfl Try.func12 (by kernel_rfl) rfl #[.string a0] rfl (by (try simp only [List.map_toArray, List.map_cons, List.map_nil]); first | done | rfl | (simp only [List.length_drop, List.length_take]; rfl)) ?_; (with_reducible refine (lex_Lex.calls kj4 a0 t394 t395 t396 _ A10.out).mono ?_); rintro e w12 ⟨v397, rfl, ho0, hb⟩; refine ⟨_, rfl, ?_⟩; have n0_ := Aside0.mk (Kd.R_lower ho0 (below_size (by repeat (first | (with_reducible first | exact HB.out | apply below_alloc | apply pw_below_drewN | apply below_drew1) | exact HB.out)))); have n1_ := Aside0.mk (below_step (by repeat (first | (with_reducible first | exact HB.out | apply below_alloc | apply pw_below_drewN | apply below_drew1) | exact HB.out)) hb); clear HB; have HO398 := n0_; have HB := n1_; clear n0_ n1_; (try clear hb); (try clear hb2); (try clear hk); (try clear hi); (try clear ho0)))
            go_ret
            exact ⟨by first | rfl | (simp [errW_none, errW_some] <;> rfl) | (simp [*, errW_none, errW_some] <;> rfl), by repeat (first | (with_reducible first | exact HB.out | apply below_alloc | apply pw_below_drewN | apply below_drew1) | exact HB.out)⟩
          · rw [if_neg c11] at H
            have c11b0 : (t396 == 0) = false := beq_eq_false_iff_ne.mpr c11
            have c11b1 : (t396 != 0) = true := bne_iff_ne.mpr c11
            by_cases c13 : a0.size + 1 ≤ 9223372036854775807
            · rw [if_pos c13] at H
              have c13b0 := eq_true c13
              have c13b1 : decide (a0.size + 1 ≤ 9223372036854775807) = true := decide_eq_true c13
              try have c13b2 : (9223372036854775807 < a0.size + 1) = False := eq_false (Nat.not_lt.2 c13)
              by_cases c14 : (a0 ++ (⟨#[10]⟩ : ByteArray)).size + a1.size ≤ 9223372036854775807
              · rw [if_pos c14] at H
                have c14b0 := eq_true c14
                have c14b1 : decide ((a0 ++ (⟨#[10]⟩ : ByteArray)).size + a1.size ≤ 9223372036854775807) = true := decide_eq_true c14
                try have c14b2 : (9223372036854775807 < (a0 ++ (⟨#[10]⟩ : ByteArray)).size + a1.size) = False := eq_false (Nat.not_lt.2 c14)
                replace H := Option.bind_eq_some_iff.mp H
                obtain ⟨⟨t399, t400, t401⟩, A150, H⟩ := H
                replace H : (if t400 = t395 then (stratumlaw08_LexFaults.j1 kj4 a0 t395 t396 (t401 != t396)) else (stratumlaw08_LexFaults.j1 kj4 a0 t395 t396 true)) = some r := H
                have A15 := Aside0.mk A150
                clear A150
                have HC16 := Aside0.mk H
                clear H
                go_upto_region 9 with (first | ((with_reducible refine gate_callee (f := 12) rfl ?_); refine goesL_ (some 35) rfl rfl Try.func12 (by kernel_rfl) rfl #[.string a0] rfl (by (try simp only [List.map_toArray, List.map_cons, List.map_nil]); first | done | rfl | (simp only [List.length_drop, List.length_take]; rfl)) ?_; (with_reducible refine (lex_Lex.calls kj4 a0 t394 t395 t396 _ A10.out).mono ?_); rintro e w17 ⟨v397, rfl, ho0, hb⟩; refine ⟨_, rfl, ?_⟩; have n0_ := Aside0.mk (Kd.R_lower ho0 (below_size (by repeat (first | (with_reducible first | exact HB.out | apply below_alloc | apply pw_below_drewN | apply below_drew1) | exact HB.out)))); have n1_ := Aside0.mk (below_step (by repeat (first | (with_reducible first | exact HB.out | apply below_alloc | apply pw_below_drewN | apply below_drew1) | exact HB.out)) hb); clear HB; have HO398 := n0_; have HB := n1_; clear n0_ n1_; (try clear hb); (try clear hb2); (try clear hk); (try clear hi); (try clear ho0)) | ((with_reducible refine gate_callee (f := 12) rfl ?_); refine goesL_ (some 46) rfl rfl Try.func12 (by kernel_rfl) rfl #[.string ((a0 ++ (⟨#[10]⟩ : ByteArray)) ++ a1)] rfl (by (try simp only [List.map_toArray, List.map_cons, List.map_nil]); first | done | rfl | (simp only [List.length_drop, List.length_take]; rfl)) ?_; (with_reducible refine (lex_Lex.calls kj4 ((a0 ++ (⟨#[10]⟩ : ByteArray)) ++ a1) t399 t400 t401 _ A15.out).mono ?_); rintro e w18 ⟨v402, rfl, ho0, hb⟩; refine ⟨_, rfl, ?_⟩; have n0_ := Aside0.mk (Kd.R_elder' (by (with_reducible repeat (first | apply Kd.R_alloc | apply Kd.R_drewN | apply Kd.R_drew)); exact HO398.out) (Kd.R_base ho0) hb); have n1_ := Aside0.mk (Kd.R_lower (Kd.R_new' ho0 (Kd.R_lt (by (with_reducible repeat (first | apply Kd.R_alloc | apply Kd.R_drewN | apply Kd.R_drew)); exact HO398.out))) (below_size (by repeat (first | (with_reducible first | exact HB.out | apply below_alloc | apply pw_below_drewN | apply below_drew1) | exact HB.out)))); have n2_ := Aside0.mk (below_step (by repeat (first | (with_reducible first | exact HB.out | apply below_alloc | apply pw_below_drewN | apply below_drew1) | exact HB.out)) hb); clear HO398; clear HB; have HO398 := n0_; have HO403 := n1_; have HB := n2_; clear n0_ n1_ n2_; (try clear hb); (try clear hb2); (try clear hk); (try clear hi); (try clear ho0)))
                (try simp only [Act.put, List.setIfInBounds_toArray, List.set_cons_zero, List.set_cons_succ])
                go_cut [57] (fun v57 wc => ∃ (kq : Nat) (x57_15 : Bool), v57 = .bool x57_15 ∧ Aside0 (stratumlaw08_LexFaults.j1 kq a0 t395 t396 x57_15 = some r) ∧ Aside0 (kq ≤ kj4) ∧ Aside0 (Below w.heap.size w wc))
                case first =>
                  have H := HC16.out
                  clear HC16
                  by_cases c19 : t400 = t395
                  · rw [if_pos c19] at H
                    have c19b0 : (t400 == t395) = true := beq_iff_eq.mpr c19
                    have c19b1 : (t400 != t395) = false := bne_eq_false_iff_eq.mpr c19
                    clear c19
                    (first | rw [c19b0] | (simp only [i64_w, i32_w]; rw [c19b0]) | skip)
                    have H' := Aside0.mk H
                    clear H
                    go_wp2
                    go_meet
                    case rel => exact ⟨_, ((t401 != t396)), (by first | rfl | (simp; done) | (simp [*]; done)), H', ⟨by have := HJ4.out; first | omega | exact Nat.le_refl _⟩, ⟨by repeat (first | (with_reducible first | exact HB.out | apply below_alloc | apply pw_below_drewN | apply below_drew1) | exact HB.out)⟩⟩
                  · rw [if_neg c19] at H
                    have c19b0 : (t400 == t395) = false := beq_eq_false_iff_ne.mpr c19
                    have c19b1 : (t400 != t395) = true := bne_iff_ne.mpr c19
                    (first | rw [c19b0] | (simp only [i64_w, i32_w]; rw [c19b0]) | skip)
                    have H' := Aside0.mk H
                    clear H
                    go_wp2
                    go_meet
                    case rel => exact ⟨_, (true), (by first | rfl | (simp; done) | (simp [*]; done)), H', ⟨by have := HJ4.out; first | omega | exact Nat.le_refl _⟩, ⟨by repeat (first | (with_reducible first | exact HB.out | apply below_alloc | apply pw_below_drewN | apply below_drew1) | exact HB.out)⟩⟩
                case rest =>
                  clear HC16
                  try clear c1
                  try clear p2
                  try clear c4
                  try clear p6
                  try clear c7
                  try clear c7b0
                  try clear c7b1
                  try clear c8
                  try clear c8b0
                  try clear c8b1
                  try clear c9
                  try clear c10
                  try clear c11
                  try clear c11b0
                  try clear c11b1
                  try clear c12
                  try clear c13
                  try clear c13b0
                  try clear c13b1
                  try clear c13b2
                  try clear c14
                  try clear c14b0
                  try clear c14b1
                  try clear c14b2
                  try clear c19
                  try clear c19b0
                  try clear c19b1
                  try clear p2
                  try clear p6
                  obtain ⟨kq, x57_15, rfl, HA, HJ15, HB⟩ := hcut
                  cases kq with
                  | zero => exact absurd HA.out (by simp [stratumlaw08_LexFaults.j1])
                  | succ kj15 =>
                    have H := HA.out
                    clear HA
                    simp only [stratumlaw08_LexFaults.j1] at H
                    by_cases c20 : x57_15 = true
                    · subst c20
                      have H1 : (some false) = some r := by rw [if_pos rfl] at H; exact H
                      clear H
                      have H := H1
                      clear H1
                      obtain rfl := Option.some.inj H
                      go_wp2
                      go_ret
                      exact ⟨by first | rfl | (simp [errW_none, errW_some] <;> rfl) | (simp [*, errW_none, errW_some] <;> rfl), by repeat (first | (with_reducible first | exact HB.out | apply below_alloc | apply pw_below_drewN | apply below_drew1) | exact HB.out)⟩
                    · replace c20 := Bool.eq_false_iff.mpr c20
                      subst c20
                      have H1 : (if 0 ≤ t395 then (if t395 ≤ (a0.size : Int) then ((lex_Lex.f kj15 (a0.extract 0 (t395 : Int).toNat)).bind fun bt404 => (if t396 = 82 then (if bt404.2.2 = 81 then (some (decide (bt404.2.1 < t395))) else (some false)) else (some (bt404.2.2 == 0)))) else (none)) else (none)) = some r := by rw [if_neg (show ¬ (false = true) by decide)] at H; exact H
                      clear H
                      have H := H1
                      clear H1
                      by_cases c21 : 0 ≤ t395
                      · rw [if_pos c21] at H
                        have c21b0 := eq_true c21
                        have c21b1 : decide (0 ≤ t395) = true := decide_eq_true c21
                        clear c21
                        by_cases c22 : t395 ≤ (a0.size : Int)
                        · rw [if_pos c22] at H
                          have c22b0 := eq_true c22
                          have c22b1 : decide (t395 ≤ (a0.size : Int)) = true := decide_eq_true c22
                          clear c22
                          replace H := Option.bind_eq_some_iff.mp H
                          obtain ⟨⟨t404, t405, t406⟩, A230, H⟩ := H
                          replace H : (if t396 = 82 then (if t406 = 81 then (some (decide (t405 < t395))) else (some false)) else (some (t406 == 0))) = some r := H
                          have A23 := Aside0.mk A230
                          clear A230
                          by_cases c24 : t396 = 82
                          · rw [if_pos c24] at H
                            have c24b0 : (t396 == 82) = true := beq_iff_eq.mpr c24
                            have c24b1 : (t396 != 82) = false := bne_eq_false_iff_eq.mpr c24
                            clear c24
                            by_cases c25 : t406 = 81
                            · rw [if_pos c25] at H
                              have c25b0 : (t406 == 81) = true := beq_iff_eq.mpr c25
                              have c25b1 : (t406 != 81) = false := bne_eq_false_iff_eq.mpr c25
                              clear c25
                              obtain rfl := Option.some.inj H
                              go_wp2_with (first | ((with_reducible refine gate_callee (f := 12) rfl ?_); refine goesL_ (some 62) rfl rfl Try.func12 (by kernel_rfl) rfl #[.string (a0.extract 0 (t395 : Int).toNat)] rfl (by (try simp only [List.map_toArray, List.map_cons, List.map_nil]); first | done | rfl | (simp only [List.length_drop, List.length_take]; rfl)) ?_; (with_reducible refine (lex_Lex.calls kj15 (a0.extract 0 (t395 : Int).toNat) t404 t405 t406 _ A23.out).mono ?_); rintro e w26 ⟨v407, rfl, ho0, hb⟩; refine ⟨_, rfl, ?_⟩; have n0_ := Aside0.mk (Kd.R_lower ho0 (below_size (by repeat (first | (with_reducible first | exact HB.out | apply below_alloc | apply pw_below_drewN | apply below_drew1) | exact HB.out)))); have n1_ := Aside0.mk (below_step (by repeat (first | (with_reducible first | exact HB.out | apply below_alloc | apply pw_below_drewN | apply below_drew1) | exact HB.out)) hb); clear HB; have HO408 := n0_; have HB := n1_; clear n0_ n1_; (try clear hb); (try clear hb2); (try clear hk); (try clear hi); (try clear ho0)))
                              go_ret
                              exact ⟨by first | rfl | (simp [errW_none, errW_some] <;> rfl) | (simp [*, errW_none, errW_some] <;> rfl), by repeat (first | (with_reducible first | exact HB.out | apply below_alloc | apply pw_below_drewN | apply below_drew1) | exact HB.out)⟩
                            · rw [if_neg c25] at H
                              have c25b0 : (t406 == 81) = false := beq_eq_false_iff_ne.mpr c25
                              have c25b1 : (t406 != 81) = true := bne_iff_ne.mpr c25
                              obtain rfl := Option.some.inj H
                              go_wp2_with (first | ((with_reducible refine gate_callee (f := 12) rfl ?_); refine goesL_ (some 62) rfl rfl Try.func12 (by kernel_rfl) rfl #[.string (a0.extract 0 (t395 : Int).toNat)] rfl (by (try simp only [List.map_toArray, List.map_cons, List.map_nil]); first | done | rfl | (simp only [List.length_drop, List.length_take]; rfl)) ?_; (with_reducible refine (lex_Lex.calls kj15 (a0.extract 0 (t395 : Int).toNat) t404 t405 t406 _ A23.out).mono ?_); rintro e w27 ⟨v407, rfl, ho0, hb⟩; refine ⟨_, rfl, ?_⟩; have n0_ := Aside0.mk (Kd.R_lower ho0 (below_size (by repeat (first | (with_reducible first | exact HB.out | apply below_alloc | apply pw_below_drewN | apply below_drew1) | exact HB.out)))); have n1_ := Aside0.mk (below_step (by repeat (first | (with_reducible first | exact HB.out | apply below_alloc | apply pw_below_drewN | apply below_drew1) | exact HB.out)) hb); clear HB; have HO408 := n0_; have HB := n1_; clear n0_ n1_; (try clear hb); (try clear hb2); (try clear hk); (try clear hi); (try clear ho0)))
                              go_ret
                              exact ⟨by first | rfl | (simp [errW_none, errW_some] <;> rfl) | (simp [*, errW_none, errW_some] <;> rfl), by repeat (first | (with_reducible first | exact HB.out | apply below_alloc | apply pw_below_drewN | apply below_drew1) | exact HB.out)⟩
                          · rw [if_neg c24] at H
                            have c24b0 : (t396 == 82) = false := beq_eq_false_iff_ne.mpr c24
                            have c24b1 : (t396 != 82) = true := bne_iff_ne.mpr c24
                            obtain rfl := Option.some.inj H
                            go_wp2_with (first | ((with_reducible refine gate_callee (f := 12) rfl ?_); refine goesL_ (some 62) rfl rfl Try.func12 (by kernel_rfl) rfl #[.string (a0.extract 0 (t395 : Int).toNat)] rfl (by (try simp only [List.map_toArray, List.map_cons, List.map_nil]); first | done | rfl | (simp only [List.length_drop, List.length_take]; rfl)) ?_; (with_reducible refine (lex_Lex.calls kj15 (a0.extract 0 (t395 : Int).toNat) t404 t405 t406 _ A23.out).mono ?_); rintro e w28 ⟨v407, rfl, ho0, hb⟩; refine ⟨_, rfl, ?_⟩; have n0_ := Aside0.mk (Kd.R_lower ho0 (below_size (by repeat (first | (with_reducible first | exact HB.out | apply below_alloc | apply pw_below_drewN | apply below_drew1) | exact HB.out)))); have n1_ := Aside0.mk (below_step (by repeat (first | (with_reducible first | exact HB.out | apply below_alloc | apply pw_below_drewN | apply below_drew1) | exact HB.out)) hb); clear HB; have HO408 := n0_; have HB := n1_; clear n0_ n1_; (try clear hb); (try clear hb2); (try clear hk); (try clear hi); (try clear ho0)))
                            go_ret
                            exact ⟨by first | rfl | (simp [errW_none, errW_some] <;> rfl) | (simp [*, errW_none, errW_some] <;> rfl), by repeat (first | (with_reducible first | exact HB.out | apply below_alloc | apply pw_below_drewN | apply below_drew1) | exact HB.out)⟩
                        · rw [if_neg c22] at H
                          exact absurd H (by simp)
                      · rw [if_neg c21] at H
                        exact absurd H (by simp)
              · rw [if_neg c14] at H
                exact absurd H (by simp)
            · rw [if_neg c13] at H
              exact absurd H (by simp)
  · replace c4 := Bool.eq_false_iff.mpr c4
    subst c4
    have H1 : (some false) = some r := by rw [if_neg (show ¬ (false = true) by decide)] at H; exact H
    clear H
    have H := H1
    clear H1
    obtain rfl := Option.some.inj H
    go_enter Try.func9, Try.ntmps9
    go_wp2_with (first | ((with_reducible refine gate_callee (f := 10) rfl ?_); refine goesL_ (some 14) rfl rfl Try.func10 (by kernel_rfl) rfl #[] rfl (by (try simp only [List.map_toArray, List.map_cons, List.map_nil]); first | done | rfl | (simp only [List.length_drop, List.length_take]; rfl)) ?_; (with_reducible refine (stratumlaw08_lives.calls k  false _ A3.out).mono ?_); rintro e w29 ⟨rfl, hb⟩; refine ⟨_, rfl, ?_⟩; have n0_ := Aside0.mk (below_step (by repeat (first | (with_reducible first | exact HB.out | apply below_alloc | apply pw_below_drewN | apply below_drew1) | exact HB.out)) hb); clear HB; have HB := n0_; clear n0_; (try clear hb); (try clear hb2); (try clear hk); (try clear hi)))
    go_ret
    exact ⟨by first | rfl | (simp [errW_none, errW_some] <;> rfl) | (simp [*, errW_none, errW_some] <;> rfl), by repeat (first | (with_reducible first | exact HB.out | apply below_alloc | apply pw_below_drewN | apply below_drew1) | exact HB.out)⟩

/-- THE ONE PURE STATEMENT of stratumlaw08_LexFaults: yours. -/
def stratumlaw08_LexFaults.Pure : Prop := ∀ (a0 : ByteArray) (a1 : ByteArray), a0.size ≤ 140737488351232 → a1.size ≤ 140737488351232 → ∃ k, stratumlaw08_LexFaults.f k a0 a1 = some true
theorem stratumlaw08_LexFaults.walk (P : stratumlaw08_LexFaults.Pure) (a0 : ByteArray) (a1 : ByteArray) (w : World) (w0 : a0.size ≤ 140737488351232) (w1 : a1.size ≤ 140737488351232) :
    Calls Try.prog 9 #[.string a0, .string a1] w fun e w' => e = .returned (.bool true) ∧ Below w.heap.size w w' := by
  obtain ⟨k, h⟩ := P a0 a1 w0 w1
  refine (stratumlaw08_LexFaults.calls k a0 a1 true w h).mono ?_
  rintro e w' ⟨rfl, hd⟩
  exact ⟨rfl, hd⟩

end Go.Proofs.Ytedhkelochpdnaa.X
