/- Walks and plain laws behind ParseValues. Conditions: those in the theorems. -/
import Derived.KernelRfl
import Derived.Test.YtbdcndkafaajpaaBParseValues0
import Derived.Test.YtbdcndkafaajpaaBParseValues1
import Derived.Test.YtbdcndkafaajpaaBParseValues2
import Derived.Test.YtbdcndkafaajpaaBParseValues3
import Derived.Test.YtbdcndkafaajpaaBParseValues4
set_option linter.unusedVariables false
set_option linter.unusedSimpArgs false
set_option maxHeartbeats 16000000
set_option maxRecDepth 100000
section
namespace Go.Proofs.Ytbdcndkafaajpaa.X
open Go.RowKit YtbdcndkafaajpaaW.PrintWords YtbdcndkafaajpaaW.PrintLast YtbdcndkafaajpaaW.PrintMore
attribute [local go_sem] Qdl Qdj Qef Qee Qc9 Qc8 Qdk Qdi
mutual
def Qak.j0 : Nat → ByteArray → Int → Int → Bool → Option (Int × Int)
 | 0, _, _, _, _ => none
 | k + 1, x0, x1, x14, x15 => if x15 = true then (if 0 ≤ (wrap64 (x1 + 1)) then (if (wrap64 (x1 + 1)) < (x0.size : Int) then (some (bt x0 (wrap64 (x1 + 1)), 2)) else (none)) else (none)) else (if x14 = 110 then (some (10, 2)) else (if x14 = 116 then (some (9, 2)) else (if x14 = 120 then (if (wrap64 (x1 + 3)) < (x0.size : Int) then (if 0 ≤ (wrap64 (x1 + 2)) then (if (wrap64 (x1 + 2)) < (x0.size : Int) then ((Qam.f k (bt x0 (wrap64 (x1 + 2)))).bind fun t155 => (if t155 ≥ 0 then (if 0 ≤ (wrap64 (x1 + 3)) then ((Qam.f k (bt x0 (wrap64 (x1 + 3)))).bind fun t156 => (Qak.j1 k x0 x1 (decide (t156 ≥ 0)))) else (none)) else (Qak.j1 k x0 x1 false))) else (none)) else (none)) else (Qak.j1 k x0 x1 false)) else (some (0, 0)))))
def Qak.j1 : Nat → ByteArray → Int → Bool → Option (Int × Int)
 | 0, _, _, _ => none
 | k + 1, x0, x1, x48 => if x48 = true then (if 0 ≤ (wrap64 (x1 + 2)) then (if (wrap64 (x1 + 2)) < (x0.size : Int) then ((Qam.f k (bt x0 (wrap64 (x1 + 2)))).bind fun t157 => (if 0 ≤ (wrap64 (x1 + 3)) then (if (wrap64 (x1 + 3)) < (x0.size : Int) then ((Qam.f k (bt x0 (wrap64 (x1 + 3)))).bind fun t158 => (some ((wrap64 ((wrap64 (16 * t157)) + t158)) % 256, 4))) else (none)) else (none))) else (none)) else (none)) else (some (0, 0))
end
def Qak.f (k : Nat) (a0 : ByteArray) (a1 : Int) : Option (Int × Int) := if (wrap64 (a1 + 1)) ≥ (a0.size : Int) then (some (0, 0)) else (if 0 ≤ (wrap64 (a1 + 1)) then (if (wrap64 (a1 + 1)) < (a0.size : Int) then (if (bt a0 (wrap64 (a1 + 1))) = 92 then (Qak.j0 k a0 a1 (bt a0 (wrap64 (a1 + 1))) ((bt a0 (wrap64 (a1 + 1))) == 92)) else (Qak.j0 k a0 a1 (bt a0 (wrap64 (a1 + 1))) ((bt a0 (wrap64 (a1 + 1))) == 34))) else (none)) else (none))
theorem Qak.calls (k : Nat) (a0 : ByteArray) (a1 : Int) (r1 : Int) (r2 : Int) (w : World) (h : Qak.f k a0 a1 = some (r1, r2)) :
  Calls Try.prog 84 #[.string a0, .int .i64 a1] w fun e w' => e = .returned (.tuple #[.int .u8 r1, .int .i64 r2]) ∧ Qa9 w w' := by
 have H : (if (wrap64 (a1 + 1)) ≥ (a0.size : Int) then (some (0, 0)) else (if 0 ≤ (wrap64 (a1 + 1)) then (if (wrap64 (a1 + 1)) < (a0.size : Int) then (if (bt a0 (wrap64 (a1 + 1))) = 92 then (Qak.j0 k a0 a1 (bt a0 (wrap64 (a1 + 1))) ((bt a0 (wrap64 (a1 + 1))) == 92)) else (Qak.j0 k a0 a1 (bt a0 (wrap64 (a1 + 1))) ((bt a0 (wrap64 (a1 + 1))) == 34))) else (none)) else (none))) = some (r1, r2) := h
 clear h
 by_cases c3 : (wrap64 (a1 + 1)) ≥ (a0.size : Int)
 ·rw [if_pos c3] at H
  have c3b0 : decide ((a0.size : Int) ≤ (wrap64 (a1 + 1))) = true := decide_eq_true c3
  clear c3
  simp only [Option.some.injEq, Prod.mk.injEq] at H
  obtain ⟨rfl, rfl⟩ := H
  go_enter Try.func84, Try.ntmps84
  go_wp2
  repeat (go_quiet (fail); try go_wp2)
  go_ret2
  exact eQ
 ·rw [if_neg c3] at H
  have c3b0 : decide ((a0.size : Int) ≤ (wrap64 (a1 + 1))) = false := decide_eq_false c3
  clear c3
  obtain ⟨ji4, hji4⟩ : ∃ j_ : Int, (wrap64 (a1 + 1)) = j_ := ⟨_, rfl⟩
  replace H : (if 0 ≤ (ji4) then (if (ji4) < (a0.size : Int) then (if (bt a0 (ji4)) = 92 then (Qak.j0 k a0 a1 (bt a0 (ji4)) ((bt a0 (ji4)) == 92)) else (Qak.j0 k a0 a1 (bt a0 (ji4)) ((bt a0 (ji4)) == 34))) else (none)) else (none)) = some (r1, r2) := by first | (rw [hji4] at H; exact H) | (simp only [hji4] at H ⊢; exact H)
  (try rw [hji4] at c3b0)
  have hji4w : (IntKind.i64.wrap (a1 + 1)) = ji4 := (Qbg _).trans hji4
  by_cases c5 : 0 ≤ (ji4)
  ·rw [if_pos c5] at H
   have c5b0 : decide (0 ≤ (ji4)) = true := decide_eq_true c5
   clear c5
   by_cases c6 : (ji4) < (a0.size : Int)
   ·rw [if_pos c6] at H
    have c6b0 : decide ((ji4) < (a0.size : Int)) = true := decide_eq_true c6
    clear c6
    have HC8 := J0.m H
    clear H
    have p7 : 0 ≤ ((ji4) : Int) := dQ
    have q7 : (ji4) < (a0.size : Int) := dQ
    have hx7 := Qbx a0 (ji4)
    replace p7 := eq_true p7
    replace q7 := eq_true q7
    go_enter Try.func84, Try.ntmps84
    go_upto_if 15 with (fail)
    repeat (go_quiet (fail); go_upto_if 15 with (fail))
    go_cut [15] (fun v15 wc => ∃ (kq : Nat) (x15_7 : Bool), v15 = .bool x15_7 ∧ J0 (Qak.j0 kq a0 a1 (bt a0 (ji4)) x15_7 = some (r1, r2)) ∧ J0 (kq ≤ k) ∧ Qa9 w wc)
    case first =>
     have H := HC8.o
     clear HC8
     by_cases c9 : (bt a0 (ji4)) = 92
     ·rw [if_pos c9] at H
      have c9b0 : ((bt a0 (ji4)) == 92) = true := beq_iff_eq.mpr c9
      have c9b1 : ((bt a0 (ji4)) != 92) = false := bne_eq_false_iff_eq.mpr c9
      clear c9
      (first | rw [c9b0] | (simp only [Qbg, Qbs]; rw [c9b0]) | skip)
      have H' := J0.m H
      clear H
      go_wp2
      repeat (go_quiet (fail); try go_wp2)
      go_meet
      case rel => exact ⟨_, (((bt a0 (ji4)) == 92)), (by first | rfl | (simp; done) | (simp [*]; done) | (simp [Qbg, IntKind.wrap_u8]; done) | ((try simp only [← hji4]); (first | rfl | (simp; done))) | (simp [*]; done)), H', ⟨by first | omega | exact Nat.le_refl _⟩, dR⟩
     ·rw [if_neg c9] at H
      have c9b0 : ((bt a0 (ji4)) == 92) = false := beq_eq_false_iff_ne.mpr c9
      have c9b1 : ((bt a0 (ji4)) != 92) = true := bne_iff_ne.mpr c9
      (first | rw [c9b0] | (simp only [Qbg, Qbs]; rw [c9b0]) | skip)
      have H' := J0.m H
      clear H
      go_wp2
      repeat (go_quiet (fail); try go_wp2)
      go_meet
      case rel => exact ⟨_, (((bt a0 (ji4)) == 34)), (by first | rfl | (simp; done) | (simp [*]; done) | (simp [Qbg, IntKind.wrap_u8]; done) | ((try simp only [← hji4]); (first | rfl | (simp; done))) | (simp [*]; done)), H', ⟨by first | omega | exact Nat.le_refl _⟩, dR⟩
    case rest =>
     clear HC8
     try clear p2
     try clear c3
     try clear c3b0
     try clear c5
     try clear c5b0
     try clear c6
     try clear c6b0
     try clear p6
     try clear p7
     try clear q7
     try clear hx7
     try clear c8
     try clear c9
     try clear c9b0
     try clear c9b1
     try clear p7
     try clear q7
     obtain ⟨kq, x15_7, rfl, HA, HJ7, ⟨mc7, rfl⟩⟩ := hcut
     cases kq with
     | zero => exact absurd HA.o (by simp [Qak.j0])
     | succ kj7 =>
      have H := HA.o
      clear HA
      simp only [Qak.j0] at H
      by_cases c10 : x15_7 = true
      ·subst c10
       have H1 : (if 0 ≤ (wrap64 (a1 + 1)) then (if (wrap64 (a1 + 1)) < (a0.size : Int) then (some (bt a0 (wrap64 (a1 + 1)), 2)) else (none)) else (none)) = some (r1, r2) := by rw [if_pos rfl] at H; exact H
       clear H
       have H := H1
       clear H1
       try clear hji4
       try clear hji4w
       obtain ⟨ji11, hji11⟩ : ∃ j_ : Int, (wrap64 (a1 + 1)) = j_ := ⟨_, rfl⟩
       replace H : (if 0 ≤ (ji11) then (if (ji11) < (a0.size : Int) then (some (bt a0 (ji11), 2)) else (none)) else (none)) = some (r1, r2) := by first | (rw [hji11] at H; exact H) | (simp only [hji11] at H ⊢; exact H)
       (try rw [hji11] at c3b0)
       have hji11w : (IntKind.i64.wrap (a1 + 1)) = ji11 := (Qbg _).trans hji11
       by_cases c12 : 0 ≤ (ji11)
       ·rw [if_pos c12] at H
        have c12b0 : decide (0 ≤ (ji11)) = true := decide_eq_true c12
        clear c12
        by_cases c13 : (ji11) < (a0.size : Int)
        ·rw [if_pos c13] at H
         have c13b0 : decide ((ji11) < (a0.size : Int)) = true := decide_eq_true c13
         clear c13
         simp only [Option.some.injEq, Prod.mk.injEq] at H
         obtain ⟨rfl, rfl⟩ := H
         have p14 : 0 ≤ ((ji11) : Int) := dQ
         have q14 : (ji11) < (a0.size : Int) := dQ
         have hx14 := Qbx a0 (ji11)
         replace p14 := eq_true p14
         replace q14 := eq_true q14
         go_wp2
         repeat (go_quiet (fail); try go_wp2)
         go_ret2
         exact ⟨by first | rfl | (simp; done) | (simp [*]; done) | (simp [Qbg, IntKind.wrap_u8]; done) | ((try simp only [← hji4]); (try simp only [← hji11]); (first | rfl | (simp; done))) | (simp [*]; done), dR⟩
        ·rw [if_neg c13] at H
         exact absurd H (by simp)
       ·rw [if_neg c12] at H
        exact absurd H (by simp)
      ·replace c10 := Bool.eq_false_iff.mpr c10
       subst c10
       have H1 : (if (bt a0 (ji4)) = 110 then (some (10, 2)) else (if (bt a0 (ji4)) = 116 then (some (9, 2)) else (if (bt a0 (ji4)) = 120 then (if (wrap64 (a1 + 3)) < (a0.size : Int) then (if 0 ≤ (wrap64 (a1 + 2)) then (if (wrap64 (a1 + 2)) < (a0.size : Int) then ((Qam.f kj7 (bt a0 (wrap64 (a1 + 2)))).bind fun t155 => (if t155 ≥ 0 then (if 0 ≤ (wrap64 (a1 + 3)) then ((Qam.f kj7 (bt a0 (wrap64 (a1 + 3)))).bind fun t156 => (Qak.j1 kj7 a0 a1 (decide (t156 ≥ 0)))) else (none)) else (Qak.j1 kj7 a0 a1 false))) else (none)) else (none)) else (Qak.j1 kj7 a0 a1 false)) else (some (0, 0))))) = some (r1, r2) := by rw [if_neg (show ¬ (false = true) by decide)] at H; exact H
       clear H
       have H := H1
       clear H1
       by_cases c15 : (bt a0 (ji4)) = 110
       ·rw [if_pos c15] at H
        have c15b0 : ((bt a0 (ji4)) == 110) = true := beq_iff_eq.mpr c15
        have c15b1 : ((bt a0 (ji4)) != 110) = false := bne_eq_false_iff_eq.mpr c15
        clear c15
        simp only [Option.some.injEq, Prod.mk.injEq] at H
        obtain ⟨rfl, rfl⟩ := H
        go_wp2
        repeat (go_quiet (fail); try go_wp2)
        go_ret2
        exact ⟨by first | rfl | (simp; done) | (simp [*]; done) | (simp [Qbg, IntKind.wrap_u8]; done) | ((try simp only [← hji4]); (first | rfl | (simp; done))) | (simp [*]; done), dR⟩
       ·rw [if_neg c15] at H
        have c15b0 : ((bt a0 (ji4)) == 110) = false := beq_eq_false_iff_ne.mpr c15
        have c15b1 : ((bt a0 (ji4)) != 110) = true := bne_iff_ne.mpr c15
        by_cases c16 : (bt a0 (ji4)) = 116
        ·rw [if_pos c16] at H
         have c16b0 : ((bt a0 (ji4)) == 116) = true := beq_iff_eq.mpr c16
         have c16b1 : ((bt a0 (ji4)) != 116) = false := bne_eq_false_iff_eq.mpr c16
         clear c16
         simp only [Option.some.injEq, Prod.mk.injEq] at H
         obtain ⟨rfl, rfl⟩ := H
         go_wp2
         repeat (go_quiet (fail); try go_wp2)
         go_ret2
         exact ⟨by first | rfl | (simp; done) | (simp [*]; done) | (simp [Qbg, IntKind.wrap_u8]; done) | ((try simp only [← hji4]); (first | rfl | (simp; done))) | (simp [*]; done), dR⟩
        ·rw [if_neg c16] at H
         have c16b0 : ((bt a0 (ji4)) == 116) = false := beq_eq_false_iff_ne.mpr c16
         have c16b1 : ((bt a0 (ji4)) != 116) = true := bne_iff_ne.mpr c16
         by_cases c17 : (bt a0 (ji4)) = 120
         ·rw [if_pos c17] at H
          have c17b0 : ((bt a0 (ji4)) == 120) = true := beq_iff_eq.mpr c17
          have c17b1 : ((bt a0 (ji4)) != 120) = false := bne_eq_false_iff_eq.mpr c17
          clear c17
          have HC18 := J0.m H
          clear H
          go_upto_region 12 with (fail)
          repeat (go_quiet (fail); go_upto_region 12 with (fail))
          go_cut [48] (fun v48 wc => ∃ (kq : Nat) (x48_17 : Bool), v48 = .bool x48_17 ∧ J0 (Qak.j1 kq a0 a1 x48_17 = some (r1, r2)) ∧ J0 (kq ≤ kj7) ∧ Qa9 w wc)
          case first =>
           have H := HC18.o
           clear HC18
           by_cases c19 : (wrap64 (a1 + 3)) < (a0.size : Int)
           ·rw [if_pos c19] at H
            have c19b0 : decide ((wrap64 (a1 + 3)) < (a0.size : Int)) = true := decide_eq_true c19
            clear c19
            (first | rw [c19b0] | (simp only [Qbg, Qbs]; rw [c19b0]) | skip)
            obtain ⟨ji20, hji20⟩ : ∃ j_ : Int, (wrap64 (a1 + 2)) = j_ := ⟨_, rfl⟩
            replace H : (if 0 ≤ (ji20) then (if (ji20) < (a0.size : Int) then ((Qam.f kj7 (bt a0 (ji20))).bind fun t155 => (if t155 ≥ 0 then (if 0 ≤ (wrap64 (a1 + 3)) then ((Qam.f kj7 (bt a0 (wrap64 (a1 + 3)))).bind fun t156 => (Qak.j1 kj7 a0 a1 (decide (t156 ≥ 0)))) else (none)) else (Qak.j1 kj7 a0 a1 false))) else (none)) else (none)) = some (r1, r2) := by first | (rw [hji20] at H; exact H) | (simp only [hji20] at H ⊢; exact H)
            have hji20w : (IntKind.i64.wrap (a1 + 2)) = ji20 := (Qbg _).trans hji20
            by_cases c21 : 0 ≤ (ji20)
            ·rw [if_pos c21] at H
             have c21b0 : decide (0 ≤ (ji20)) = true := decide_eq_true c21
             clear c21
             by_cases c22 : (ji20) < (a0.size : Int)
             ·rw [if_pos c22] at H
              have c22b0 : decide ((ji20) < (a0.size : Int)) = true := decide_eq_true c22
              clear c22
              replace H := Option.bind_eq_some_iff.mp H
              obtain ⟨t155, A240, H⟩ := H
              replace H : (if t155 ≥ 0 then (if 0 ≤ (wrap64 (a1 + 3)) then ((Qam.f kj7 (bt a0 (wrap64 (a1 + 3)))).bind fun t156 => (Qak.j1 kj7 a0 a1 (decide (t156 ≥ 0)))) else (none)) else (Qak.j1 kj7 a0 a1 false)) = some (r1, r2) := H
              have A24 := J0.m A240
              clear A240
              by_cases c25 : t155 ≥ 0
              ·rw [if_pos c25] at H
               have c25b0 : decide (0 ≤ t155) = true := decide_eq_true c25
               clear c25
               obtain ⟨ji26, hji26⟩ : ∃ j_ : Int, (wrap64 (a1 + 3)) = j_ := ⟨_, rfl⟩
               replace H : (if 0 ≤ (ji26) then ((Qam.f kj7 (bt a0 (ji26))).bind fun t156 => (Qak.j1 kj7 a0 a1 (decide (t156 ≥ 0)))) else (none)) = some (r1, r2) := by first | (rw [hji26] at H; exact H) | (simp only [hji26] at H ⊢; exact H)
               (try rw [hji26] at c19b0)
               (try rw [hji26] at A24)
               have hji26w : (IntKind.i64.wrap (a1 + 3)) = ji26 := (Qbg _).trans hji26
               by_cases c27 : 0 ≤ (ji26)
               ·rw [if_pos c27] at H
                have c27b0 : decide (0 ≤ (ji26)) = true := decide_eq_true c27
                clear c27
                replace H := Option.bind_eq_some_iff.mp H
                obtain ⟨t156, A290, H⟩ := H
                replace H : (Qak.j1 kj7 a0 a1 (decide (t156 ≥ 0))) = some (r1, r2) := H
                have A29 := J0.m A290
                clear A290
                have H' := J0.m H
                clear H
                have p23 : 0 ≤ ((ji20) : Int) := dQ
                have q23 : (ji20) < (a0.size : Int) := dQ
                have hx23 := Qbx a0 (ji20)
                replace p23 := eq_true p23
                replace q23 := eq_true q23
                go_wp2_with (first | (go_at_call 92; (with_reducible refine (Qam.calls kj7 (bt a0 (ji20)) t155 _ A24.o).mono ?_); rintro e w' ⟨rfl, ⟨nd, rfl⟩⟩; (try first | exact ⟨rfl, _, World.drewN_drewN _ _ _⟩ | exact ⟨rfl, _, Eq.trans (World.drewN_drewN _ _ _) (congrArg (World.drewN _) (Nat.add_assoc _ _ _))⟩); have p28 : 0 ≤ ((ji26) : Int) := dQ; have q28 : (ji26) < (a0.size : Int) := dQ; have hx28 := Qbx a0 (ji26); replace p28 := eq_true p28; replace q28 := eq_true q28) | (go_at_call 92; (with_reducible refine (Qam.calls kj7 (bt a0 (ji26)) t156 _ A29.o).mono ?_); rintro e w' ⟨rfl, ⟨nd, rfl⟩⟩; (try first | exact ⟨rfl, _, World.drewN_drewN _ _ _⟩ | exact ⟨rfl, _, Eq.trans (World.drewN_drewN _ _ _) (congrArg (World.drewN _) (Nat.add_assoc _ _ _))⟩)))
                repeat (go_quiet (first | (go_at_call 92; (with_reducible refine (Qam.calls kj7 (bt a0 (ji20)) t155 _ A24.o).mono ?_); rintro e w' ⟨rfl, ⟨nd, rfl⟩⟩; (try first | exact ⟨rfl, _, World.drewN_drewN _ _ _⟩ | exact ⟨rfl, _, Eq.trans (World.drewN_drewN _ _ _) (congrArg (World.drewN _) (Nat.add_assoc _ _ _))⟩); have p28 : 0 ≤ ((ji26) : Int) := dQ; have q28 : (ji26) < (a0.size : Int) := dQ; have hx28 := Qbx a0 (ji26); replace p28 := eq_true p28; replace q28 := eq_true q28) | (go_at_call 92; (with_reducible refine (Qam.calls kj7 (bt a0 (ji26)) t156 _ A29.o).mono ?_); rintro e w' ⟨rfl, ⟨nd, rfl⟩⟩; (try first | exact ⟨rfl, _, World.drewN_drewN _ _ _⟩ | exact ⟨rfl, _, Eq.trans (World.drewN_drewN _ _ _) (congrArg (World.drewN _) (Nat.add_assoc _ _ _))⟩))); try go_wp2_with (first | (go_at_call 92; (with_reducible refine (Qam.calls kj7 (bt a0 (ji20)) t155 _ A24.o).mono ?_); rintro e w' ⟨rfl, ⟨nd, rfl⟩⟩; (try first | exact ⟨rfl, _, World.drewN_drewN _ _ _⟩ | exact ⟨rfl, _, Eq.trans (World.drewN_drewN _ _ _) (congrArg (World.drewN _) (Nat.add_assoc _ _ _))⟩); have p28 : 0 ≤ ((ji26) : Int) := dQ; have q28 : (ji26) < (a0.size : Int) := dQ; have hx28 := Qbx a0 (ji26); replace p28 := eq_true p28; replace q28 := eq_true q28) | (go_at_call 92; (with_reducible refine (Qam.calls kj7 (bt a0 (ji26)) t156 _ A29.o).mono ?_); rintro e w' ⟨rfl, ⟨nd, rfl⟩⟩; (try first | exact ⟨rfl, _, World.drewN_drewN _ _ _⟩ | exact ⟨rfl, _, Eq.trans (World.drewN_drewN _ _ _) (congrArg (World.drewN _) (Nat.add_assoc _ _ _))⟩))))
                go_meet
                case rel => exact ⟨_, (decide (t156 ≥ 0)), (by first | rfl | (simp; done) | (simp [*]; done)), H', ⟨by have := HJ7.o; first | omega | exact Nat.le_refl _⟩, dR⟩
               ·rw [if_neg c27] at H
                exact absurd H (by simp)
              ·rw [if_neg c25] at H
               have c25b0 : decide (0 ≤ t155) = false := decide_eq_false c25
               clear c25
               have H' := J0.m H
               clear H
               have p23 : 0 ≤ ((ji20) : Int) := dQ
               have q23 : (ji20) < (a0.size : Int) := dQ
               have hx23 := Qbx a0 (ji20)
               replace p23 := eq_true p23
               replace q23 := eq_true q23
               go_wp2_with (first | (go_at_call 92; (with_reducible refine (Qam.calls kj7 (bt a0 (ji20)) t155 _ A24.o).mono ?_); rintro e w' ⟨rfl, ⟨nd, rfl⟩⟩; (try first | exact ⟨rfl, _, World.drewN_drewN _ _ _⟩ | exact ⟨rfl, _, Eq.trans (World.drewN_drewN _ _ _) (congrArg (World.drewN _) (Nat.add_assoc _ _ _))⟩)))
               repeat (go_quiet (first | (go_at_call 92; (with_reducible refine (Qam.calls kj7 (bt a0 (ji20)) t155 _ A24.o).mono ?_); rintro e w' ⟨rfl, ⟨nd, rfl⟩⟩; (try first | exact ⟨rfl, _, World.drewN_drewN _ _ _⟩ | exact ⟨rfl, _, Eq.trans (World.drewN_drewN _ _ _) (congrArg (World.drewN _) (Nat.add_assoc _ _ _))⟩))); try go_wp2_with (first | (go_at_call 92; (with_reducible refine (Qam.calls kj7 (bt a0 (ji20)) t155 _ A24.o).mono ?_); rintro e w' ⟨rfl, ⟨nd, rfl⟩⟩; (try first | exact ⟨rfl, _, World.drewN_drewN _ _ _⟩ | exact ⟨rfl, _, Eq.trans (World.drewN_drewN _ _ _) (congrArg (World.drewN _) (Nat.add_assoc _ _ _))⟩))))
               go_meet
               case rel => exact ⟨_, (false), (by first | rfl | (simp; done) | (simp [*]; done)), H', ⟨by have := HJ7.o; first | omega | exact Nat.le_refl _⟩, dR⟩
             ·rw [if_neg c22] at H
              exact absurd H (by simp)
            ·rw [if_neg c21] at H
             exact absurd H (by simp)
           ·rw [if_neg c19] at H
            have c19b0 : decide ((wrap64 (a1 + 3)) < (a0.size : Int)) = false := decide_eq_false c19
            clear c19
            (first | rw [c19b0] | (simp only [Qbg, Qbs]; rw [c19b0]) | skip)
            have H' := J0.m H
            clear H
            go_wp2
            repeat (go_quiet (fail); try go_wp2)
            go_meet
            case rel => exact ⟨_, (false), (by first | rfl | (simp; done) | (simp [*]; done)), H', ⟨by have := HJ7.o; first | omega | exact Nat.le_refl _⟩, dR⟩
          case rest =>
           clear HC18
           try clear c1
           try clear p1
           try clear q1
           try clear hx1
           try clear c2
           try clear p2
           try clear q2
           try clear hx2
           try clear c3
           try clear c3b0
           try clear c5
           try clear c5b0
           try clear c6
           try clear c6b0
           try clear p6
           try clear c7
           try clear p7
           try clear q7
           try clear hx7
           try clear c8
           try clear c9
           try clear c9b0
           try clear c9b1
           try clear c10
           try clear c12
           try clear c12b0
           try clear c13
           try clear c13b0
           try clear p14
           try clear q14
           try clear hx14
           try clear c15
           try clear c15b0
           try clear c15b1
           try clear c16
           try clear c16b0
           try clear c16b1
           try clear c17
           try clear c17b0
           try clear c17b1
           try clear c19
           try clear c19b0
           try clear c21
           try clear c21b0
           try clear c22
           try clear c22b0
           try clear p23
           try clear q23
           try clear hx23
           try clear c25
           try clear c25b0
           try clear c27
           try clear c27b0
           try clear p28
           try clear q28
           try clear hx28
           try clear p14
           try clear p2
           try clear p23
           try clear p28
           try clear p6
           try clear p7
           try clear q14
           try clear q23
           try clear q28
           try clear q7
           obtain ⟨kq, x48_17, rfl, HA, HJ17, ⟨mc17, rfl⟩⟩ := hcut
           cases kq with
           | zero => exact absurd HA.o (by simp [Qak.j1])
           | succ kj17 =>
            have H := HA.o
            clear HA
            simp only [Qak.j1] at H
            by_cases c30 : x48_17 = true
            ·subst c30
             have H1 : (if 0 ≤ (wrap64 (a1 + 2)) then (if (wrap64 (a1 + 2)) < (a0.size : Int) then ((Qam.f kj17 (bt a0 (wrap64 (a1 + 2)))).bind fun t157 => (if 0 ≤ (wrap64 (a1 + 3)) then (if (wrap64 (a1 + 3)) < (a0.size : Int) then ((Qam.f kj17 (bt a0 (wrap64 (a1 + 3)))).bind fun t158 => (some ((wrap64 ((wrap64 (16 * t157)) + t158)) % 256, 4))) else (none)) else (none))) else (none)) else (none)) = some (r1, r2) := by rw [if_pos rfl] at H; exact H
             clear H
             have H := H1
             clear H1
             try clear hji20
             try clear hji20w
             obtain ⟨ji31, hji31⟩ : ∃ j_ : Int, (wrap64 (a1 + 2)) = j_ := ⟨_, rfl⟩
             replace H : (if 0 ≤ (ji31) then (if (ji31) < (a0.size : Int) then ((Qam.f kj17 (bt a0 (ji31))).bind fun t157 => (if 0 ≤ (wrap64 (a1 + 3)) then (if (wrap64 (a1 + 3)) < (a0.size : Int) then ((Qam.f kj17 (bt a0 (wrap64 (a1 + 3)))).bind fun t158 => (some ((wrap64 ((wrap64 (16 * t157)) + t158)) % 256, 4))) else (none)) else (none))) else (none)) else (none)) = some (r1, r2) := by first | (rw [hji31] at H; exact H) | (simp only [hji31] at H ⊢; exact H)
             have hji31w : (IntKind.i64.wrap (a1 + 2)) = ji31 := (Qbg _).trans hji31
             by_cases c32 : 0 ≤ (ji31)
             ·rw [if_pos c32] at H
              have c32b0 : decide (0 ≤ (ji31)) = true := decide_eq_true c32
              clear c32
              by_cases c33 : (ji31) < (a0.size : Int)
              ·rw [if_pos c33] at H
               have c33b0 : decide ((ji31) < (a0.size : Int)) = true := decide_eq_true c33
               clear c33
               replace H := Option.bind_eq_some_iff.mp H
               obtain ⟨t157, A350, H⟩ := H
               replace H : (if 0 ≤ (wrap64 (a1 + 3)) then (if (wrap64 (a1 + 3)) < (a0.size : Int) then ((Qam.f kj17 (bt a0 (wrap64 (a1 + 3)))).bind fun t158 => (some ((wrap64 ((wrap64 (16 * t157)) + t158)) % 256, 4))) else (none)) else (none)) = some (r1, r2) := H
               have A35 := J0.m A350
               clear A350
               try clear hji26
               try clear hji26w
               obtain ⟨ji36, hji36⟩ : ∃ j_ : Int, (wrap64 (a1 + 3)) = j_ := ⟨_, rfl⟩
               replace H : (if 0 ≤ (ji36) then (if (ji36) < (a0.size : Int) then ((Qam.f kj17 (bt a0 (ji36))).bind fun t158 => (some ((wrap64 ((wrap64 (16 * t157)) + t158)) % 256, 4))) else (none)) else (none)) = some (r1, r2) := by first | (rw [hji36] at H; exact H) | (simp only [hji36] at H ⊢; exact H)
               (try rw [hji36] at A35)
               have hji36w : (IntKind.i64.wrap (a1 + 3)) = ji36 := (Qbg _).trans hji36
               by_cases c37 : 0 ≤ (ji36)
               ·rw [if_pos c37] at H
                have c37b0 : decide (0 ≤ (ji36)) = true := decide_eq_true c37
                clear c37
                by_cases c38 : (ji36) < (a0.size : Int)
                ·rw [if_pos c38] at H
                 have c38b0 : decide ((ji36) < (a0.size : Int)) = true := decide_eq_true c38
                 clear c38
                 replace H := Option.bind_eq_some_iff.mp H
                 obtain ⟨t158, A400, H⟩ := H
                 replace H : (some ((wrap64 ((wrap64 (16 * t157)) + t158)) % 256, 4)) = some (r1, r2) := H
                 have A40 := J0.m A400
                 clear A400
                 simp only [Option.some.injEq, Prod.mk.injEq] at H
                 obtain ⟨rfl, rfl⟩ := H
                 have p34 : 0 ≤ ((ji31) : Int) := dQ
                 have q34 : (ji31) < (a0.size : Int) := dQ
                 have hx34 := Qbx a0 (ji31)
                 replace p34 := eq_true p34
                 replace q34 := eq_true q34
                 go_wp2_with (first | (go_at_call 92; (with_reducible refine (Qam.calls kj17 (bt a0 (ji31)) t157 _ A35.o).mono ?_); rintro e w' ⟨rfl, ⟨nd, rfl⟩⟩; (try first | exact ⟨rfl, _, World.drewN_drewN _ _ _⟩ | exact ⟨rfl, _, Eq.trans (World.drewN_drewN _ _ _) (congrArg (World.drewN _) (Nat.add_assoc _ _ _))⟩); have p39 : 0 ≤ ((ji36) : Int) := dQ; have q39 : (ji36) < (a0.size : Int) := dQ; have hx39 := Qbx a0 (ji36); replace p39 := eq_true p39; replace q39 := eq_true q39) | (go_at_call 92; (with_reducible refine (Qam.calls kj17 (bt a0 (ji36)) t158 _ A40.o).mono ?_); rintro e w' ⟨rfl, ⟨nd, rfl⟩⟩; (try first | exact ⟨rfl, _, World.drewN_drewN _ _ _⟩ | exact ⟨rfl, _, Eq.trans (World.drewN_drewN _ _ _) (congrArg (World.drewN _) (Nat.add_assoc _ _ _))⟩)))
                 repeat (go_quiet (first | (go_at_call 92; (with_reducible refine (Qam.calls kj17 (bt a0 (ji31)) t157 _ A35.o).mono ?_); rintro e w' ⟨rfl, ⟨nd, rfl⟩⟩; (try first | exact ⟨rfl, _, World.drewN_drewN _ _ _⟩ | exact ⟨rfl, _, Eq.trans (World.drewN_drewN _ _ _) (congrArg (World.drewN _) (Nat.add_assoc _ _ _))⟩); have p39 : 0 ≤ ((ji36) : Int) := dQ; have q39 : (ji36) < (a0.size : Int) := dQ; have hx39 := Qbx a0 (ji36); replace p39 := eq_true p39; replace q39 := eq_true q39) | (go_at_call 92; (with_reducible refine (Qam.calls kj17 (bt a0 (ji36)) t158 _ A40.o).mono ?_); rintro e w' ⟨rfl, ⟨nd, rfl⟩⟩; (try first | exact ⟨rfl, _, World.drewN_drewN _ _ _⟩ | exact ⟨rfl, _, Eq.trans (World.drewN_drewN _ _ _) (congrArg (World.drewN _) (Nat.add_assoc _ _ _))⟩))); try go_wp2_with (first | (go_at_call 92; (with_reducible refine (Qam.calls kj17 (bt a0 (ji31)) t157 _ A35.o).mono ?_); rintro e w' ⟨rfl, ⟨nd, rfl⟩⟩; (try first | exact ⟨rfl, _, World.drewN_drewN _ _ _⟩ | exact ⟨rfl, _, Eq.trans (World.drewN_drewN _ _ _) (congrArg (World.drewN _) (Nat.add_assoc _ _ _))⟩); have p39 : 0 ≤ ((ji36) : Int) := dQ; have q39 : (ji36) < (a0.size : Int) := dQ; have hx39 := Qbx a0 (ji36); replace p39 := eq_true p39; replace q39 := eq_true q39) | (go_at_call 92; (with_reducible refine (Qam.calls kj17 (bt a0 (ji36)) t158 _ A40.o).mono ?_); rintro e w' ⟨rfl, ⟨nd, rfl⟩⟩; (try first | exact ⟨rfl, _, World.drewN_drewN _ _ _⟩ | exact ⟨rfl, _, Eq.trans (World.drewN_drewN _ _ _) (congrArg (World.drewN _) (Nat.add_assoc _ _ _))⟩))))
                 go_ret2
                 exact ⟨by first | rfl | (simp; done) | (simp [*]; done) | (simp [Qbg, IntKind.wrap_u8]; done) | ((try simp only [← hji4]); (try simp only [← hji31]); (try simp only [← hji36]); (first | rfl | (simp; done))) | (simp [*]; done), dR⟩
                ·rw [if_neg c38] at H
                 exact absurd H (by simp)
               ·rw [if_neg c37] at H
                exact absurd H (by simp)
              ·rw [if_neg c33] at H
               exact absurd H (by simp)
             ·rw [if_neg c32] at H
              exact absurd H (by simp)
            ·replace c30 := Bool.eq_false_iff.mpr c30
             subst c30
             have H1 : (some (0, 0)) = some (r1, r2) := by rw [if_neg (show ¬ (false = true) by decide)] at H; exact H
             clear H
             have H := H1
             clear H1
             simp only [Option.some.injEq, Prod.mk.injEq] at H
             obtain ⟨rfl, rfl⟩ := H
             go_wp2
             repeat (go_quiet (fail); try go_wp2)
             go_ret2
             exact ⟨by first | rfl | (simp; done) | (simp [*]; done) | (simp [Qbg, IntKind.wrap_u8]; done) | ((try simp only [← hji4]); (first | rfl | (simp; done))) | (simp [*]; done), dR⟩
         ·rw [if_neg c17] at H
          have c17b0 : ((bt a0 (ji4)) == 120) = false := beq_eq_false_iff_ne.mpr c17
          have c17b1 : ((bt a0 (ji4)) != 120) = true := bne_iff_ne.mpr c17
          simp only [Option.some.injEq, Prod.mk.injEq] at H
          obtain ⟨rfl, rfl⟩ := H
          go_wp2
          repeat (go_quiet (fail); try go_wp2)
          go_ret2
          exact ⟨by first | rfl | (simp; done) | (simp [*]; done) | (simp [Qbg, IntKind.wrap_u8]; done) | ((try simp only [← hji4]); (first | rfl | (simp; done))) | (simp [*]; done), dR⟩
   ·rw [if_neg c6] at H
    exact absurd H (by simp)
  ·rw [if_neg c5] at H
   exact absurd H (by simp)
mutual
def Qao.l0 : Nat → ByteArray → Int → List Int → Int → Option (Int × ByteArray × Int × Int × Int × Int × Int)
 | 0, _, _, _, _ => none
 | k + 1, x0, x1, x7, x8 => if x8 < (x0.size : Int) then (if 0 ≤ x8 then (Qao.j1 k x0 x1 x7 x8 ((bt x0 x8) != 10)) else (none)) else (Qao.j1 k x0 x1 x7 x8 false)
def Qao.j1 : Nat → ByteArray → Int → List Int → Int → Bool → Option (Int × ByteArray × Int × Int × Int × Int × Int)
 | 0, _, _, _, _, _ => none
 | k + 1, x0, x1, x7, x8, x22 => if x22 = true then (if 0 ≤ x8 then (if x8 < (x0.size : Int) then (if (bt x0 x8) = 34 then (some (3, strOfNums x7, 0, x1, wrap64 (x8 + 1), 0, 0)) else (if (bt x0 x8) = 92 then ((Qak.f k x0 x8).bind fun bt160 => (if bt160.2 = 0 then (some (0, (⟨#[]⟩ : ByteArray), 0, 0, 0, x8, 82)) else (if x7.length < 140737488355328 then (Qao.l0 k x0 x1 (x7 ++ [bt160.1]) (wrap64 (x8 + bt160.2))) else (none)))) else (if x7.length < 140737488355328 then (Qao.l0 k x0 x1 (x7 ++ [bt x0 x8]) (wrap64 (x8 + 1))) else (none)))) else (none)) else (none)) else (some (0, (⟨#[]⟩ : ByteArray), 0, 0, 0, x1, 81))
end
def Qao.f (k : Nat) (a0 : ByteArray) (a1 : Int) : Option (Int × ByteArray × Int × Int × Int × Int × Int) := Qao.l0 k a0 a1 ([] : List Int) (wrap64 (a1 + 1))
theorem Qao.calls (k : Nat) (a0 : ByteArray) (a1 : Int) (r1 : Int) (r2 : ByteArray) (r3 : Int) (r4 : Int) (r5 : Int) (r6 : Int) (r7 : Int) (w : World) (h : Qao.f k a0 a1 = some (r1, r2, r3, r4, r5, r6, r7)) :
  Calls Try.prog 68 #[.string a0, .int .i64 a1] w fun e w' => e = .returned (.tuple #[.agg #[.int .i64 r1, .string r2, .int .u64 r3, .int .i64 r4, .int .i64 r5], .int .i64 r6, .int .i64 r7]) ∧ Below w.heap.size w w' := by
 have hu47 := Try.underlying47
 have HB := J0.m (Below.refl w.heap.size w)
 have H : (Qao.l0 k a0 a1 ([] : List Int) (wrap64 (a1 + 1))) = some (r1, r2, r3, r4, r5, r6, r7) := h
 clear h
 have H' := J0.m H
 clear H
 go_enter Try.func68, Try.ntmps68
 go_wp2_with (first | ((with_reducible refine Qbv (N := 4) rfl ?_); refine Qbn ?hg (N := 4) ?hd (cs := zT0) (t := 47) ?hr ?_; (case hd => rfl); (case hg => rfl); (case hr => first | (go_simp; done) | (go_simp; rfl)); intro gb159 hg w3 hbox hb; have n0_ := J0.m (Qap bR hb); have n1_ := J0.m (hbox); have n2_ := J0.m ((by rw [hg]; exact (Qa8 bR) : w.heap.size ≤ gb159)); have n3_ := n2_; clear HB; have HB := n0_; have BK159 := n1_; have GW159 := n2_; have GE159 := n3_; clear n0_ n1_ n2_ n3_; clear hb hbox hg))
 go_loopg [7, 8] k (fun kq v7 v8 w' => ∃ (x7_1 : List Int) (x8_1 : Int) (x160000_1 : Int) (x160001_1 : ByteArray) (x160002_1 : Int) (x160003_1 : Int) (x160004_1 : Int), v8 = .int .i64 x8_1 ∧ J0 (Qao.l0 kq a0 a1 x7_1 x8_1 = some (r1, r2, r3, r4, r5, r6, r7)) ∧ J0 (kq ≤ k) ∧ J0 (Kd.R (Kd.int .u8) 5 w' w.heap.size (fun _ => True) v7 x7_1) ∧ J0 (w'.heap[gb159]? = some (.cells #[.int .i64 x160000_1, .string x160001_1, .int .u64 x160002_1, .int .i64 x160003_1, .int .i64 x160004_1] 47 (0, 0))) ∧ J0 (Below w.heap.size w w'))
 case atStart => exact ⟨(([] : List Int)), (wrap64 (a1 + 1)), (0), ((⟨#[]⟩ : ByteArray)), (0), (0), (0), (by first | rfl | (simp; done) | (simp [*]; done)), H', ⟨Nat.le_refl _⟩, ⟨by first | exact Kd.Qdq _ _ _ _ _ | exact Kd.Qju _ _ _ _ _ | exact Kd.Qjo _ _ _ _ _ | exact Kd.Qjt _ _ _ _ _ | exact Kd.Qjq _ _ _ _ _⟩, ⟨by (with_reducible repeat (first | apply Qae | apply Qah | apply Qag)); exact BK159.o⟩, ⟨by repeat (first | (with_reducible first | exact HB.o | apply Qab | apply Qac | apply Qad | refine Qal ?_ GE159.o) | exact HB.o)⟩⟩
 case round =>
  clear H'
  try clear p2
  obtain ⟨x7_1, x8_1, x160000_1, x160001_1, x160002_1, x160003_1, x160004_1, rfl, HA, HK1, HO_7, BK159, HB⟩ := hrel
  cases gk with
  | zero => exact absurd HA.o (by simp [Qao.l0])
  | succ k1 =>
   have H := HA.o
   clear HA
   simp only [Qao.l0] at H
   have HC4 := J0.m H
   clear H
   go_upto_region 3 with (fail)
   go_cut [22] (fun v22 wc => ∃ (kq : Nat) (x22_3 : Bool), v22 = .bool x22_3 ∧ J0 (Qao.j1 kq a0 a1 x7_1 x8_1 x22_3 = some (r1, r2, r3, r4, r5, r6, r7)) ∧ J0 (kq ≤ k1) ∧ J0 (Kd.R (Kd.int .u8) 5 wc w.heap.size (fun _ => True) u7 x7_1) ∧ J0 (wc.heap[gb159]? = some (.cells #[.int .i64 x160000_1, .string x160001_1, .int .u64 x160002_1, .int .i64 x160003_1, .int .i64 x160004_1] 47 (0, 0))) ∧ J0 (Below w.heap.size w wc))
   case first =>
    have H := HC4.o
    clear HC4
    by_cases c5 : x8_1 < (a0.size : Int)
    ·rw [if_pos c5] at H
     have c5b0 : decide (x8_1 < (a0.size : Int)) = true := decide_eq_true c5
     clear c5
     (first | rw [c5b0] | (simp only [Qbg, Qbs]; rw [c5b0]) | skip)
     by_cases c6 : 0 ≤ x8_1
     ·rw [if_pos c6] at H
      have c6b0 : decide (0 ≤ x8_1) = true := decide_eq_true c6
      clear c6
      have H' := J0.m H
      clear H
      have p7 : 0 ≤ (x8_1 : Int) := dQ
      have q7 : x8_1 < (a0.size : Int) := dQ
      have hx7 := Qbx a0 x8_1
      replace p7 := eq_true p7
      replace q7 := eq_true q7
      go_wp2
      go_meet
      case rel => exact ⟨_, (((bt a0 x8_1) != 10)), (by first | rfl | (simp; done) | (simp [*]; done)), H', ⟨by have := HK1.o; first | omega | exact Nat.le_refl _⟩, ⟨by (with_reducible repeat (first | apply Kd.Qb2 | apply Kd.Qb1 | apply Kd.Qcg)); exact HO_7.o⟩, ⟨by (with_reducible repeat (first | apply Qae | apply Qah | apply Qag)); exact BK159.o⟩, ⟨by repeat (first | (with_reducible first | exact HB.o | apply Qab | apply Qac | apply Qad | refine Qal ?_ GE159.o) | exact HB.o)⟩⟩
     ·rw [if_neg c6] at H
      exact absurd H (by simp)
    ·rw [if_neg c5] at H
     have c5b0 : decide (x8_1 < (a0.size : Int)) = false := decide_eq_false c5
     clear c5
     (first | rw [c5b0] | (simp only [Qbg, Qbs]; rw [c5b0]) | skip)
     have H' := J0.m H
     clear H
     go_wp2
     go_meet
     case rel => exact ⟨_, (false), (by first | rfl | (simp; done) | (simp [*]; done)), H', ⟨by have := HK1.o; first | omega | exact Nat.le_refl _⟩, ⟨by (with_reducible repeat (first | apply Kd.Qb2 | apply Kd.Qb1 | apply Kd.Qcg)); exact HO_7.o⟩, ⟨by (with_reducible repeat (first | apply Qae | apply Qah | apply Qag)); exact BK159.o⟩, ⟨by repeat (first | (with_reducible first | exact HB.o | apply Qab | apply Qac | apply Qad | refine Qal ?_ GE159.o) | exact HB.o)⟩⟩
   case rest =>
    clear HC4
    try clear p2
    try clear c5
    try clear c5b0
    try clear c6
    try clear c6b0
    try clear p6
    try clear p7
    try clear q7
    try clear hx7
    try clear p2
    try clear p7
    try clear q7
    obtain ⟨kq, x22_3, rfl, HA, HJ3, HO_7, BK159, HB⟩ := hcut
    cases kq with
    | zero => exact absurd HA.o (by simp [Qao.j1])
    | succ kj3 =>
     have H := HA.o
     clear HA
     simp only [Qao.j1] at H
     by_cases c8 : x22_3 = true
     ·subst c8
      have H1 : (if 0 ≤ x8_1 then (if x8_1 < (a0.size : Int) then (if (bt a0 x8_1) = 34 then (some (3, strOfNums x7_1, 0, a1, wrap64 (x8_1 + 1), 0, 0)) else (if (bt a0 x8_1) = 92 then ((Qak.f kj3 a0 x8_1).bind fun bt160 => (if bt160.2 = 0 then (some (0, (⟨#[]⟩ : ByteArray), 0, 0, 0, x8_1, 82)) else (if x7_1.length < 140737488355328 then (Qao.l0 kj3 a0 a1 (x7_1 ++ [bt160.1]) (wrap64 (x8_1 + bt160.2))) else (none)))) else (if x7_1.length < 140737488355328 then (Qao.l0 kj3 a0 a1 (x7_1 ++ [bt a0 x8_1]) (wrap64 (x8_1 + 1))) else (none)))) else (none)) else (none)) = some (r1, r2, r3, r4, r5, r6, r7) := by rw [if_pos rfl] at H; exact H
      clear H
      have H := H1
      clear H1
      by_cases c9 : 0 ≤ x8_1
      ·rw [if_pos c9] at H
       have c9b0 : decide (0 ≤ x8_1) = true := decide_eq_true c9
       clear c9
       by_cases c10 : x8_1 < (a0.size : Int)
       ·rw [if_pos c10] at H
        have c10b0 : decide (x8_1 < (a0.size : Int)) = true := decide_eq_true c10
        clear c10
        by_cases c12 : (bt a0 x8_1) = 34
        ·rw [if_pos c12] at H
         have c12b0 : ((bt a0 x8_1) == 34) = true := beq_iff_eq.mpr c12
         have c12b1 : ((bt a0 x8_1) != 34) = false := bne_eq_false_iff_eq.mpr c12
         clear c12
         simp only [Option.some.injEq, Prod.mk.injEq] at H
         obtain ⟨rfl, rfl, rfl, rfl, rfl, rfl, rfl⟩ := H
         have p11 : 0 ≤ (x8_1 : Int) := dQ
         have q11 : x8_1 < (a0.size : Int) := dQ
         have hx11 := Qbx a0 x8_1
         replace p11 := eq_true p11
         replace q11 := eq_true q11
         have hcv13 := Qh5 (P := Try.prog) Try.underlying36 Try.underlying5 Try.underlying9 (Kd.Qk2 HO_7.o)
         have hcz14_0 : wc.cell? ⟨gb159, 0, none⟩ = some (.int .i64 x160000_1) := (Qaf BK159.o 0).trans rfl
         have hcz14_1 : wc.cell? ⟨gb159, 1, none⟩ = some (.string x160001_1) := (Qaf BK159.o 1).trans rfl
         have hcz14_2 : wc.cell? ⟨gb159, 2, none⟩ = some (.int .u64 x160002_1) := (Qaf BK159.o 2).trans rfl
         have hcz14_3 : wc.cell? ⟨gb159, 3, none⟩ = some (.int .i64 x160003_1) := (Qaf BK159.o 3).trans rfl
         have hcz14_4 : wc.cell? ⟨gb159, 4, none⟩ = some (.int .i64 x160004_1) := (Qaf BK159.o 4).trans rfl
         have hfz14_0 := Qaa BK159.o 0
         have hfz14_1 := Qaa BK159.o 1
         have hfz14_2 := Qaa BK159.o 2
         have hfz14_3 := Qaa BK159.o 3
         have hfz14_4 := Qaa BK159.o 4
         go_wp2
         refine bodyPost_ret (Qbf rfl _ _ gb159 47 #[.int .i64 3, .string (strOfNums x7_1), .int .u64 0, .int .i64 a1, .int .i64 (wrap64 (x8_1 + 1))] (0, 0) _ rfl (by (with_reducible repeat (first | apply Qae | apply Qah | apply Qag)); apply sv5; (with_reducible repeat (first | apply Qae | apply Qah | apply Qag)); exact BK159.o) Try.underlying47 rfl (by kernel_rfl)) rfl ?_
         exact ⟨by first | rfl | (simp [Qav, Qau] <;> rfl) | (simp [*, Qav, Qau] <;> rfl), by repeat (first | (with_reducible first | exact HB.o | apply Qab | apply Qac | apply Qad | refine Qal ?_ GE159.o) | exact HB.o)⟩
        ·rw [if_neg c12] at H
         have c12b0 : ((bt a0 x8_1) == 34) = false := beq_eq_false_iff_ne.mpr c12
         have c12b1 : ((bt a0 x8_1) != 34) = true := bne_iff_ne.mpr c12
         by_cases c15 : (bt a0 x8_1) = 92
         ·rw [if_pos c15] at H
          have c15b0 : ((bt a0 x8_1) == 92) = true := beq_iff_eq.mpr c15
          have c15b1 : ((bt a0 x8_1) != 92) = false := bne_eq_false_iff_eq.mpr c15
          clear c15
          replace H := Option.bind_eq_some_iff.mp H
          obtain ⟨⟨t160, t161⟩, A160, H⟩ := H
          replace H : (if t161 = 0 then (some (0, (⟨#[]⟩ : ByteArray), 0, 0, 0, x8_1, 82)) else (if x7_1.length < 140737488355328 then (Qao.l0 kj3 a0 a1 (x7_1 ++ [t160]) (wrap64 (x8_1 + t161))) else (none))) = some (r1, r2, r3, r4, r5, r6, r7) := H
          have A16 := J0.m A160
          clear A160
          by_cases c17 : t161 = 0
          ·rw [if_pos c17] at H
           have c17b0 : (t161 == 0) = true := beq_iff_eq.mpr c17
           have c17b1 : (t161 != 0) = false := bne_eq_false_iff_eq.mpr c17
           clear c17
           simp only [Option.some.injEq, Prod.mk.injEq] at H
           obtain ⟨rfl, rfl, rfl, rfl, rfl, rfl, rfl⟩ := H
           have p11 : 0 ≤ (x8_1 : Int) := dQ
           have q11 : x8_1 < (a0.size : Int) := dQ
           have hx11 := Qbx a0 x8_1
           replace p11 := eq_true p11
           replace q11 := eq_true q11
           go_wp2_with (first | ((with_reducible refine Qas (f := 84) rfl ?_); refine Qbm (some 47) rfl rfl Try.func84 (by kernel_rfl) rfl #[.string a0, .int .i64 x8_1] rfl mQ ?_; (with_reducible refine (Qak.calls kj3 a0 x8_1 t160 t161 _ A16.o).mono ?_); rintro e w' ⟨rfl, ⟨nd, rfl⟩⟩; refine ⟨_, rfl, ?_⟩; (try (rw [Qbz wc]; generalize hq_ : World.drewN wc _ = wc; have n0_ : J0 (Kd.R (Kd.int .u8) 5 wc w.heap.size (fun _ => True) u7 x7_1) := ⟨by rw [← hq_]; exact (by (with_reducible repeat (first | apply Kd.Qb2 | apply Kd.Qb1 | apply Kd.Qcg)); exact HO_7.o)⟩; have n1_ : J0 (wc.heap[gb159]? = some (.cells #[.int .i64 x160000_1, .string x160001_1, .int .u64 x160002_1, .int .i64 x160003_1, .int .i64 x160004_1] 47 (0, 0))) := ⟨by rw [← hq_]; exact (by (with_reducible repeat (first | apply Qae | apply Qah | apply Qag)); exact BK159.o)⟩; have n2_ : J0 (Below w.heap.size w wc) := ⟨by rw [← hq_]; exact (by repeat (first | (with_reducible first | exact HB.o | apply Qab | apply Qac | apply Qad | refine Qal ?_ GE159.o) | exact HB.o))⟩; clear HO_7 BK159 HB hq_; have HO_7 := n0_; have BK159 := n1_; have HB := n2_; clear n0_ n1_ n2_)); obtain ⟨hcz18_0, hcz18_1, hcz18_2, hcz18_3, hcz18_4⟩ := (bx5 BK159.o); have hfz18_0 := Qaa BK159.o 0; have hfz18_1 := Qaa BK159.o 1; have hfz18_2 := Qaa BK159.o 2; have hfz18_3 := Qaa BK159.o 3; have hfz18_4 := Qaa BK159.o 4))
           refine bodyPost_ret (Qbf rfl _ _ gb159 47 #[.int .i64 0, .string ⟨#[]⟩, .int .u64 0, .int .i64 0, .int .i64 0] (0, 0) _ rfl (by (with_reducible repeat (first | apply Qae | apply Qah | apply Qag)); apply sv5; (with_reducible repeat (first | apply Qae | apply Qah | apply Qag)); exact BK159.o) Try.underlying47 rfl (by kernel_rfl)) rfl ?_
           exact ⟨by first | rfl | (simp [Qav, Qau] <;> rfl) | (simp [*, Qav, Qau] <;> rfl), by repeat (first | (with_reducible first | exact HB.o | apply Qab | apply Qac | apply Qad | refine Qal ?_ GE159.o) | exact HB.o)⟩
          ·rw [if_neg c17] at H
           have c17b0 : (t161 == 0) = false := beq_eq_false_iff_ne.mpr c17
           have c17b1 : (t161 != 0) = true := bne_iff_ne.mpr c17
           by_cases c19 : x7_1.length < 140737488355328
           ·rw [if_pos c19] at H
            have LMc19 := J0.m c19
            clear c19
            obtain ⟨y162, hy162⟩ : ∃ y_ : List Int, y_ = (x7_1 ++ [t160]) := ⟨_, rfl⟩
            replace H : (Qao.l0 kj3 a0 a1 y162 (wrap64 (x8_1 + t161))) = some (r1, r2, r3, r4, r5, r6, r7) := by first | (rw [hy162]; with_reducible exact H) | (have H2_ := (Option.bind_some _ _).symm.trans H; rw [hy162]; with_reducible exact H2_) | (have H2_ := (Option.bind_some _ _).symm.trans H; with_reducible exact H2_) | with_reducible exact H | (rw [hy162]; exact H) | exact H
            have Ny162 := J0.m hy162
            clear hy162
            have H' := J0.m H
            clear H
            have p11 : 0 ≤ (x8_1 : Int) := dQ
            have q11 : x8_1 < (a0.size : Int) := dQ
            have hx11 := Qbx a0 x8_1
            replace p11 := eq_true p11
            replace q11 := eq_true q11
            go_wp2_with (first | ((with_reducible refine Qas (f := 84) rfl ?_); refine Qbm (some 47) rfl rfl Try.func84 (by kernel_rfl) rfl #[.string a0, .int .i64 x8_1] rfl mQ ?_; (with_reducible refine (Qak.calls kj3 a0 x8_1 t160 t161 _ A16.o).mono ?_); rintro e w' ⟨rfl, ⟨nd, rfl⟩⟩; refine ⟨_, rfl, ?_⟩) | ((with_reducible refine Qcm (b := .append) (xs := #[.tmp 54, .tmp 56]) rfl ?_); at_builtin; refine Kd.Qd9 (Kd.int .u8) (w0 := w) w.heap.size rfl (.tmp 54) (.tmp 56) 36 5 (.int .u8 0) 1 rfl Try.underlying36 info5 rfl (by decide) (by omega) u7 x7_1 t160 [.int .u8 t160] (fun _ => True) (fun _ => False) rfl rfl ?aP (fun _ hk => hk.elim) ?aF ?aO ?aB ?aS ?aL ?_; (case aP => exact rfl); (case aB => exact (by repeat (first | (with_reducible first | exact HB.o | apply Qab | apply Qac | apply Qad | refine Qal ?_ GE159.o) | exact HB.o))); (case aF => exact (fun _ _ => trivial)); (case aO => exact (by (with_reducible repeat (first | apply Kd.Qb2 | apply Kd.Qb1 | apply Kd.Qcg)); exact HO_7.o)); (case aS => exact (Qa8 (by repeat (first | (with_reducible first | exact HB.o | apply Qab | apply Qac | apply Qad | refine Qal ?_ GE159.o) | exact HB.o)))); (case aL => have := LMc19.o; omega); intro v163 w20 ho hb hg hat; rw [← Ny162.o] at ho; have n0_ := J0.m (Qbh (g := gb159) (o := .cells #[.int .i64 x160000_1, .string x160001_1, .int .u64 x160002_1, .int .i64 x160003_1, .int .i64 x160004_1] 47 (0, 0)) (by (with_reducible repeat (first | apply Qae | apply Qah | apply Qag)); exact BK159.o) hg (Kd.R_ne HO_7.o BK159.o (by decide))); have n1_ := J0.m (hb); have n2_ := J0.m (ho); clear BK159; clear HB; clear HO_7; have BK159 := n0_; have HB := n1_; have HO164 := n2_; clear n0_ n1_ n2_; clear ho hb hg hat))
            go_roundg kj3
            case measure => have := HK1.o; have := HJ3.o; omega
            case rel => exact ⟨(y162), (wrap64 (x8_1 + t161)), (x160000_1), (x160001_1), (x160002_1), (x160003_1), (x160004_1), (by first | rfl | (simp; done) | (simp [*]; done)), H', ⟨by have := HK1.o; have := HJ3.o; omega⟩, ⟨by (with_reducible repeat (first | apply Kd.Qb2 | apply Kd.Qb1 | apply Kd.Qcg)); exact HO164.o⟩, ⟨by (with_reducible repeat (first | apply Qae | apply Qah | apply Qag)); exact BK159.o⟩, ⟨by repeat (first | (with_reducible first | exact HB.o | apply Qab | apply Qac | apply Qad | refine Qal ?_ GE159.o) | exact HB.o)⟩⟩
           ·rw [if_neg c19] at H
            exact absurd H (by simp)
         ·rw [if_neg c15] at H
          have c15b0 : ((bt a0 x8_1) == 92) = false := beq_eq_false_iff_ne.mpr c15
          have c15b1 : ((bt a0 x8_1) != 92) = true := bne_iff_ne.mpr c15
          by_cases c22 : x7_1.length < 140737488355328
          ·rw [if_pos c22] at H
           have LMc22 := J0.m c22
           clear c22
           obtain ⟨y165, hy165⟩ : ∃ y_ : List Int, y_ = (x7_1 ++ [bt a0 x8_1]) := ⟨_, rfl⟩
           replace H : (Qao.l0 kj3 a0 a1 y165 (wrap64 (x8_1 + 1))) = some (r1, r2, r3, r4, r5, r6, r7) := by first | (rw [hy165]; with_reducible exact H) | (have H2_ := (Option.bind_some _ _).symm.trans H; rw [hy165]; with_reducible exact H2_) | (have H2_ := (Option.bind_some _ _).symm.trans H; with_reducible exact H2_) | with_reducible exact H | (rw [hy165]; exact H) | exact H
           have Ny165 := J0.m hy165
           clear hy165
           have H' := J0.m H
           clear H
           have p11 : 0 ≤ (x8_1 : Int) := dQ
           have q11 : x8_1 < (a0.size : Int) := dQ
           have hx11 := Qbx a0 x8_1
           replace p11 := eq_true p11
           replace q11 := eq_true q11
           have p21 : 0 ≤ (x8_1 : Int) := dQ
           have q21 : x8_1 < (a0.size : Int) := dQ
           have hx21 := Qbx a0 x8_1
           replace p21 := eq_true p21
           replace q21 := eq_true q21
           go_wp2_with (first | ((with_reducible refine Qcm (b := .append) (xs := #[.tmp 26, .tmp 30]) rfl ?_); at_builtin; refine Kd.Qd9 (Kd.int .u8) (w0 := w) w.heap.size rfl (.tmp 26) (.tmp 30) 36 5 (.int .u8 0) 1 rfl Try.underlying36 info5 rfl (by decide) (by omega) u7 x7_1 (bt a0 x8_1) [.int .u8 (bt a0 x8_1)] (fun _ => True) (fun _ => False) rfl rfl ?aP (fun _ hk => hk.elim) ?aF ?aO ?aB ?aS ?aL ?_; (case aP => exact rfl); (case aB => exact (by repeat (first | (with_reducible first | exact HB.o | apply Qab | apply Qac | apply Qad | refine Qal ?_ GE159.o) | exact HB.o))); (case aF => exact (fun _ _ => trivial)); (case aO => exact (by (with_reducible repeat (first | apply Kd.Qb2 | apply Kd.Qb1 | apply Kd.Qcg)); exact HO_7.o)); (case aS => exact (Qa8 (by repeat (first | (with_reducible first | exact HB.o | apply Qab | apply Qac | apply Qad | refine Qal ?_ GE159.o) | exact HB.o)))); (case aL => have := LMc22.o; omega); intro v166 w23 ho hb hg hat; rw [← Ny165.o] at ho; have n0_ := J0.m (Qbh (g := gb159) (o := .cells #[.int .i64 x160000_1, .string x160001_1, .int .u64 x160002_1, .int .i64 x160003_1, .int .i64 x160004_1] 47 (0, 0)) (by (with_reducible repeat (first | apply Qae | apply Qah | apply Qag)); exact BK159.o) hg (Kd.R_ne HO_7.o BK159.o (by decide))); have n1_ := J0.m (hb); have n2_ := J0.m (ho); clear BK159; clear HB; clear HO_7; have BK159 := n0_; have HB := n1_; have HO167 := n2_; clear n0_ n1_ n2_; clear ho hb hg hat))
           go_roundg kj3
           case measure => have := HK1.o; have := HJ3.o; omega
           case rel => exact ⟨(y165), (wrap64 (x8_1 + 1)), (x160000_1), (x160001_1), (x160002_1), (x160003_1), (x160004_1), (by first | rfl | (simp; done) | (simp [*]; done)), H', ⟨by have := HK1.o; have := HJ3.o; omega⟩, ⟨by (with_reducible repeat (first | apply Kd.Qb2 | apply Kd.Qb1 | apply Kd.Qcg)); exact HO167.o⟩, ⟨by (with_reducible repeat (first | apply Qae | apply Qah | apply Qag)); exact BK159.o⟩, ⟨by repeat (first | (with_reducible first | exact HB.o | apply Qab | apply Qac | apply Qad | refine Qal ?_ GE159.o) | exact HB.o)⟩⟩
          ·rw [if_neg c22] at H
           exact absurd H (by simp)
       ·rw [if_neg c10] at H
        exact absurd H (by simp)
      ·rw [if_neg c9] at H
       exact absurd H (by simp)
     ·replace c8 := Bool.eq_false_iff.mpr c8
      subst c8
      have H1 : (some (0, (⟨#[]⟩ : ByteArray), 0, 0, 0, a1, 81)) = some (r1, r2, r3, r4, r5, r6, r7) := by rw [if_neg (show ¬ (false = true) by decide)] at H; exact H
      clear H
      have H := H1
      clear H1
      simp only [Option.some.injEq, Prod.mk.injEq] at H
      obtain ⟨rfl, rfl, rfl, rfl, rfl, rfl, rfl⟩ := H
      have hcz24_0 : wc.cell? ⟨gb159, 0, none⟩ = some (.int .i64 x160000_1) := (Qaf BK159.o 0).trans rfl
      have hcz24_1 : wc.cell? ⟨gb159, 1, none⟩ = some (.string x160001_1) := (Qaf BK159.o 1).trans rfl
      have hcz24_2 : wc.cell? ⟨gb159, 2, none⟩ = some (.int .u64 x160002_1) := (Qaf BK159.o 2).trans rfl
      have hcz24_3 : wc.cell? ⟨gb159, 3, none⟩ = some (.int .i64 x160003_1) := (Qaf BK159.o 3).trans rfl
      have hcz24_4 : wc.cell? ⟨gb159, 4, none⟩ = some (.int .i64 x160004_1) := (Qaf BK159.o 4).trans rfl
      have hfz24_0 := Qaa BK159.o 0
      have hfz24_1 := Qaa BK159.o 1
      have hfz24_2 := Qaa BK159.o 2
      have hfz24_3 := Qaa BK159.o 3
      have hfz24_4 := Qaa BK159.o 4
      go_wp2
      refine bodyPost_ret (Qbf rfl _ _ gb159 47 #[.int .i64 0, .string ⟨#[]⟩, .int .u64 0, .int .i64 0, .int .i64 0] (0, 0) _ rfl (by (with_reducible repeat (first | apply Qae | apply Qah | apply Qag)); apply sv5; (with_reducible repeat (first | apply Qae | apply Qah | apply Qag)); exact BK159.o) Try.underlying47 rfl (by kernel_rfl)) rfl ?_
      exact ⟨by first | rfl | (simp [Qav, Qau] <;> rfl) | (simp [*, Qav, Qau] <;> rfl), by repeat (first | (with_reducible first | exact HB.o | apply Qab | apply Qac | apply Qad | refine Qal ?_ GE159.o) | exact HB.o)⟩
def Qa0.l0 : Nat → Int → ByteArray → Int → Option (Bool)
 | 0, _, _, _ => none
 | k + 1, x0, x3, x4 => if x4 < (x3.size : Int) then (if 0 ≤ x4 then (if (bt x3 x4) = x0 then (some true) else (Qa0.l0 k x0 x3 (wrap64 (x4 + 1)))) else (none)) else (some false)
def Qa0.f (k : Nat) (a0 : Int) : Option (Bool) := Qa0.l0 k a0 (⟨#[123, 125, 40, 41, 58, 59, 44, 61, 43, 45, 42]⟩ : ByteArray) 0
theorem Qa0.calls (k : Nat) (a0 : Int) (r : Bool) (w : World) (h : Qa0.f k a0 = some r) :
  Calls Try.prog 69 #[.int .u8 a0] w fun e w' => e = .returned (.bool r) ∧ Qa9 w w' := by
 have H : (Qa0.l0 k a0 (⟨#[123, 125, 40, 41, 58, 59, 44, 61, 43, 45, 42]⟩ : ByteArray) 0) = some r := h
 clear h
 have H' := J0.m H
 clear H
 go_enter Try.func69, Try.ntmps69
 go_wp2
 go_loopg [4] k (fun kq v4 w' => ∃ (x4_1 : Int), v4 = .int .i64 x4_1 ∧ J0 (Qa0.l0 kq a0 (⟨#[123, 125, 40, 41, 58, 59, 44, 61, 43, 45, 42]⟩ : ByteArray) x4_1 = some r) ∧ J0 (kq ≤ k) ∧ Qa9 w w')
 case atStart => exact ⟨(0), (by first | rfl | (simp; done) | (simp [*]; done)), H', ⟨Nat.le_refl _⟩, dR⟩
 case round =>
  clear H'
  obtain ⟨x4_1, rfl, HA, HK1, ⟨m1, rfl⟩⟩ := hrel
  cases gk with
  | zero => exact absurd HA.o (by simp [Qa0.l0])
  | succ k1 =>
   have H := HA.o
   clear HA
   simp only [Qa0.l0] at H
   by_cases c2 : x4_1 < ((⟨#[123, 125, 40, 41, 58, 59, 44, 61, 43, 45, 42]⟩ : ByteArray).size : Int)
   ·rw [if_pos c2] at H
    have c2b0 : decide (x4_1 < ((⟨#[123, 125, 40, 41, 58, 59, 44, 61, 43, 45, 42]⟩ : ByteArray).size : Int)) = true := decide_eq_true c2
    have c2y : decide (x4_1 < (11 : Int)) = true := c2b0
    clear c2
    by_cases c3 : 0 ≤ x4_1
    ·rw [if_pos c3] at H
     have c3b0 : decide (0 ≤ x4_1) = true := decide_eq_true c3
     clear c3
     by_cases c5 : (bt (⟨#[123, 125, 40, 41, 58, 59, 44, 61, 43, 45, 42]⟩ : ByteArray) x4_1) = a0
     ·rw [if_pos c5] at H
      have c5b0 : ((bt (⟨#[123, 125, 40, 41, 58, 59, 44, 61, 43, 45, 42]⟩ : ByteArray) x4_1) == a0) = true := beq_iff_eq.mpr c5
      have c5b1 : ((bt (⟨#[123, 125, 40, 41, 58, 59, 44, 61, 43, 45, 42]⟩ : ByteArray) x4_1) != a0) = false := bne_eq_false_iff_eq.mpr c5
      clear c5
      obtain rfl := Option.some.inj H
      have p4 : 0 ≤ (x4_1 : Int) := dQ
      have q4 : x4_1 < (11 : Int) := dQ
      have hx4 := Qbx (⟨#[123, 125, 40, 41, 58, 59, 44, 61, 43, 45, 42]⟩ : ByteArray) x4_1
      replace p4 := eq_true p4
      replace q4 := eq_true q4
      go_wp2
      go_ret
      exact eQ
     ·rw [if_neg c5] at H
      have c5b0 : ((bt (⟨#[123, 125, 40, 41, 58, 59, 44, 61, 43, 45, 42]⟩ : ByteArray) x4_1) == a0) = false := beq_eq_false_iff_ne.mpr c5
      have c5b1 : ((bt (⟨#[123, 125, 40, 41, 58, 59, 44, 61, 43, 45, 42]⟩ : ByteArray) x4_1) != a0) = true := bne_iff_ne.mpr c5
      have H' := J0.m H
      clear H
      have p4 : 0 ≤ (x4_1 : Int) := dQ
      have q4 : x4_1 < (11 : Int) := dQ
      have hx4 := Qbx (⟨#[123, 125, 40, 41, 58, 59, 44, 61, 43, 45, 42]⟩ : ByteArray) x4_1
      replace p4 := eq_true p4
      replace q4 := eq_true q4
      go_wp2
      go_roundg k1
      case measure => have := HK1.o; omega
      case rel => exact ⟨(wrap64 (x4_1 + 1)), (by first | rfl | (simp; done) | (simp [*]; done)), H', ⟨by have := HK1.o; omega⟩, dR⟩
    ·rw [if_neg c3] at H
     exact absurd H (by simp)
   ·rw [if_neg c2] at H
    have c2b0 : decide (x4_1 < ((⟨#[123, 125, 40, 41, 58, 59, 44, 61, 43, 45, 42]⟩ : ByteArray).size : Int)) = false := decide_eq_false c2
    have c2y : decide (x4_1 < (11 : Int)) = false := c2b0
    clear c2
    obtain rfl := Option.some.inj H
    go_wp2
    go_ret
    exact eQ
end Go.Proofs.Ytbdcndkafaajpaa.X
end
section
namespace Go.Proofs.Ytbdcndkafaajpaa.X
open Go.RowKit YtbdcndkafaajpaaW.PrintWords YtbdcndkafaajpaaW.PrintLast YtbdcndkafaajpaaW.PrintMore
attribute [local go_sem] Qdl Qdj Qef Qee Qc9 Qc8 Qdk Qdi
def Qb6.f (k : Nat) (a0 : ByteArray) (a1 : Int) : Option (Int × ByteArray × Int × Int × Int × Int × Int) := if 0 ≤ a1 then (if a1 < (a0.size : Int) then ((Qa7.f (bt a0 a1)).bind fun t169 => (if t169 = true then ((Qax.f k a0 a1).bind fun bt170 => (some (bt170.1, bt170.2.1, bt170.2.2.1, bt170.2.2.2.1, bt170.2.2.2.2.1, bt170.2.2.2.2.2.1, bt170.2.2.2.2.2.2))) else ((Qay.f (bt a0 a1)).bind fun t177 => (if t177 = true then ((Qaj.f k a0 a1).bind fun bt178 => (some (bt178.1, bt178.2.1, bt178.2.2.1, bt178.2.2.2.1, bt178.2.2.2.2.1, bt178.2.2.2.2.2.1, bt178.2.2.2.2.2.2))) else (if (bt a0 a1) = 34 then ((Qao.f k a0 a1).bind fun bt185 => (some (bt185.1, bt185.2.1, bt185.2.2.1, bt185.2.2.2.1, bt185.2.2.2.2.1, bt185.2.2.2.2.2.1, bt185.2.2.2.2.2.2))) else ((Qa0.f k (bt a0 a1)).bind fun t192 => (if t192 = true then (if a1 ≤ (wrap64 (a1 + 1)) then (if (wrap64 (a1 + 1)) ≤ (a0.size : Int) then (some (4, a0.extract (a1 : Int).toNat ((wrap64 (a1 + 1)) : Int).toNat, 0, a1, wrap64 (a1 + 1), 0, 0)) else (none)) else (none)) else (some (0, (⟨#[]⟩ : ByteArray), 0, 0, 0, a1, 80))))))))) else (none)) else (none)
theorem Qb6.calls (k : Nat) (a0 : ByteArray) (a1 : Int) (r1 : Int) (r2 : ByteArray) (r3 : Int) (r4 : Int) (r5 : Int) (r6 : Int) (r7 : Int) (w : World) (h : Qb6.f k a0 a1 = some (r1, r2, r3, r4, r5, r6, r7)) :
  Calls Try.prog 42 #[.string a0, .int .i64 a1] w fun e w' => e = .returned (.tuple #[.agg #[.int .i64 r1, .string r2, .int .u64 r3, .int .i64 r4, .int .i64 r5], .int .i64 r6, .int .i64 r7]) ∧ Below w.heap.size w w' := by
 have hu47 := Try.underlying47
 have HB := J0.m (Below.refl w.heap.size w)
 have H : (if 0 ≤ a1 then (if a1 < (a0.size : Int) then ((Qa7.f (bt a0 a1)).bind fun t169 => (if t169 = true then ((Qax.f k a0 a1).bind fun bt170 => (some (bt170.1, bt170.2.1, bt170.2.2.1, bt170.2.2.2.1, bt170.2.2.2.2.1, bt170.2.2.2.2.2.1, bt170.2.2.2.2.2.2))) else ((Qay.f (bt a0 a1)).bind fun t177 => (if t177 = true then ((Qaj.f k a0 a1).bind fun bt178 => (some (bt178.1, bt178.2.1, bt178.2.2.1, bt178.2.2.2.1, bt178.2.2.2.2.1, bt178.2.2.2.2.2.1, bt178.2.2.2.2.2.2))) else (if (bt a0 a1) = 34 then ((Qao.f k a0 a1).bind fun bt185 => (some (bt185.1, bt185.2.1, bt185.2.2.1, bt185.2.2.2.1, bt185.2.2.2.2.1, bt185.2.2.2.2.2.1, bt185.2.2.2.2.2.2))) else ((Qa0.f k (bt a0 a1)).bind fun t192 => (if t192 = true then (if a1 ≤ (wrap64 (a1 + 1)) then (if (wrap64 (a1 + 1)) ≤ (a0.size : Int) then (some (4, a0.extract (a1 : Int).toNat ((wrap64 (a1 + 1)) : Int).toNat, 0, a1, wrap64 (a1 + 1), 0, 0)) else (none)) else (none)) else (some (0, (⟨#[]⟩ : ByteArray), 0, 0, 0, a1, 80))))))))) else (none)) else (none)) = some (r1, r2, r3, r4, r5, r6, r7) := h
 clear h
 by_cases c3 : 0 ≤ a1
 ·rw [if_pos c3] at H
  have c3b0 : decide (0 ≤ a1) = true := decide_eq_true c3
  clear c3
  by_cases c4 : a1 < (a0.size : Int)
  ·rw [if_pos c4] at H
   have c4b0 : decide (a1 < (a0.size : Int)) = true := decide_eq_true c4
   clear c4
   replace H := Option.bind_eq_some_iff.mp H
   obtain ⟨t169, A60, H⟩ := H
   replace H : (if t169 = true then ((Qax.f k a0 a1).bind fun bt170 => (some (bt170.1, bt170.2.1, bt170.2.2.1, bt170.2.2.2.1, bt170.2.2.2.2.1, bt170.2.2.2.2.2.1, bt170.2.2.2.2.2.2))) else ((Qay.f (bt a0 a1)).bind fun t177 => (if t177 = true then ((Qaj.f k a0 a1).bind fun bt178 => (some (bt178.1, bt178.2.1, bt178.2.2.1, bt178.2.2.2.1, bt178.2.2.2.2.1, bt178.2.2.2.2.2.1, bt178.2.2.2.2.2.2))) else (if (bt a0 a1) = 34 then ((Qao.f k a0 a1).bind fun bt185 => (some (bt185.1, bt185.2.1, bt185.2.2.1, bt185.2.2.2.1, bt185.2.2.2.2.1, bt185.2.2.2.2.2.1, bt185.2.2.2.2.2.2))) else ((Qa0.f k (bt a0 a1)).bind fun t192 => (if t192 = true then (if a1 ≤ (wrap64 (a1 + 1)) then (if (wrap64 (a1 + 1)) ≤ (a0.size : Int) then (some (4, a0.extract (a1 : Int).toNat ((wrap64 (a1 + 1)) : Int).toNat, 0, a1, wrap64 (a1 + 1), 0, 0)) else (none)) else (none)) else (some (0, (⟨#[]⟩ : ByteArray), 0, 0, 0, a1, 80)))))))) = some (r1, r2, r3, r4, r5, r6, r7) := H
   have A6 := J0.m A60
   clear A60
   by_cases c7 : t169 = true
   ·subst c7
    have H1 : ((Qax.f k a0 a1).bind fun bt170 => (some (bt170.1, bt170.2.1, bt170.2.2.1, bt170.2.2.2.1, bt170.2.2.2.2.1, bt170.2.2.2.2.2.1, bt170.2.2.2.2.2.2))) = some (r1, r2, r3, r4, r5, r6, r7) := by rw [if_pos rfl] at H; exact H
    clear H
    have H := H1
    clear H1
    replace H := Option.bind_eq_some_iff.mp H
    obtain ⟨⟨t170, t171, t172, t173, t174, t175, t176⟩, A80, H⟩ := H
    replace H : (some (t170, t171, t172, t173, t174, t175, t176)) = some (r1, r2, r3, r4, r5, r6, r7) := H
    have A8 := J0.m A80
    clear A80
    simp only [Option.some.injEq, Prod.mk.injEq] at H
    obtain ⟨rfl, rfl, rfl, rfl, rfl, rfl, rfl⟩ := H
    go_enter Try.func42, Try.ntmps42
    go_wp2_with (first | ((with_reducible refine Qbv (N := 4) rfl ?_); refine Qbn ?hg (N := 4) ?hd (cs := zT0) (t := 47) ?hr ?_; (case hd => rfl); (case hg => rfl); (case hr => first | (go_simp; done) | (go_simp; rfl)); intro gb168 hg w9 hbox hb; have n0_ := J0.m (Qap bR hb); have n1_ := J0.m (hbox); have n2_ := J0.m ((by rw [hg]; exact (Qa8 bR) : w.heap.size ≤ gb168)); have n3_ := n2_; clear HB; have HB := n0_; have BK168 := n1_; have GW168 := n2_; have GE168 := n3_; clear n0_ n1_ n2_ n3_; clear hb hbox hg; have p5 : 0 ≤ (a1 : Int) := dQ; have q5 : a1 < (a0.size : Int) := dQ; have hx5 := Qbx a0 a1; replace p5 := eq_true p5; replace q5 := eq_true q5) | ((with_reducible refine Qas (f := 64) rfl ?_); refine Qbm (some 13) rfl rfl Try.func64 (by kernel_rfl) rfl #[.int .u8 (bt a0 a1)] rfl mQ ?_; (with_reducible refine (Qa7.calls (bt a0 a1) true _ A6.o).mono ?_); rintro e w' ⟨rfl, ⟨nd, rfl⟩⟩; refine ⟨_, rfl, ?_⟩; (try (rw [Qbz w9]; generalize hq_ : World.drewN w9 _ = w9; have n0_ : J0 (w9.heap[gb168]? = some (.cells #[.int .i64 0, .string ⟨#[]⟩, .int .u64 0, .int .i64 0, .int .i64 0] 47 (0, 0))) := ⟨by rw [← hq_]; exact (by (with_reducible repeat (first | apply Qae | apply Qah | apply Qag)); exact BK168.o)⟩; have n1_ : J0 (Below w.heap.size w w9) := ⟨by rw [← hq_]; exact (by repeat (first | (with_reducible first | exact HB.o | apply Qab | apply Qac | apply Qad | refine Qal ?_ GE168.o) | exact HB.o))⟩; clear BK168 HB hq_; have BK168 := n0_; have HB := n1_; clear n0_ n1_))) | ((with_reducible refine Qas (f := 65) rfl ?_); refine Qbm (some 16) rfl rfl Try.func65 (by kernel_rfl) rfl #[.string a0, .int .i64 a1] rfl mQ ?_; (with_reducible refine (Qax.calls k a0 a1 t170 t171 t172 t173 t174 t175 t176 _ A8.o).mono ?_); rintro e w10 ⟨rfl, hb⟩; refine ⟨_, rfl, ?_⟩; have n0_ := J0.m (Qai (g := gb168) (o := .cells #[.int .i64 0, .string ⟨#[]⟩, .int .u64 0, .int .i64 0, .int .i64 0] 47 (0, 0)) (by (with_reducible repeat (first | apply Qae | apply Qah | apply Qag)); exact BK168.o) hb); have n1_ := J0.m (Qap (by repeat (first | (with_reducible first | exact HB.o | apply Qab | apply Qac | apply Qad | refine Qal ?_ GE168.o) | exact HB.o)) hb); clear BK168; clear HB; have BK168 := n0_; have HB := n1_; clear n0_ n1_; (try clear hb); (try clear hb2); (try clear hk); (try clear hi); obtain ⟨hcz11_0, hcz11_1, hcz11_2, hcz11_3, hcz11_4⟩ := (bx5 BK168.o); have hfz11_0 := Qaa BK168.o 0; have hfz11_1 := Qaa BK168.o 1; have hfz11_2 := Qaa BK168.o 2; have hfz11_3 := Qaa BK168.o 3; have hfz11_4 := Qaa BK168.o 4))
    refine bodyPost_ret (Qbf rfl _ _ gb168 47 #[.int .i64 t170, .string t171, .int .u64 t172, .int .i64 t173, .int .i64 t174] (0, 0) _ rfl (by (with_reducible repeat (first | apply Qae | apply Qah | apply Qag)); apply sv5; (with_reducible repeat (first | apply Qae | apply Qah | apply Qag)); exact BK168.o) Try.underlying47 rfl (by kernel_rfl)) rfl ?_
    exact ⟨by first | rfl | (simp [Qav, Qau] <;> rfl) | (simp [*, Qav, Qau] <;> rfl), by repeat (first | (with_reducible first | exact HB.o | apply Qab | apply Qac | apply Qad | refine Qal ?_ GE168.o) | exact HB.o)⟩
   ·replace c7 := Bool.eq_false_iff.mpr c7
    subst c7
    have H1 : ((Qay.f (bt a0 a1)).bind fun t177 => (if t177 = true then ((Qaj.f k a0 a1).bind fun bt178 => (some (bt178.1, bt178.2.1, bt178.2.2.1, bt178.2.2.2.1, bt178.2.2.2.2.1, bt178.2.2.2.2.2.1, bt178.2.2.2.2.2.2))) else (if (bt a0 a1) = 34 then ((Qao.f k a0 a1).bind fun bt185 => (some (bt185.1, bt185.2.1, bt185.2.2.1, bt185.2.2.2.1, bt185.2.2.2.2.1, bt185.2.2.2.2.2.1, bt185.2.2.2.2.2.2))) else ((Qa0.f k (bt a0 a1)).bind fun t192 => (if t192 = true then (if a1 ≤ (wrap64 (a1 + 1)) then (if (wrap64 (a1 + 1)) ≤ (a0.size : Int) then (some (4, a0.extract (a1 : Int).toNat ((wrap64 (a1 + 1)) : Int).toNat, 0, a1, wrap64 (a1 + 1), 0, 0)) else (none)) else (none)) else (some (0, (⟨#[]⟩ : ByteArray), 0, 0, 0, a1, 80))))))) = some (r1, r2, r3, r4, r5, r6, r7) := by rw [if_neg (show ¬ (false = true) by decide)] at H; exact H
    clear H
    have H := H1
    clear H1
    replace H := Option.bind_eq_some_iff.mp H
    obtain ⟨t177, A120, H⟩ := H
    replace H : (if t177 = true then ((Qaj.f k a0 a1).bind fun bt178 => (some (bt178.1, bt178.2.1, bt178.2.2.1, bt178.2.2.2.1, bt178.2.2.2.2.1, bt178.2.2.2.2.2.1, bt178.2.2.2.2.2.2))) else (if (bt a0 a1) = 34 then ((Qao.f k a0 a1).bind fun bt185 => (some (bt185.1, bt185.2.1, bt185.2.2.1, bt185.2.2.2.1, bt185.2.2.2.2.1, bt185.2.2.2.2.2.1, bt185.2.2.2.2.2.2))) else ((Qa0.f k (bt a0 a1)).bind fun t192 => (if t192 = true then (if a1 ≤ (wrap64 (a1 + 1)) then (if (wrap64 (a1 + 1)) ≤ (a0.size : Int) then (some (4, a0.extract (a1 : Int).toNat ((wrap64 (a1 + 1)) : Int).toNat, 0, a1, wrap64 (a1 + 1), 0, 0)) else (none)) else (none)) else (some (0, (⟨#[]⟩ : ByteArray), 0, 0, 0, a1, 80)))))) = some (r1, r2, r3, r4, r5, r6, r7) := H
    have A12 := J0.m A120
    clear A120
    by_cases c13 : t177 = true
    ·subst c13
     have H1 : ((Qaj.f k a0 a1).bind fun bt178 => (some (bt178.1, bt178.2.1, bt178.2.2.1, bt178.2.2.2.1, bt178.2.2.2.2.1, bt178.2.2.2.2.2.1, bt178.2.2.2.2.2.2))) = some (r1, r2, r3, r4, r5, r6, r7) := by rw [if_pos rfl] at H; exact H
     clear H
     have H := H1
     clear H1
     replace H := Option.bind_eq_some_iff.mp H
     obtain ⟨⟨t178, t179, t180, t181, t182, t183, t184⟩, A140, H⟩ := H
     replace H : (some (t178, t179, t180, t181, t182, t183, t184)) = some (r1, r2, r3, r4, r5, r6, r7) := H
     have A14 := J0.m A140
     clear A140
     simp only [Option.some.injEq, Prod.mk.injEq] at H
     obtain ⟨rfl, rfl, rfl, rfl, rfl, rfl, rfl⟩ := H
     go_enter Try.func42, Try.ntmps42
     go_wp2_with (first | ((with_reducible refine Qbv (N := 4) rfl ?_); refine Qbn ?hg (N := 4) ?hd (cs := zT0) (t := 47) ?hr ?_; (case hd => rfl); (case hg => rfl); (case hr => first | (go_simp; done) | (go_simp; rfl)); intro gb168 hg w15 hbox hb; have n0_ := J0.m (Qap bR hb); have n1_ := J0.m (hbox); have n2_ := J0.m ((by rw [hg]; exact (Qa8 bR) : w.heap.size ≤ gb168)); have n3_ := n2_; clear HB; have HB := n0_; have BK168 := n1_; have GW168 := n2_; have GE168 := n3_; clear n0_ n1_ n2_ n3_; clear hb hbox hg; have p5 : 0 ≤ (a1 : Int) := dQ; have q5 : a1 < (a0.size : Int) := dQ; have hx5 := Qbx a0 a1; replace p5 := eq_true p5; replace q5 := eq_true q5) | ((with_reducible refine Qas (f := 64) rfl ?_); refine Qbm (some 13) rfl rfl Try.func64 (by kernel_rfl) rfl #[.int .u8 (bt a0 a1)] rfl mQ ?_; (with_reducible refine (Qa7.calls (bt a0 a1) false _ A6.o).mono ?_); rintro e w' ⟨rfl, ⟨nd, rfl⟩⟩; refine ⟨_, rfl, ?_⟩; (try (rw [Qbz w15]; generalize hq_ : World.drewN w15 _ = w15; have n0_ : J0 (w15.heap[gb168]? = some (.cells #[.int .i64 0, .string ⟨#[]⟩, .int .u64 0, .int .i64 0, .int .i64 0] 47 (0, 0))) := ⟨by rw [← hq_]; exact (by (with_reducible repeat (first | apply Qae | apply Qah | apply Qag)); exact BK168.o)⟩; have n1_ : J0 (Below w.heap.size w w15) := ⟨by rw [← hq_]; exact (by repeat (first | (with_reducible first | exact HB.o | apply Qab | apply Qac | apply Qad | refine Qal ?_ GE168.o) | exact HB.o))⟩; clear BK168 HB hq_; have BK168 := n0_; have HB := n1_; clear n0_ n1_))) | ((with_reducible refine Qas (f := 66) rfl ?_); refine Qbm (some 22) rfl rfl Try.func66 (by kernel_rfl) rfl #[.int .u8 (bt a0 a1)] rfl mQ ?_; (with_reducible refine (Qay.calls (bt a0 a1) true _ A12.o).mono ?_); rintro e w' ⟨rfl, ⟨nd, rfl⟩⟩; refine ⟨_, rfl, ?_⟩; (try (rw [Qbz w15]; generalize hq_ : World.drewN w15 _ = w15; have n0_ : J0 (w15.heap[gb168]? = some (.cells #[.int .i64 0, .string ⟨#[]⟩, .int .u64 0, .int .i64 0, .int .i64 0] 47 (0, 0))) := ⟨by rw [← hq_]; exact (by (with_reducible repeat (first | apply Qae | apply Qah | apply Qag)); exact BK168.o)⟩; have n1_ : J0 (Below w.heap.size w w15) := ⟨by rw [← hq_]; exact (by repeat (first | (with_reducible first | exact HB.o | apply Qab | apply Qac | apply Qad | refine Qal ?_ GE168.o) | exact HB.o))⟩; clear BK168 HB hq_; have BK168 := n0_; have HB := n1_; clear n0_ n1_))) | ((with_reducible refine Qas (f := 67) rfl ?_); refine Qbm (some 25) rfl rfl Try.func67 (by kernel_rfl) rfl #[.string a0, .int .i64 a1] rfl mQ ?_; (with_reducible refine (Qaj.calls k a0 a1 t178 t179 t180 t181 t182 t183 t184 _ A14.o).mono ?_); rintro e w16 ⟨rfl, hb⟩; refine ⟨_, rfl, ?_⟩; have n0_ := J0.m (Qai (g := gb168) (o := .cells #[.int .i64 0, .string ⟨#[]⟩, .int .u64 0, .int .i64 0, .int .i64 0] 47 (0, 0)) (by (with_reducible repeat (first | apply Qae | apply Qah | apply Qag)); exact BK168.o) hb); have n1_ := J0.m (Qap (by repeat (first | (with_reducible first | exact HB.o | apply Qab | apply Qac | apply Qad | refine Qal ?_ GE168.o) | exact HB.o)) hb); clear BK168; clear HB; have BK168 := n0_; have HB := n1_; clear n0_ n1_; (try clear hb); (try clear hb2); (try clear hk); (try clear hi); obtain ⟨hcz17_0, hcz17_1, hcz17_2, hcz17_3, hcz17_4⟩ := (bx5 BK168.o); have hfz17_0 := Qaa BK168.o 0; have hfz17_1 := Qaa BK168.o 1; have hfz17_2 := Qaa BK168.o 2; have hfz17_3 := Qaa BK168.o 3; have hfz17_4 := Qaa BK168.o 4))
     refine bodyPost_ret (Qbf rfl _ _ gb168 47 #[.int .i64 t178, .string t179, .int .u64 t180, .int .i64 t181, .int .i64 t182] (0, 0) _ rfl (by (with_reducible repeat (first | apply Qae | apply Qah | apply Qag)); apply sv5; (with_reducible repeat (first | apply Qae | apply Qah | apply Qag)); exact BK168.o) Try.underlying47 rfl (by kernel_rfl)) rfl ?_
     exact ⟨by first | rfl | (simp [Qav, Qau] <;> rfl) | (simp [*, Qav, Qau] <;> rfl), by repeat (first | (with_reducible first | exact HB.o | apply Qab | apply Qac | apply Qad | refine Qal ?_ GE168.o) | exact HB.o)⟩
    ·replace c13 := Bool.eq_false_iff.mpr c13
     subst c13
     have H1 : (if (bt a0 a1) = 34 then ((Qao.f k a0 a1).bind fun bt185 => (some (bt185.1, bt185.2.1, bt185.2.2.1, bt185.2.2.2.1, bt185.2.2.2.2.1, bt185.2.2.2.2.2.1, bt185.2.2.2.2.2.2))) else ((Qa0.f k (bt a0 a1)).bind fun t192 => (if t192 = true then (if a1 ≤ (wrap64 (a1 + 1)) then (if (wrap64 (a1 + 1)) ≤ (a0.size : Int) then (some (4, a0.extract (a1 : Int).toNat ((wrap64 (a1 + 1)) : Int).toNat, 0, a1, wrap64 (a1 + 1), 0, 0)) else (none)) else (none)) else (some (0, (⟨#[]⟩ : ByteArray), 0, 0, 0, a1, 80))))) = some (r1, r2, r3, r4, r5, r6, r7) := by rw [if_neg (show ¬ (false = true) by decide)] at H; exact H
     clear H
     have H := H1
     clear H1
     by_cases c18 : (bt a0 a1) = 34
     ·rw [if_pos c18] at H
      have c18b0 : ((bt a0 a1) == 34) = true := beq_iff_eq.mpr c18
      have c18b1 : ((bt a0 a1) != 34) = false := bne_eq_false_iff_eq.mpr c18
      clear c18
      replace H := Option.bind_eq_some_iff.mp H
      obtain ⟨⟨t185, t186, t187, t188, t189, t190, t191⟩, A190, H⟩ := H
      replace H : (some (t185, t186, t187, t188, t189, t190, t191)) = some (r1, r2, r3, r4, r5, r6, r7) := H
      have A19 := J0.m A190
      clear A190
      simp only [Option.some.injEq, Prod.mk.injEq] at H
      obtain ⟨rfl, rfl, rfl, rfl, rfl, rfl, rfl⟩ := H
      go_enter Try.func42, Try.ntmps42
      go_wp2_with (first | ((with_reducible refine Qbv (N := 4) rfl ?_); refine Qbn ?hg (N := 4) ?hd (cs := zT0) (t := 47) ?hr ?_; (case hd => rfl); (case hg => rfl); (case hr => first | (go_simp; done) | (go_simp; rfl)); intro gb168 hg w20 hbox hb; have n0_ := J0.m (Qap bR hb); have n1_ := J0.m (hbox); have n2_ := J0.m ((by rw [hg]; exact (Qa8 bR) : w.heap.size ≤ gb168)); have n3_ := n2_; clear HB; have HB := n0_; have BK168 := n1_; have GW168 := n2_; have GE168 := n3_; clear n0_ n1_ n2_ n3_; clear hb hbox hg; have p5 : 0 ≤ (a1 : Int) := dQ; have q5 : a1 < (a0.size : Int) := dQ; have hx5 := Qbx a0 a1; replace p5 := eq_true p5; replace q5 := eq_true q5) | ((with_reducible refine Qas (f := 64) rfl ?_); refine Qbm (some 13) rfl rfl Try.func64 (by kernel_rfl) rfl #[.int .u8 (bt a0 a1)] rfl mQ ?_; (with_reducible refine (Qa7.calls (bt a0 a1) false _ A6.o).mono ?_); rintro e w' ⟨rfl, ⟨nd, rfl⟩⟩; refine ⟨_, rfl, ?_⟩; (try (rw [Qbz w20]; generalize hq_ : World.drewN w20 _ = w20; have n0_ : J0 (w20.heap[gb168]? = some (.cells #[.int .i64 0, .string ⟨#[]⟩, .int .u64 0, .int .i64 0, .int .i64 0] 47 (0, 0))) := ⟨by rw [← hq_]; exact (by (with_reducible repeat (first | apply Qae | apply Qah | apply Qag)); exact BK168.o)⟩; have n1_ : J0 (Below w.heap.size w w20) := ⟨by rw [← hq_]; exact (by repeat (first | (with_reducible first | exact HB.o | apply Qab | apply Qac | apply Qad | refine Qal ?_ GE168.o) | exact HB.o))⟩; clear BK168 HB hq_; have BK168 := n0_; have HB := n1_; clear n0_ n1_))) | ((with_reducible refine Qas (f := 66) rfl ?_); refine Qbm (some 22) rfl rfl Try.func66 (by kernel_rfl) rfl #[.int .u8 (bt a0 a1)] rfl mQ ?_; (with_reducible refine (Qay.calls (bt a0 a1) false _ A12.o).mono ?_); rintro e w' ⟨rfl, ⟨nd, rfl⟩⟩; refine ⟨_, rfl, ?_⟩; (try (rw [Qbz w20]; generalize hq_ : World.drewN w20 _ = w20; have n0_ : J0 (w20.heap[gb168]? = some (.cells #[.int .i64 0, .string ⟨#[]⟩, .int .u64 0, .int .i64 0, .int .i64 0] 47 (0, 0))) := ⟨by rw [← hq_]; exact (by (with_reducible repeat (first | apply Qae | apply Qah | apply Qag)); exact BK168.o)⟩; have n1_ : J0 (Below w.heap.size w w20) := ⟨by rw [← hq_]; exact (by repeat (first | (with_reducible first | exact HB.o | apply Qab | apply Qac | apply Qad | refine Qal ?_ GE168.o) | exact HB.o))⟩; clear BK168 HB hq_; have BK168 := n0_; have HB := n1_; clear n0_ n1_))) | ((with_reducible refine Qas (f := 68) rfl ?_); refine Qbm (some 34) rfl rfl Try.func68 (by kernel_rfl) rfl #[.string a0, .int .i64 a1] rfl mQ ?_; (with_reducible refine (Qao.calls k a0 a1 t185 t186 t187 t188 t189 t190 t191 _ A19.o).mono ?_); rintro e w21 ⟨rfl, hb⟩; refine ⟨_, rfl, ?_⟩; have n0_ := J0.m (Qai (g := gb168) (o := .cells #[.int .i64 0, .string ⟨#[]⟩, .int .u64 0, .int .i64 0, .int .i64 0] 47 (0, 0)) (by (with_reducible repeat (first | apply Qae | apply Qah | apply Qag)); exact BK168.o) hb); have n1_ := J0.m (Qap (by repeat (first | (with_reducible first | exact HB.o | apply Qab | apply Qac | apply Qad | refine Qal ?_ GE168.o) | exact HB.o)) hb); clear BK168; clear HB; have BK168 := n0_; have HB := n1_; clear n0_ n1_; (try clear hb); (try clear hb2); (try clear hk); (try clear hi); obtain ⟨hcz22_0, hcz22_1, hcz22_2, hcz22_3, hcz22_4⟩ := (bx5 BK168.o); have hfz22_0 := Qaa BK168.o 0; have hfz22_1 := Qaa BK168.o 1; have hfz22_2 := Qaa BK168.o 2; have hfz22_3 := Qaa BK168.o 3; have hfz22_4 := Qaa BK168.o 4))
      refine bodyPost_ret (Qbf rfl _ _ gb168 47 #[.int .i64 t185, .string t186, .int .u64 t187, .int .i64 t188, .int .i64 t189] (0, 0) _ rfl (by (with_reducible repeat (first | apply Qae | apply Qah | apply Qag)); apply sv5; (with_reducible repeat (first | apply Qae | apply Qah | apply Qag)); exact BK168.o) Try.underlying47 rfl (by kernel_rfl)) rfl ?_
      exact ⟨by first | rfl | (simp [Qav, Qau] <;> rfl) | (simp [*, Qav, Qau] <;> rfl), by repeat (first | (with_reducible first | exact HB.o | apply Qab | apply Qac | apply Qad | refine Qal ?_ GE168.o) | exact HB.o)⟩
     ·rw [if_neg c18] at H
      have c18b0 : ((bt a0 a1) == 34) = false := beq_eq_false_iff_ne.mpr c18
      have c18b1 : ((bt a0 a1) != 34) = true := bne_iff_ne.mpr c18
      replace H := Option.bind_eq_some_iff.mp H
      obtain ⟨t192, A230, H⟩ := H
      replace H : (if t192 = true then (if a1 ≤ (wrap64 (a1 + 1)) then (if (wrap64 (a1 + 1)) ≤ (a0.size : Int) then (some (4, a0.extract (a1 : Int).toNat ((wrap64 (a1 + 1)) : Int).toNat, 0, a1, wrap64 (a1 + 1), 0, 0)) else (none)) else (none)) else (some (0, (⟨#[]⟩ : ByteArray), 0, 0, 0, a1, 80))) = some (r1, r2, r3, r4, r5, r6, r7) := H
      have A23 := J0.m A230
      clear A230
      by_cases c24 : t192 = true
      ·subst c24
       have H1 : (if a1 ≤ (wrap64 (a1 + 1)) then (if (wrap64 (a1 + 1)) ≤ (a0.size : Int) then (some (4, a0.extract (a1 : Int).toNat ((wrap64 (a1 + 1)) : Int).toNat, 0, a1, wrap64 (a1 + 1), 0, 0)) else (none)) else (none)) = some (r1, r2, r3, r4, r5, r6, r7) := by rw [if_pos rfl] at H; exact H
       clear H
       have H := H1
       clear H1
       have c25b0 := eq_true (dQ : 0 ≤ a1)
       by_cases c26 : a1 ≤ (wrap64 (a1 + 1))
       ·rw [if_pos c26] at H
        have c26b0 := eq_true c26
        have c26b1 : decide (a1 ≤ (wrap64 (a1 + 1))) = true := decide_eq_true c26
        by_cases c27 : (wrap64 (a1 + 1)) ≤ (a0.size : Int)
        ·rw [if_pos c27] at H
         have c27b0 := eq_true c27
         have c27b1 : decide ((wrap64 (a1 + 1)) ≤ (a0.size : Int)) = true := decide_eq_true c27
         simp only [Option.some.injEq, Prod.mk.injEq] at H
         obtain ⟨rfl, rfl, rfl, rfl, rfl, rfl, rfl⟩ := H
         go_enter Try.func42, Try.ntmps42
         go_wp2_with (first | ((with_reducible refine Qbv (N := 4) rfl ?_); refine Qbn ?hg (N := 4) ?hd (cs := zT0) (t := 47) ?hr ?_; (case hd => rfl); (case hg => rfl); (case hr => first | (go_simp; done) | (go_simp; rfl)); intro gb168 hg w28 hbox hb; have n0_ := J0.m (Qap bR hb); have n1_ := J0.m (hbox); have n2_ := J0.m ((by rw [hg]; exact (Qa8 bR) : w.heap.size ≤ gb168)); have n3_ := n2_; clear HB; have HB := n0_; have BK168 := n1_; have GW168 := n2_; have GE168 := n3_; clear n0_ n1_ n2_ n3_; clear hb hbox hg; have p5 : 0 ≤ (a1 : Int) := dQ; have q5 : a1 < (a0.size : Int) := dQ; have hx5 := Qbx a0 a1; replace p5 := eq_true p5; replace q5 := eq_true q5) | ((with_reducible refine Qas (f := 64) rfl ?_); refine Qbm (some 13) rfl rfl Try.func64 (by kernel_rfl) rfl #[.int .u8 (bt a0 a1)] rfl mQ ?_; (with_reducible refine (Qa7.calls (bt a0 a1) false _ A6.o).mono ?_); rintro e w' ⟨rfl, ⟨nd, rfl⟩⟩; refine ⟨_, rfl, ?_⟩; (try (rw [Qbz w28]; generalize hq_ : World.drewN w28 _ = w28; have n0_ : J0 (w28.heap[gb168]? = some (.cells #[.int .i64 0, .string ⟨#[]⟩, .int .u64 0, .int .i64 0, .int .i64 0] 47 (0, 0))) := ⟨by rw [← hq_]; exact (by (with_reducible repeat (first | apply Qae | apply Qah | apply Qag)); exact BK168.o)⟩; have n1_ : J0 (Below w.heap.size w w28) := ⟨by rw [← hq_]; exact (by repeat (first | (with_reducible first | exact HB.o | apply Qab | apply Qac | apply Qad | refine Qal ?_ GE168.o) | exact HB.o))⟩; clear BK168 HB hq_; have BK168 := n0_; have HB := n1_; clear n0_ n1_))) | ((with_reducible refine Qas (f := 66) rfl ?_); refine Qbm (some 22) rfl rfl Try.func66 (by kernel_rfl) rfl #[.int .u8 (bt a0 a1)] rfl mQ ?_; (with_reducible refine (Qay.calls (bt a0 a1) false _ A12.o).mono ?_); rintro e w' ⟨rfl, ⟨nd, rfl⟩⟩; refine ⟨_, rfl, ?_⟩; (try (rw [Qbz w28]; generalize hq_ : World.drewN w28 _ = w28; have n0_ : J0 (w28.heap[gb168]? = some (.cells #[.int .i64 0, .string ⟨#[]⟩, .int .u64 0, .int .i64 0, .int .i64 0] 47 (0, 0))) := ⟨by rw [← hq_]; exact (by (with_reducible repeat (first | apply Qae | apply Qah | apply Qag)); exact BK168.o)⟩; have n1_ : J0 (Below w.heap.size w w28) := ⟨by rw [← hq_]; exact (by repeat (first | (with_reducible first | exact HB.o | apply Qab | apply Qac | apply Qad | refine Qal ?_ GE168.o) | exact HB.o))⟩; clear BK168 HB hq_; have BK168 := n0_; have HB := n1_; clear n0_ n1_))) | ((with_reducible refine Qas (f := 69) rfl ?_); refine Qbm (some 40) rfl rfl Try.func69 (by kernel_rfl) rfl #[.int .u8 (bt a0 a1)] rfl mQ ?_; (with_reducible refine (Qa0.calls k (bt a0 a1) true _ A23.o).mono ?_); rintro e w' ⟨rfl, ⟨nd, rfl⟩⟩; refine ⟨_, rfl, ?_⟩; (try (rw [Qbz w28]; generalize hq_ : World.drewN w28 _ = w28; have n0_ : J0 (w28.heap[gb168]? = some (.cells #[.int .i64 0, .string ⟨#[]⟩, .int .u64 0, .int .i64 0, .int .i64 0] 47 (0, 0))) := ⟨by rw [← hq_]; exact (by (with_reducible repeat (first | apply Qae | apply Qah | apply Qag)); exact BK168.o)⟩; have n1_ : J0 (Below w.heap.size w w28) := ⟨by rw [← hq_]; exact (by repeat (first | (with_reducible first | exact HB.o | apply Qab | apply Qac | apply Qad | refine Qal ?_ GE168.o) | exact HB.o))⟩; clear BK168 HB hq_; have BK168 := n0_; have HB := n1_; clear n0_ n1_)); obtain ⟨hcz29_0, hcz29_1, hcz29_2, hcz29_3, hcz29_4⟩ := (bx5 BK168.o); have hfz29_0 := Qaa BK168.o 0; have hfz29_1 := Qaa BK168.o 1; have hfz29_2 := Qaa BK168.o 2; have hfz29_3 := Qaa BK168.o 3; have hfz29_4 := Qaa BK168.o 4))
         refine bodyPost_ret (Qbf rfl _ _ gb168 47 #[.int .i64 4, .string (a0.extract (a1 : Int).toNat ((wrap64 (a1 + 1)) : Int).toNat), .int .u64 0, .int .i64 a1, .int .i64 (wrap64 (a1 + 1))] (0, 0) _ rfl (by (with_reducible repeat (first | apply Qae | apply Qah | apply Qag)); apply sv5; (with_reducible repeat (first | apply Qae | apply Qah | apply Qag)); exact BK168.o) Try.underlying47 rfl (by kernel_rfl)) rfl ?_
         exact ⟨by first | rfl | (simp [Qav, Qau] <;> rfl) | (simp [*, Qav, Qau] <;> rfl), by repeat (first | (with_reducible first | exact HB.o | apply Qab | apply Qac | apply Qad | refine Qal ?_ GE168.o) | exact HB.o)⟩
        ·rw [if_neg c27] at H
         exact absurd H (by simp)
       ·rw [if_neg c26] at H
        exact absurd H (by simp)
      ·replace c24 := Bool.eq_false_iff.mpr c24
       subst c24
       have H1 : (some (0, (⟨#[]⟩ : ByteArray), 0, 0, 0, a1, 80)) = some (r1, r2, r3, r4, r5, r6, r7) := by rw [if_neg (show ¬ (false = true) by decide)] at H; exact H
       clear H
       have H := H1
       clear H1
       simp only [Option.some.injEq, Prod.mk.injEq] at H
       obtain ⟨rfl, rfl, rfl, rfl, rfl, rfl, rfl⟩ := H
       go_enter Try.func42, Try.ntmps42
       go_wp2_with (first | ((with_reducible refine Qbv (N := 4) rfl ?_); refine Qbn ?hg (N := 4) ?hd (cs := zT0) (t := 47) ?hr ?_; (case hd => rfl); (case hg => rfl); (case hr => first | (go_simp; done) | (go_simp; rfl)); intro gb168 hg w30 hbox hb; have n0_ := J0.m (Qap bR hb); have n1_ := J0.m (hbox); have n2_ := J0.m ((by rw [hg]; exact (Qa8 bR) : w.heap.size ≤ gb168)); have n3_ := n2_; clear HB; have HB := n0_; have BK168 := n1_; have GW168 := n2_; have GE168 := n3_; clear n0_ n1_ n2_ n3_; clear hb hbox hg; have p5 : 0 ≤ (a1 : Int) := dQ; have q5 : a1 < (a0.size : Int) := dQ; have hx5 := Qbx a0 a1; replace p5 := eq_true p5; replace q5 := eq_true q5) | ((with_reducible refine Qas (f := 64) rfl ?_); refine Qbm (some 13) rfl rfl Try.func64 (by kernel_rfl) rfl #[.int .u8 (bt a0 a1)] rfl mQ ?_; (with_reducible refine (Qa7.calls (bt a0 a1) false _ A6.o).mono ?_); rintro e w' ⟨rfl, ⟨nd, rfl⟩⟩; refine ⟨_, rfl, ?_⟩; (try (rw [Qbz w30]; generalize hq_ : World.drewN w30 _ = w30; have n0_ : J0 (w30.heap[gb168]? = some (.cells #[.int .i64 0, .string ⟨#[]⟩, .int .u64 0, .int .i64 0, .int .i64 0] 47 (0, 0))) := ⟨by rw [← hq_]; exact (by (with_reducible repeat (first | apply Qae | apply Qah | apply Qag)); exact BK168.o)⟩; have n1_ : J0 (Below w.heap.size w w30) := ⟨by rw [← hq_]; exact (by repeat (first | (with_reducible first | exact HB.o | apply Qab | apply Qac | apply Qad | refine Qal ?_ GE168.o) | exact HB.o))⟩; clear BK168 HB hq_; have BK168 := n0_; have HB := n1_; clear n0_ n1_))) | ((with_reducible refine Qas (f := 66) rfl ?_); refine Qbm (some 22) rfl rfl Try.func66 (by kernel_rfl) rfl #[.int .u8 (bt a0 a1)] rfl mQ ?_; (with_reducible refine (Qay.calls (bt a0 a1) false _ A12.o).mono ?_); rintro e w' ⟨rfl, ⟨nd, rfl⟩⟩; refine ⟨_, rfl, ?_⟩; (try (rw [Qbz w30]; generalize hq_ : World.drewN w30 _ = w30; have n0_ : J0 (w30.heap[gb168]? = some (.cells #[.int .i64 0, .string ⟨#[]⟩, .int .u64 0, .int .i64 0, .int .i64 0] 47 (0, 0))) := ⟨by rw [← hq_]; exact (by (with_reducible repeat (first | apply Qae | apply Qah | apply Qag)); exact BK168.o)⟩; have n1_ : J0 (Below w.heap.size w w30) := ⟨by rw [← hq_]; exact (by repeat (first | (with_reducible first | exact HB.o | apply Qab | apply Qac | apply Qad | refine Qal ?_ GE168.o) | exact HB.o))⟩; clear BK168 HB hq_; have BK168 := n0_; have HB := n1_; clear n0_ n1_))) | ((with_reducible refine Qas (f := 69) rfl ?_); refine Qbm (some 40) rfl rfl Try.func69 (by kernel_rfl) rfl #[.int .u8 (bt a0 a1)] rfl mQ ?_; (with_reducible refine (Qa0.calls k (bt a0 a1) false _ A23.o).mono ?_); rintro e w' ⟨rfl, ⟨nd, rfl⟩⟩; refine ⟨_, rfl, ?_⟩; (try (rw [Qbz w30]; generalize hq_ : World.drewN w30 _ = w30; have n0_ : J0 (w30.heap[gb168]? = some (.cells #[.int .i64 0, .string ⟨#[]⟩, .int .u64 0, .int .i64 0, .int .i64 0] 47 (0, 0))) := ⟨by rw [← hq_]; exact (by (with_reducible repeat (first | apply Qae | apply Qah | apply Qag)); exact BK168.o)⟩; have n1_ : J0 (Below w.heap.size w w30) := ⟨by rw [← hq_]; exact (by repeat (first | (with_reducible first | exact HB.o | apply Qab | apply Qac | apply Qad | refine Qal ?_ GE168.o) | exact HB.o))⟩; clear BK168 HB hq_; have BK168 := n0_; have HB := n1_; clear n0_ n1_)); obtain ⟨hcz31_0, hcz31_1, hcz31_2, hcz31_3, hcz31_4⟩ := (bx5 BK168.o); have hfz31_0 := Qaa BK168.o 0; have hfz31_1 := Qaa BK168.o 1; have hfz31_2 := Qaa BK168.o 2; have hfz31_3 := Qaa BK168.o 3; have hfz31_4 := Qaa BK168.o 4))
       refine bodyPost_ret (Qbf rfl _ _ gb168 47 #[.int .i64 0, .string ⟨#[]⟩, .int .u64 0, .int .i64 0, .int .i64 0] (0, 0) _ rfl (by (with_reducible repeat (first | apply Qae | apply Qah | apply Qag)); apply sv5; (with_reducible repeat (first | apply Qae | apply Qah | apply Qag)); exact BK168.o) Try.underlying47 rfl (by kernel_rfl)) rfl ?_
       exact ⟨by first | rfl | (simp [Qav, Qau] <;> rfl) | (simp [*, Qav, Qau] <;> rfl), by repeat (first | (with_reducible first | exact HB.o | apply Qab | apply Qac | apply Qad | refine Qal ?_ GE168.o) | exact HB.o)⟩
  ·rw [if_neg c4] at H
   exact absurd H (by simp)
 ·rw [if_neg c3] at H
  exact absurd H (by simp)
def Qaz.l0 : Nat → ByteArray → List (S47) → Int → Option ((List (S47)) × Int × Int)
 | 0, _, _, _ => none
 | k + 1, x0, x5, x6 => if x6 < (x0.size : Int) then ((Qb6.f k x0 x6).bind fun bt197 => (if bt197.2.2.2.2.2.2 = 0 then (if x5.length < 2932031007402 then ((Qan.f k x0 bt197.2.2.2.2.1).bind fun t208 => (Qaz.l0 k x0 (x5 ++ [(⟨bt197.1, bt197.2.1, bt197.2.2.1, bt197.2.2.2.1, bt197.2.2.2.2.1⟩ : S47)]) t208)) else (none)) else (some (([] : List (S47)), bt197.2.2.2.2.2.1, bt197.2.2.2.2.2.2)))) else (if x5.length < 2932031007402 then (some ((x5 ++ [(⟨0, (⟨#[]⟩ : ByteArray), 0, (x0.size : Int), (x0.size : Int)⟩ : S47)]), 0, 0)) else (none))
def Qaz.f (k : Nat) (a0 : ByteArray) : Option ((List (S47)) × Int × Int) := if (a0.size : Int) > 1048576 then (some (([] : List (S47)), 0, 2)) else ((Qan.f k a0 0).bind fun t193 => (Qaz.l0 k a0 ([] : List (S47)) t193))
theorem Qaz.calls (k : Nat) (a0 : ByteArray) (r1 : List (S47)) (r2 : Int) (r3 : Int) (w : World) (h : Qaz.f k a0 = some (r1, r2, r3)) :
  Calls Try.prog 25 #[.string a0] w fun e w' => ∃ v0_ : Value, e = .returned (.tuple #[v0_, .int .i64 r2, .int .i64 r3]) ∧ Kd.R k47 47 w' w.heap.size (fun _ => True) v0_ r1 ∧ Below w.heap.size w w' := by
 have hu47 := Try.underlying47
 have HB := J0.m (Below.refl w.heap.size w)
 have H : (if (a0.size : Int) > 1048576 then (some (([] : List (S47)), 0, 2)) else ((Qan.f k a0 0).bind fun t193 => (Qaz.l0 k a0 ([] : List (S47)) t193))) = some (r1, r2, r3) := h
 clear h
 by_cases c2 : (a0.size : Int) > 1048576
 ·rw [if_pos c2] at H
  have c2b0 : decide (1048576 < (a0.size : Int)) = true := decide_eq_true c2
  have c2b1 : decide (1048576 < a0.size) = true := decide_eq_true (by omega)
  clear c2
  simp only [Option.some.injEq, Prod.mk.injEq] at H
  obtain ⟨rfl, rfl, rfl⟩ := H
  go_enter Try.func25, Try.ntmps25
  go_wp2
  go_ret3
  exact ⟨_, by first | rfl | (simp [Qav, Qau] <;> rfl) | (simp [*, Qav, Qau] <;> rfl), by first | exact Kd.Qdq _ _ _ _ _ | exact Kd.Qju _ _ _ _ _ | exact Kd.Qjo _ _ _ _ _ | exact Kd.Qjt _ _ _ _ _ | exact Kd.Qjq _ _ _ _ _, bR⟩
 ·rw [if_neg c2] at H
  have c2b0 : decide (1048576 < (a0.size : Int)) = false := decide_eq_false c2
  have c2b1 : decide (1048576 < a0.size) = false := decide_eq_false (by omega)
  clear c2
  replace H := Option.bind_eq_some_iff.mp H
  obtain ⟨t193, A30, H⟩ := H
  replace H : (Qaz.l0 k a0 ([] : List (S47)) t193) = some (r1, r2, r3) := H
  have A3 := J0.m A30
  clear A30
  have H' := J0.m H
  clear H
  go_enter Try.func25, Try.ntmps25
  go_wp2_with (first | ((with_reducible refine Qas (f := 41) rfl ?_); refine Qbm (some 14) rfl rfl Try.func41 (by kernel_rfl) rfl #[.string a0, .int .i64 0] rfl mQ ?_; (with_reducible refine (Qan.calls k a0 0 t193 _ A3.o).mono ?_); rintro e w' ⟨rfl, ⟨nd, rfl⟩⟩; refine ⟨_, rfl, ?_⟩))
  go_loopg [5, 6] k (fun kq v5 v6 w' => ∃ (x5_1 : List (S47)) (x6_1 : Int), v6 = .int .i64 x6_1 ∧ J0 (Qaz.l0 kq a0 x5_1 x6_1 = some (r1, r2, r3)) ∧ J0 (kq ≤ k) ∧ J0 (Kd.R k47 47 w' w.heap.size (fun _ => True) v5 x5_1) ∧ J0 (Below w.heap.size w w'))
  case atStart => exact ⟨(([] : List (S47))), (t193), (by first | rfl | (simp; done) | (simp [*]; done)), H', ⟨Nat.le_refl _⟩, ⟨by first | exact Kd.Qdq _ _ _ _ _ | exact Kd.Qju _ _ _ _ _ | exact Kd.Qjo _ _ _ _ _ | exact Kd.Qjt _ _ _ _ _ | exact Kd.Qjq _ _ _ _ _⟩, ⟨bR⟩⟩
  case round =>
   clear H'
   try clear c2
   try clear c2b0
   try clear c2b1
   try clear p2
   obtain ⟨x5_1, x6_1, rfl, HA, HK1, HO_5, HB⟩ := hrel
   cases gk with
   | zero => exact absurd HA.o (by simp [Qaz.l0])
   | succ k1 =>
    have H := HA.o
    clear HA
    simp only [Qaz.l0] at H
    by_cases c4 : x6_1 < (a0.size : Int)
    ·rw [if_pos c4] at H
     have c4b0 : decide (x6_1 < (a0.size : Int)) = true := decide_eq_true c4
     clear c4
     replace H := Option.bind_eq_some_iff.mp H
     obtain ⟨⟨t197, t198, t199, t200, t201, t202, t203⟩, A50, H⟩ := H
     replace H : (if t203 = 0 then (if x5_1.length < 2932031007402 then ((Qan.f k1 a0 t201).bind fun t208 => (Qaz.l0 k1 a0 (x5_1 ++ [(⟨t197, t198, t199, t200, t201⟩ : S47)]) t208)) else (none)) else (some (([] : List (S47)), t202, t203))) = some (r1, r2, r3) := H
     have A5 := J0.m A50
     clear A50
     by_cases c6 : t203 = 0
     ·rw [if_pos c6] at H
      have c6b0 : (t203 == 0) = true := beq_iff_eq.mpr c6
      have c6b1 : (t203 != 0) = false := bne_eq_false_iff_eq.mpr c6
      clear c6
      by_cases c7 : x5_1.length < 2932031007402
      ·rw [if_pos c7] at H
       have LMc7 := J0.m c7
       clear c7
       obtain ⟨y205, hy205⟩ : ∃ y_ : List (S47), y_ = (x5_1 ++ [(⟨t197, t198, t199, t200, t201⟩ : S47)]) := ⟨_, rfl⟩
       replace H : ((Qan.f k1 a0 t201).bind fun t208 => (Qaz.l0 k1 a0 y205 t208)) = some (r1, r2, r3) := by first | (rw [hy205]; with_reducible exact H) | (have H2_ := (Option.bind_some _ _).symm.trans H; rw [hy205]; with_reducible exact H2_) | (have H2_ := (Option.bind_some _ _).symm.trans H; with_reducible exact H2_) | with_reducible exact H | (rw [hy205]; exact H) | exact H
       have Ny205 := J0.m hy205
       clear hy205
       replace H := Option.bind_eq_some_iff.mp H
       obtain ⟨t208, A80, H⟩ := H
       replace H : (Qaz.l0 k1 a0 y205 t208) = some (r1, r2, r3) := H
       have A8 := J0.m A80
       clear A80
       have H' := J0.m H
       clear H
       go_wp2_with (first | ((with_reducible refine Qas (f := 42) rfl ?_); refine Qbm (some 22) rfl rfl Try.func42 (by kernel_rfl) rfl #[.string a0, .int .i64 x6_1] rfl mQ ?_; (with_reducible refine (Qb6.calls k1 a0 x6_1 t197 t198 t199 t200 t201 t202 t203 _ A5.o).mono ?_); rintro e w9 ⟨rfl, hb⟩; refine ⟨_, rfl, ?_⟩; have n0_ := J0.m (Kd.Qb8 (by (with_reducible repeat (first | apply Kd.Qb2 | apply Kd.Qb1 | apply Kd.Qcg)); exact HO_5.o) hb); have n1_ := J0.m (Qap bR hb); clear HO_5; clear HB; have HO_5 := n0_; have HB := n1_; clear n0_ n1_; (try clear hb); (try clear hb2); (try clear hk); (try clear hi)) | ((with_reducible refine Qbv (N := 7) rfl ?_); refine Qbn ?hg (N := 7) ?hd (cs := zT0) (t := 47) ?hr ?_; (case hd => rfl); (case hg => rfl); (case hr => first | (go_simp; done) | (go_simp; rfl)); intro gb204 hg w10 hbox hb; have n0_ := J0.m (Kd.Qb8 (Kd.Qgw (by (with_reducible repeat (first | apply Kd.Qb2 | apply Kd.Qb1 | apply Kd.Qcg)); exact HO_5.o) gb204 (Nat.le_of_eq hg.symm)) hb); have n1_ := J0.m (Qap bR hb); have n2_ := J0.m (hbox); have n3_ := J0.m ((by rw [hg]; exact (Qa8 bR) : w.heap.size ≤ gb204)); have n4_ := n3_; clear HO_5; clear HB; have HO_5 := n0_; have HB := n1_; have BK204 := n2_; have GW204 := n3_; have GE204 := n4_; clear n0_ n1_ n2_ n3_ n4_; clear hb hbox hg; have hcz11_0 : w10.cell? ⟨gb204, 0, none⟩ = some (.int .i64 0) := (Qaf BK204.o 0).trans rfl; have hcz11_1 : w10.cell? ⟨gb204, 1, none⟩ = some (.string ⟨#[]⟩) := (Qaf BK204.o 1).trans rfl; have hcz11_2 : w10.cell? ⟨gb204, 2, none⟩ = some (.int .u64 0) := (Qaf BK204.o 2).trans rfl; have hcz11_3 : w10.cell? ⟨gb204, 3, none⟩ = some (.int .i64 0) := (Qaf BK204.o 3).trans rfl; have hcz11_4 : w10.cell? ⟨gb204, 4, none⟩ = some (.int .i64 0) := (Qaf BK204.o 4).trans rfl; have hfz11_0 := Qaa BK204.o 0; have hfz11_1 := Qaa BK204.o 1; have hfz11_2 := Qaa BK204.o 2; have hfz11_3 := Qaa BK204.o 3; have hfz11_4 := Qaa BK204.o 4) | ((with_reducible refine Qcm (b := .append) (xs := #[.tmp 30, .tmp 32]) rfl ?_); at_builtin; refine Kd.Qd9 k47 (w0 := w) w.heap.size rfl (.tmp 30) (.tmp 32) 37 47 (.agg #[(.int .i64 0), (.string ⟨#[]⟩), (.int .u64 0), (.int .i64 0), (.int .i64 0)]) 48 rfl Try.underlying37 Qk9 rfl (by decide) (by omega) u5 x5_1 (⟨t197, t198, t199, t200, t201⟩ : S47) [.int .i64 t197, .string t198, .int .u64 t199, .int .i64 t200, .int .i64 t201] (fun k_ => k_ ≠ gb204) (fun _ => False) rfl (by first | (go_simp; done) | (go_simp; rfl)) ?aP (fun _ hk => hk.elim) ?aF ?aO ?aB ?aS ?aL ?_; (case aP => exact Qip _ _ _ (⟨t197, t198, t199, t200, t201⟩ : S47)); (case aB => exact (by repeat (first | (with_reducible first | exact HB.o | apply Qab | apply Qac | apply Qad | refine Qal ?_ GE204.o) | exact HB.o))); (case aF => exact (fun k_ hk => Kd.Qo7 (g := gb204) (o := .cells #[.int .i64 t197, .string t198, .int .u64 t199, .int .i64 t200, .int .i64 t201] 47 (0, 0)) (by (with_reducible repeat (first | apply Qae | apply Qah | apply Qag)); apply sv5; (with_reducible repeat (first | apply Qae | apply Qah | apply Qag)); exact BK204.o) k_ hk)); (case aO => exact (by (with_reducible repeat (first | apply Kd.Qb2 | apply Kd.Qb1 | apply Kd.Qcg)); exact Kd.Qep (Kd.Qhh (p := ⟨gb204, 4, none⟩) (Kd.Qhh (p := ⟨gb204, 3, none⟩) (Kd.Qhh (p := ⟨gb204, 2, none⟩) (Kd.Qhh (p := ⟨gb204, 1, none⟩) (Kd.Qhh (p := ⟨gb204, 0, none⟩) (Kd.Qep HO_5.o (fun k_ hk => (⟨hk, hk.2⟩ : _ ∧ k_ ≠ gb204))) (fun _ hk => hk.2) (.int .i64 t197)) (fun _ hk => hk.2) (.string t198)) (fun _ hk => hk.2) (.int .u64 t199)) (fun _ hk => hk.2) (.int .i64 t200)) (fun _ hk => hk.2) (.int .i64 t201)) (fun _ hk => hk.1.2))); (case aS => exact (Qa8 (by repeat (first | (with_reducible first | exact HB.o | apply Qab | apply Qac | apply Qad | refine Qal ?_ GE204.o) | exact HB.o)))); (case aL => have := LMc7.o; omega); intro v206 w12 ho hb hg hat; rw [← Ny205.o] at ho; have n0_ := J0.m (Qbh (g := gb204) (o := .cells #[.int .i64 t197, .string t198, .int .u64 t199, .int .i64 t200, .int .i64 t201] 47 (0, 0)) (by (with_reducible repeat (first | apply Qae | apply Qah | apply Qag)); apply sv5; (with_reducible repeat (first | apply Qae | apply Qah | apply Qag)); exact BK204.o) hg (Kd.Qpe HO_5.o (fun _ hk => hk.2))); have n1_ := J0.m (hb); have n2_ := J0.m (ho); clear BK204; clear HB; clear HO_5; have BK204 := n0_; have HB := n1_; have HO207 := n2_; clear n0_ n1_ n2_; clear ho hb hg hat; obtain ⟨hcz13_0, hcz13_1, hcz13_2, hcz13_3, hcz13_4⟩ := (bx5 BK204.o); have hfz13_0 := Qaa BK204.o 0; have hfz13_1 := Qaa BK204.o 1; have hfz13_2 := Qaa BK204.o 2; have hfz13_3 := Qaa BK204.o 3; have hfz13_4 := Qaa BK204.o 4) | ((with_reducible refine Qas (f := 41) rfl ?_); refine Qbm (some 37) rfl rfl Try.func41 (by kernel_rfl) rfl #[.string a0, .int .i64 t201] rfl mQ ?_; (with_reducible refine (Qan.calls k1 a0 t201 t208 _ A8.o).mono ?_); rintro e w' ⟨rfl, ⟨nd, rfl⟩⟩; refine ⟨_, rfl, ?_⟩))
       go_roundg k1
       case measure => have := HK1.o; omega
       case rel => exact ⟨(y205), (t208), (by first | rfl | (simp; done) | (simp [*]; done)), H', ⟨by have := HK1.o; omega⟩, ⟨by (with_reducible repeat (first | apply Kd.Qb2 | apply Kd.Qb1 | apply Kd.Qcg)); exact Kd.Qep HO207.o (fun _ hk => trivial)⟩, ⟨by repeat (first | (with_reducible first | exact HB.o | apply Qab | apply Qac | apply Qad | refine Qal ?_ GE204.o) | exact HB.o)⟩⟩
      ·rw [if_neg c7] at H
       exact absurd H (by simp)
     ·rw [if_neg c6] at H
      have c6b0 : (t203 == 0) = false := beq_eq_false_iff_ne.mpr c6
      have c6b1 : (t203 != 0) = true := bne_iff_ne.mpr c6
      simp only [Option.some.injEq, Prod.mk.injEq] at H
      obtain ⟨rfl, rfl, rfl⟩ := H
      go_wp2_with (first | ((with_reducible refine Qas (f := 42) rfl ?_); refine Qbm (some 22) rfl rfl Try.func42 (by kernel_rfl) rfl #[.string a0, .int .i64 x6_1] rfl mQ ?_; (with_reducible refine (Qb6.calls k1 a0 x6_1 t197 t198 t199 t200 t201 t202 t203 _ A5.o).mono ?_); rintro e w14 ⟨rfl, hb⟩; refine ⟨_, rfl, ?_⟩; have n0_ := J0.m (Kd.Qb8 (by (with_reducible repeat (first | apply Kd.Qb2 | apply Kd.Qb1 | apply Kd.Qcg)); exact HO_5.o) hb); have n1_ := J0.m (Qap bR hb); clear HO_5; clear HB; have HO_5 := n0_; have HB := n1_; clear n0_ n1_; (try clear hb); (try clear hb2); (try clear hk); (try clear hi)) | ((with_reducible refine Qbv (N := 7) rfl ?_); refine Qbn ?hg (N := 7) ?hd (cs := zT0) (t := 47) ?hr ?_; (case hd => rfl); (case hg => rfl); (case hr => first | (go_simp; done) | (go_simp; rfl)); intro gb204 hg w15 hbox hb; have n0_ := J0.m (Kd.Qb8 (Kd.Qgw (by (with_reducible repeat (first | apply Kd.Qb2 | apply Kd.Qb1 | apply Kd.Qcg)); exact HO_5.o) gb204 (Nat.le_of_eq hg.symm)) hb); have n1_ := J0.m (Qap bR hb); have n2_ := J0.m (hbox); have n3_ := J0.m ((by rw [hg]; exact (Qa8 bR) : w.heap.size ≤ gb204)); have n4_ := n3_; clear HO_5; clear HB; have HO_5 := n0_; have HB := n1_; have BK204 := n2_; have GW204 := n3_; have GE204 := n4_; clear n0_ n1_ n2_ n3_ n4_; clear hb hbox hg; obtain ⟨hcz16_0, hcz16_1, hcz16_2, hcz16_3, hcz16_4⟩ := (bx5 BK204.o); have hfz16_0 := Qaa BK204.o 0; have hfz16_1 := Qaa BK204.o 1; have hfz16_2 := Qaa BK204.o 2; have hfz16_3 := Qaa BK204.o 3; have hfz16_4 := Qaa BK204.o 4))
      go_ret3
      exact ⟨_, by first | rfl | (simp [Qav, Qau] <;> rfl) | (simp [*, Qav, Qau] <;> rfl), by first | exact Kd.Qdq _ _ _ _ _ | exact Kd.Qju _ _ _ _ _ | exact Kd.Qjo _ _ _ _ _ | exact Kd.Qjt _ _ _ _ _ | exact Kd.Qjq _ _ _ _ _, by repeat (first | (with_reducible first | exact HB.o | apply Qab | apply Qac | apply Qad | refine Qal ?_ GE204.o) | exact HB.o)⟩
    ·rw [if_neg c4] at H
     have c4b0 : decide (x6_1 < (a0.size : Int)) = false := decide_eq_false c4
     clear c4
     by_cases c17 : x5_1.length < 2932031007402
     ·rw [if_pos c17] at H
      have LMc17 := J0.m c17
      clear c17
      obtain ⟨y194, hy194⟩ : ∃ y_ : List (S47), y_ = (x5_1 ++ [(⟨0, (⟨#[]⟩ : ByteArray), 0, (a0.size : Int), (a0.size : Int)⟩ : S47)]) := ⟨_, rfl⟩
      replace H : (some (y194, 0, 0)) = some (r1, r2, r3) := by first | (rw [hy194]; with_reducible exact H) | (have H2_ := (Option.bind_some _ _).symm.trans H; rw [hy194]; with_reducible exact H2_) | (have H2_ := (Option.bind_some _ _).symm.trans H; with_reducible exact H2_) | with_reducible exact H | (rw [hy194]; exact H) | exact H
      have Ny194 := J0.m hy194
      clear hy194
      simp only [Option.some.injEq, Prod.mk.injEq] at H
      obtain ⟨rfl, rfl, rfl⟩ := H
      go_wp2_with (first | ((with_reducible refine Qcm (b := .append) (xs := #[.tmp 38, .tmp 44]) rfl ?_); at_builtin; refine Kd.Qd9 k47 (w0 := w) w.heap.size rfl (.tmp 38) (.tmp 44) 37 47 (.agg #[(.int .i64 0), (.string ⟨#[]⟩), (.int .u64 0), (.int .i64 0), (.int .i64 0)]) 48 rfl Try.underlying37 Qk9 rfl (by decide) (by omega) u5 x5_1 (⟨0, (⟨#[]⟩ : ByteArray), 0, (a0.size : Int), (a0.size : Int)⟩ : S47) [.int .i64 0, .string ⟨#[]⟩, .int .u64 0, .int .i64 (a0.size : Int), .int .i64 (a0.size : Int)] (fun _ => True) (fun _ => False) rfl rfl ?aP (fun _ hk => hk.elim) ?aF ?aO ?aB ?aS ?aL ?_; (case aP => exact Qip _ _ _ (⟨0, (⟨#[]⟩ : ByteArray), 0, (a0.size : Int), (a0.size : Int)⟩ : S47)); (case aB => exact bR); (case aF => exact (fun _ _ => trivial)); (case aO => exact (by (with_reducible repeat (first | apply Kd.Qb2 | apply Kd.Qb1 | apply Kd.Qcg)); exact HO_5.o)); (case aS => exact (Qa8 bR)); (case aL => have := LMc17.o; omega); intro v195 w18 ho hb hg hat; rw [← Ny194.o] at ho; have n0_ := J0.m (hb); have n1_ := J0.m (ho); clear HB; clear HO_5; have HB := n0_; have HO196 := n1_; clear n0_ n1_; clear ho hb hg hat))
      go_ret3
      exact ⟨_, by first | rfl | (simp [Qav, Qau] <;> rfl) | (simp [*, Qav, Qau] <;> rfl), by (with_reducible repeat (first | apply Kd.Qb2 | apply Kd.Qb1 | apply Kd.Qcg)); exact HO196.o, bR⟩
     ·rw [if_neg c17] at H
      exact absurd H (by simp)
def Qbi.l0 : Nat → List ByteArray → Int → Int → Option (Bool)
 | 0, _, _, _ => none
 | k + 1, x0, x3, x4 => if x4 < (x0.length : Int) then (if x3 ≤ 16777216 then (if 0 ≤ x4 then (Qbi.l0 k x0 (wrap64 (x3 + ((rdOf ByteArray.empty x0 x4).size : Int))) (wrap64 (x4 + 1))) else (none)) else (some (decide (x3 > 16777216)))) else (some (decide (x3 > 16777216)))
def Qbi.f (k : Nat) (l0 : List ByteArray) : Option (Bool) := Qbi.l0 k l0 0 0
theorem Qbi.calls (k : Nat) (A0 : Option Addr) (c0 : Nat) (l0 : List ByteArray) (r : Bool) (w : World) (hr0 : Kd.C Kd.string w A0 l0.length l0) (hc0 : l0.length ≤ c0) (h : Qbi.f k l0 = some r) :
  Calls Try.prog 11 #[.slice A0 l0.length c0] w fun e w' => e = .returned (.bool r) ∧ Qa9 w w' := by
 have HR0 := J0.m hr0
 have HC0 := J0.m hc0
 clear hr0 hc0
 have H : (Qbi.l0 k l0 0 0) = some r := h
 clear h
 have H' := J0.m H
 clear H
 go_enter Try.func11, Try.ntmps11
 go_wp2
 go_loopg [3, 4] k (fun kq v3 v4 w' => ∃ (x3_1 : Int) (x4_1 : Int), v3 = .int .i64 x3_1 ∧ v4 = .int .i64 x4_1 ∧ J0 (Qbi.l0 kq l0 x3_1 x4_1 = some r) ∧ J0 (kq ≤ k) ∧ Qa9 w w')
 case atStart => exact ⟨(0), (0), (by first | rfl | (simp; done) | (simp [*]; done)), (by first | rfl | (simp; done) | (simp [*]; done)), H', ⟨Nat.le_refl _⟩, dR⟩
 case round =>
  clear H'
  try clear c1
  obtain ⟨x3_1, x4_1, rfl, rfl, HA, HK1, ⟨m1, rfl⟩⟩ := hrel
  cases gk with
  | zero => exact absurd HA.o (by simp [Qbi.l0])
  | succ k1 =>
   have H := HA.o
   clear HA
   simp only [Qbi.l0] at H
   by_cases c2 : x4_1 < (l0.length : Int)
   ·rw [if_pos c2] at H
    have c2b0 : decide (x4_1 < (l0.length : Int)) = true := decide_eq_true c2
    clear c2
    by_cases c3 : x3_1 ≤ 16777216
    ·rw [if_pos c3] at H
     have c3b0 : decide (x3_1 ≤ 16777216) = true := decide_eq_true c3
     clear c3
     by_cases c4 : 0 ≤ x4_1
     ·rw [if_pos c4] at H
      have c4b0 : decide (0 ≤ x4_1) = true := decide_eq_true c4
      clear c4
      have H' := J0.m H
      clear H
      have p209 : 0 ≤ (x4_1 : Int) := dQ
      have q209 : x4_1 < (l0.length : Int) := dQ
      obtain ⟨ad209, e209, hx209_0⟩ := Kd.Qfh HR0.o x4_1 p209 q209
      cases e209
      replace p209 := eq_true p209
      replace q209 := eq_true q209
      go_wp2
      go_roundg k1
      case measure => have := HK1.o; omega
      case rel => exact ⟨(wrap64 (x3_1 + ((rdOf ByteArray.empty l0 x4_1).size : Int))), (wrap64 (x4_1 + 1)), (by first | rfl | (simp; done) | (simp [*]; done)), (by first | rfl | (simp; done) | (simp [*]; done)), H', ⟨by have := HK1.o; omega⟩, dR⟩
     ·rw [if_neg c4] at H
      exact absurd H (by simp)
    ·rw [if_neg c3] at H
     have c3b0 : decide (x3_1 ≤ 16777216) = false := decide_eq_false c3
     clear c3
     obtain rfl := Option.some.inj H
     go_wp2
     go_ret
     exact eQ
   ·rw [if_neg c2] at H
    have c2b0 : decide (x4_1 < (l0.length : Int)) = false := decide_eq_false c2
    clear c2
    obtain rfl := Option.some.inj H
    go_wp2
    go_ret
    exact eQ
end Go.Proofs.Ytbdcndkafaajpaa.X
end
section
namespace Go.Proofs.Ytbdcndkafaajpaa.T
open Go.RowKit Ytbdcndkafaajpaa Ytbdcndkafaajpaa.X Ytbdcndkafaajpaa.L YtbdcndkafaajpaaW.PrintWords YtbdcndkafaajpaaW.PrintLast YtbdcndkafaajpaaW.PrintMore
theorem Qme (b : UInt8) : Qby.f (b.toNat : Int) = some (L.blank b) := by
 unfold Qby.f L.blank
 by_cases h1 : b.toNat = 32
 ·rw [if_pos (by omega), h1]; rfl
 by_cases h2 : b.toNat = 9
 ·rw [if_neg (by omega), if_pos (by omega), h2]; rfl
 by_cases h3 : b.toNat = 10
 ·rw [if_neg (by omega), if_neg (by omega), if_pos (by omega), h3]; rfl
 rw [if_neg (by omega), if_neg (by omega), if_neg (by omega)]
 congr 1
 rw [Bool.eq_iff_iff, beq_iff_eq, decide_eq_true_iff]; omega
theorem Qk0 (s : ByteArray) (hs : s.size ≤ 70368744177664) : ∀ (d i : Nat), s.size - i ≤ d → i ≤ s.size → Ev (fun k => Qan.l0 k s (i : Int)) ((i + sk false (s.data.toList.drop i) : Nat) : Int) ∧ Ev (fun k => Qan.l1 k s (i : Int)) ((i + sk true (s.data.toList.drop i) : Nat) : Int) := by
 intro d
 induction d with
 | zero =>
  intro i hd hi
  obtain rfl : i = s.size := by omega
  have e : s.data.toList.drop s.size = [] := List.drop_of_length_le (by rw [← Qcd]; omega)
  have h0 : Ev (fun k => Qan.l0 k s (s.size : Int)) ((s.size + sk false (s.data.toList.drop s.size) : Nat) : Int) := by
   refine Ev.step (fun k => by simp only [Qan.l0]; rfl) ?_
   simp only [Int.lt_irrefl, if_false, e, sk, Nat.add_zero]
   exact Ev.now _
  refine ⟨h0, Ev.step (fun k => by simp only [Qan.l1]; rfl) ?_⟩
  simp only [Int.lt_irrefl, if_false]
  rw [e] at h0 ⊢
  exact h0
 | succ d ih =>
  intro i hd hi
  cases hl : s.data.toList.drop i with
  | nil =>
   have := Qcj hl hi
   simp only [List.length_nil] at this
   have := ih i (by omega) hi
   rw [hl] at this; exact this
  | cons b t =>
   have hlt := Qdx hl
   have hbt := Qdd hl
   have hnx := Qci hl
   have ihn := ih (i + 1) (by omega) (by omega)
   rw [hnx] at ihn
   have W : wrap64 ((i : Int) + 1) = ((i + 1 : Nat) : Int) := w1 1 (by omega)
   have c1 : (i : Int) < (s.size : Int) := by omega
   have c2 : (0 : Int) ≤ (i : Int) := by omega
   have hR : b.toNat ≠ 10 → Ev (fun k => Qan.l1 k s (i : Int)) ((i + (sk true t + 1) : Nat) : Int) := by
    intro h
    refine Ev.step (fun k => by simp only [Qan.l1]; rfl) ?_
    simp only [if_pos c1, if_pos c2, hbt, if_neg (show ¬ (b.toNat : Int) = 10 by omega), W]
    rw [show i + (sk true t + 1) = i + 1 + sk true t by omega]
    exact ihn.2
   have h0 : Ev (fun k => Qan.l0 k s (i : Int)) ((i + sk false (b :: t) : Nat) : Int) := by
    refine Ev.step (fun k => by simp only [Qan.l0]; rfl) ?_
    simp only [if_pos c1, if_pos c2, hbt, Qme, Option.bind_some]
    rw [sk]
    by_cases hb : L.blank b = true
    ·rw [if_pos hb]
     simp only [if_pos hb, W]
     rw [show i + (sk false t + 1) = i + 1 + sk false t by omega]
     exact ihn.1
    ·rw [if_neg hb]
     simp only [if_neg hb]
     by_cases h5 : b.toNat = 35
     ·rw [if_pos h5]
      simp only [if_pos (show (b.toNat : Int) = 35 by omega)]
      exact hR (by omega)
     ·rw [if_neg h5]
      simp only [if_neg (show ¬ (b.toNat : Int) = 35 by omega), Nat.add_zero]
      exact Ev.now _
   refine ⟨h0, ?_⟩
   rw [sk]
   by_cases h10 : b.toNat = 10
   ·refine Ev.step (fun k => by simp only [Qan.l1]; rfl) ?_
    simp only [if_pos c1, if_pos c2, hbt, if_pos (show (b.toNat : Int) = 10 by omega)]
    rw [show (b.toNat != 10) = false by rw [h10]; rfl]
    rw [sk, if_pos (by unfold L.blank; rw [h10]; rfl)] at h0
    exact h0
   ·rw [show (b.toNat != 10) = true by rw [bne_iff_ne]; exact h10]
    exact hR h10
theorem Qil (b : UInt8) : Qay.f (b.toNat : Int) = some (isD b) := Qmu b
theorem Qmc (b : UInt8) : Qa7.f (b.toNat : Int) = some (isL b) := by
 unfold Qa7.f isL G.letr
 have e : ∀ x : Bool, (x = true ↔ ((97 ≤ (b.toNat : Int) ∧ (b.toNat : Int) ≤ 122) ∨ (65 ≤ (b.toNat : Int) ∧ (b.toNat : Int) ≤ 90) ∨ (b.toNat : Int) = 95)) → some x = some (decide ((97 ≤ (b.toNat : Int) ∧ (b.toNat : Int) ≤ 122) ∨ (65 ≤ (b.toNat : Int) ∧ (b.toNat : Int) ≤ 90) ∨ (b.toNat : Int) = 95)) := fun x h => by rw [Option.some.injEq, Bool.eq_iff_iff, decide_eq_true_iff]; exact h
 repeat' split
 all_goals refine e _ ?_
 all_goals first | (simp only [true_iff]; omega) | (simp only [Bool.false_eq_true, false_iff]; omega) | (rw [decide_eq_true_iff]; omega)
theorem Qj6 (b : UInt8) : Ev (fun k => Qam.f k (b.toNat : Int)) (hexI b) := by
 have e : ∀ k x y, Qam.j0 k x y = Qa6.j0 k x y := fun k x y => by cases k <;> rfl
 refine Ev.congr (fun k => ?_) (Qla b)
 unfold Qam.f Qa6.f
 simp only [e]
 rfl
def Qj7 (p : Nat) (t : List UInt8) : Int × Int := match esc t with | some (c, n) => ((c.toNat : Int), ((1 + n : Nat) : Int)) | none => (0, 0)
theorem Qlm (s : ByteArray) (hs : s.size ≤ 70368744177664) (p : Nat) (b : UInt8) (t : List UInt8) (hp : s.data.toList.drop p = b :: t) : Ev (fun k => Qak.f k s (p : Int)) (Qj7 p t) := by
 have hlt := Qdx hp
 have hn1 := Qci hp
 have hsz := Qcj hp (by omega)
 rw [List.length_cons] at hsz
 have W1 : wrap64 ((p : Int) + 1) = ((p + 1 : Nat) : Int) := w1 1 (by omega)
 have W2 : wrap64 ((p : Int) + 2) = ((p + 2 : Nat) : Int) := w1 2 (by omega)
 have W3 : wrap64 ((p : Int) + 3) = ((p + 3 : Nat) : Int) := w1 3 (by omega)
 have W4 : wrap64 ((p : Int) + 4) = ((p + 4 : Nat) : Int) := w1 4 (by omega)
 unfold Qak.f Qj7
 simp only [W1]
 cases t with
 | nil =>
  simp only [List.length_nil] at hsz
  simp only [if_pos (show ((p + 1 : Nat) : Int) ≥ (s.size : Int) by omega), esc]
  exact Ev.now _
 | cons c t =>
  have hb1 := Qdd hn1
  have hn2 := Qci hn1
  simp only [List.length_cons] at hsz
  simp only [if_neg (show ¬ ((p + 1 : Nat) : Int) ≥ (s.size : Int) by omega), if_pos (show (0 : Int) ≤ ((p + 1 : Nat) : Int) by omega), if_pos (show ((p + 1 : Nat) : Int) < (s.size : Int) by omega), hb1, esc]
  by_cases h1 : c.toNat = 92 ∨ c.toNat = 34
  ·have key : Ev (fun k => Qak.j0 k s (p : Int) (c.toNat : Int) true) ((c.toNat : Int), ((2 : Nat) : Int)) := by
    refine Ev.step (fun k => by simp only [Qak.j0]; rfl) ?_
    simp only [if_true, W1, W2, if_pos (show (0 : Int) ≤ ((p + 1 : Nat) : Int) by omega), if_pos (show ((p + 1 : Nat) : Int) < (s.size : Int) by omega), hb1]
    exact Ev.now _
   simp only [if_pos h1]
   by_cases h2 : c.toNat = 92
   ·simp only [if_pos (show (c.toNat : Int) = 92 by omega), show ((c.toNat : Int) == 92) = true by rw [beq_iff_eq]; omega]; exact key
   ·simp only [if_neg (show ¬ (c.toNat : Int) = 92 by omega), show ((c.toNat : Int) == 34) = true by rw [beq_iff_eq]; omega]; exact key
  ·have h92 : ¬ (c.toNat : Int) = 92 := by omega
   have h34 : ((c.toNat : Int) == 34) = false := by rw [beq_eq_false_iff_ne]; omega
   simp only [if_neg h1, if_neg h92, h34]
   refine Ev.step (fun k => by simp only [Qak.j0]; rfl) ?_
   simp only [Bool.false_eq_true, if_false, W2, W3]
   by_cases h2 : c.toNat = 110
   ·simp only [if_pos h2, if_pos (show (c.toNat : Int) = 110 by omega)]; exact Ev.now _
   simp only [if_neg h2, if_neg (show ¬ (c.toNat : Int) = 110 by omega)]
   by_cases h3 : c.toNat = 116
   ·simp only [if_pos h3, if_pos (show (c.toNat : Int) = 116 by omega)]; exact Ev.now _
   simp only [if_neg h3, if_neg (show ¬ (c.toNat : Int) = 116 by omega)]
   by_cases h4 : c.toNat = 120
   ·simp only [if_pos h4, if_pos (show (c.toNat : Int) = 120 by omega)]
    have jF : Ev (fun k => Qak.j1 k s (p : Int) false) ((0 : Int), (0 : Int)) := by
     refine Ev.step (fun k => by simp only [Qak.j1]; rfl) ?_
     simp only [Bool.false_eq_true, if_false]; exact Ev.now _
    match t, hn2, hsz with
    | [], _, hsz =>
     simp only [List.length_nil] at hsz
     simp only [if_neg (show ¬ ((p + 3 : Nat) : Int) < (s.size : Int) by omega), escx]; exact jF
    | [a], _, hsz =>
     simp only [List.length_nil, List.length_cons] at hsz
     simp only [if_neg (show ¬ ((p + 3 : Nat) : Int) < (s.size : Int) by omega), escx]; exact jF
    | a :: e :: t', hn2, hsz =>
     simp only [List.length_cons] at hsz
     have hba := Qdd hn2
     have hbe := Qdd (Qci hn2)
     simp only [if_pos (show ((p + 3 : Nat) : Int) < (s.size : Int) by omega), if_pos (show (0 : Int) ≤ ((p + 2 : Nat) : Int) by omega), if_pos (show ((p + 2 : Nat) : Int) < (s.size : Int) by omega), if_pos (show (0 : Int) ≤ ((p + 3 : Nat) : Int) by omega), escx]
     rw [show bt s ((p + 2 : Nat) : Int) = (a.toNat : Int) from hba, show bt s ((p + 3 : Nat) : Int) = (e.toNat : Int) from hbe]
     refine Ev.bind (Qj6 a) ?_
     have hea := Qj6 a
     have hee := Qj6 e
     unfold hexI at hea hee ⊢
     cases hx : hexv a with
     | none =>
      simp only [if_neg (show ¬ ((-1 : Int)) ≥ 0 by omega)]
      exact jF
     | some x =>
      simp only [if_pos (show (x : Int) ≥ 0 by omega)]
      rw [hx] at hea; simp only at hea
      refine Ev.bind hee ?_
      cases hy : hexv e with
      | none =>
       simp only [decide_eq_false (show ¬ ((-1 : Int)) ≥ 0 by omega)]
       exact jF
      | some y =>
       rw [hy] at hee; simp only at hee
       have lx := Qir hx
       have ly := Qir hy
       simp only [decide_eq_true (show (y : Int) ≥ 0 by omega)]
       refine Ev.step (fun k => by simp only [Qak.j1]; rfl) ?_
       simp only [if_true, W2, W3, W4, if_pos (show ((p + 3 : Nat) : Int) < (s.size : Int) by omega), if_pos (show (0 : Int) ≤ ((p + 2 : Nat) : Int) by omega), if_pos (show ((p + 2 : Nat) : Int) < (s.size : Int) by omega), if_pos (show (0 : Int) ≤ ((p + 3 : Nat) : Int) by omega)]
       rw [show bt s ((p + 2 : Nat) : Int) = (a.toNat : Int) from hba, show bt s ((p + 3 : Nat) : Int) = (e.toNat : Int) from hbe]
       refine Ev.bind hea ?_
       refine Ev.bind hee ?_
       rw [w64s (x := 16 * (x : Int)) (by omega) (by omega), w64s (x := 16 * (x : Int) + (y : Int)) (by omega) (by omega), Qov (show 16 * x + y < 256 by omega),
        show (16 * (x : Int) + (y : Int)) % 256 = ((16 * x + y : Nat) : Int) by omega]
       exact Ev.now _
   ·simp only [if_neg h4, if_neg (show ¬ (c.toNat : Int) = 120 by omega)]; exact Ev.now _
theorem Qnt (s : ByteArray) (hs : s.size ≤ 70368744177664) (i : Nat) : ∀ (d off : Nat) (acc : List UInt8), s.size - (i + off) ≤ d → i + off ≤ s.size → acc.length ≤ off →
  ∃ p, Ev (fun k => Qao.l0 k s (i : Int) (nums acc) ((i + off : Nat) : Int)) p ∧ Qlf i (tx off acc (s.data.toList.drop (i + off))) p := by
 have bad : ∀ (off : Nat) (acc : List UInt8), Ev (fun k => Qao.j1 k s (i : Int) (nums acc) ((i + off : Nat) : Int) false) ((0 : Int), (⟨#[]⟩ : ByteArray), (0 : Int), (0 : Int), (0 : Int), (i : Int), (81 : Int)) := by
  intro off acc
  refine Ev.step (fun k => by simp only [Qao.j1]; rfl) ?_
  simp only [Bool.false_eq_true, if_false]; exact Ev.now _
 intro d
 induction d with
 | zero =>
  intro off acc hd hi ha
  have e : s.data.toList.drop (i + off) = [] := List.drop_of_length_le (by rw [← Qcd]; omega)
  refine ⟨((0 : Int), (⟨#[]⟩ : ByteArray), (0 : Int), (0 : Int), (0 : Int), (i : Int), (81 : Int)), Ev.step (fun k => by simp only [Qao.l0]; rfl) ?_, ?_⟩
  ·simp only [if_neg (show ¬ ((i + off : Nat) : Int) < (s.size : Int) by omega)]; exact bad off acc
  ·rw [e, tx]; exact ⟨by simp, rfl, by decide⟩
 | succ d ih =>
  intro off acc hd hi ha
  cases hl : s.data.toList.drop (i + off) with
  | nil =>
   have := Qcj hl hi
   simp only [List.length_nil] at this
   have := ih off acc (by omega) hi ha
   rw [hl] at this; exact this
  | cons b t =>
   have hlt := Qdx hl
   have hbt := Qdd hl
   have hnx := Qci hl
   have hsz := Qcj hl hi
   rw [List.length_cons] at hsz
   rw [tx]
   by_cases h1 : b.toNat = 10
   ·rw [if_pos h1]
    refine ⟨((0 : Int), (⟨#[]⟩ : ByteArray), (0 : Int), (0 : Int), (0 : Int), (i : Int), (81 : Int)), Ev.step (fun k => by simp only [Qao.l0]; rfl) ?_, ?_⟩
    ·simp only [if_pos (show ((i + off : Nat) : Int) < (s.size : Int) by omega), if_pos (show (0 : Int) ≤ ((i + off : Nat) : Int) by omega), hbt, show ((b.toNat : Int) != 10) = false by rw [bne_eq_false_iff_eq]; omega]; exact bad off acc
    ·exact ⟨by simp, rfl, by decide⟩
   rw [if_neg h1]
   have st : ∀ p, Ev (fun k => if (b.toNat : Int) = 34 then some ((3 : Int), strOfNums (nums acc), (0 : Int), (i : Int), wrap64 (((i + off : Nat) : Int) + 1), (0 : Int), (0 : Int))
     else if (b.toNat : Int) = 92 then (Qak.f k s ((i + off : Nat) : Int)).bind fun bt108 => if bt108.2 = 0 then some ((0 : Int), (⟨#[]⟩ : ByteArray), (0 : Int), (0 : Int), (0 : Int), ((i + off : Nat) : Int), (82 : Int)) else if (nums acc).length < 140737488355328 then Qao.l0 k s (i : Int) (nums acc ++ [bt108.1]) (wrap64 (((i + off : Nat) : Int) + bt108.2)) else none
     else if (nums acc).length < 140737488355328 then Qao.l0 k s (i : Int) (nums acc ++ [(b.toNat : Int)]) (wrap64 (((i + off : Nat) : Int) + 1)) else none) p →
     Ev (fun k => Qao.l0 k s (i : Int) (nums acc) ((i + off : Nat) : Int)) p := by
    intro p hp
    refine Ev.step (fun k => by simp only [Qao.l0]; rfl) ?_
    simp only [if_pos (show ((i + off : Nat) : Int) < (s.size : Int) by omega), if_pos (show (0 : Int) ≤ ((i + off : Nat) : Int) by omega), hbt, show ((b.toNat : Int) != 10) = true by rw [bne_iff_ne]; omega]
    refine Ev.step (fun k => by simp only [Qao.j1]; rfl) ?_
    simp only [if_true, if_pos (show ((i + off : Nat) : Int) < (s.size : Int) by omega), if_pos (show (0 : Int) ≤ ((i + off : Nat) : Int) by omega), hbt]
    exact hp
   have W : wrap64 (((i + off : Nat) : Int) + 1) = ((i + (off + 1) : Nat) : Int) := w1 (i := i + off) 1 (by omega)
   by_cases h2 : b.toNat = 34
   ·rw [if_pos h2]
    refine ⟨((3 : Int), ba acc, (0 : Int), (i : Int), ((i + (off + 1) : Nat) : Int), (0 : Int), (0 : Int)), st _ ?_, ?_⟩
    ·simp only [if_pos (show (b.toNat : Int) = 34 by omega), strOf, W]; exact Ev.now _
    ·rfl
   rw [if_neg h2]
   by_cases h3 : b.toNat = 92
   ·rw [if_pos h3]
    have he := Qlm s hs (i + off) b t hl
    unfold Qj7 at he
    cases hx : esc t with
    | none =>
     rw [hx] at he
     refine ⟨((0 : Int), (⟨#[]⟩ : ByteArray), (0 : Int), (0 : Int), (0 : Int), ((i + off : Nat) : Int), (82 : Int)), st _ ?_, ?_⟩
     ·simp only [if_neg (show ¬ (b.toNat : Int) = 34 by omega), if_pos (show (b.toNat : Int) = 92 by omega)]
      refine Ev.bind he ?_
      exact Ev.now _
     ·exact ⟨rfl, rfl, by decide⟩
    | some q =>
     obtain ⟨c, n⟩ := q
     rw [hx] at he; simp only at he ⊢
     have hn := (Qia hx).2
     obtain ⟨p, hp1, hp2⟩ := ih (off + n + 1) (acc ++ [c]) (by omega) (by omega) (by simp only [List.length_append, List.length_cons, List.length_nil]; omega)
     have hdr : s.data.toList.drop (i + (off + n + 1)) = t.drop n := by
      rw [show i + (off + n + 1) = (i + off) + 1 + n by omega, ← List.drop_drop, hnx]
     rw [hdr] at hp2
     refine ⟨p, st _ ?_, hp2⟩
     simp only [if_neg (show ¬ (b.toNat : Int) = 34 by omega), if_pos (show (b.toNat : Int) = 92 by omega)]
     refine Ev.bind he ?_
     have hnz : ¬ ((1 + n : Nat) : Int) = 0 := by omega
     have hln : (nums acc).length < 140737488355328 := by rw [Qgr]; omega
     have W2 : wrap64 (((i + off : Nat) : Int) + ((1 + n : Nat) : Int)) = ((i + (off + n + 1) : Nat) : Int) := by rw [w64s (by omega) (by omega)]; omega
     simp only [W2, if_neg hnz, if_pos hln, Qf2]
     exact hp1
   ·rw [if_neg h3]
    obtain ⟨p, hp1, hp2⟩ := ih (off + 1) (acc ++ [b]) (by omega) (by omega) (by simp only [List.length_append, List.length_cons, List.length_nil]; omega)
    rw [show i + (off + 1) = i + off + 1 by omega, hnx] at hp2
    refine ⟨p, st _ ?_, hp2⟩
    simp only [if_neg (show ¬ (b.toNat : Int) = 34 by omega), if_neg (show ¬ (b.toNat : Int) = 92 by omega), if_pos (show (nums acc).length < 140737488355328 by rw [Qgr]; omega), Qf2, W]
    exact hp1
theorem Qnq (s : ByteArray) (hs : s.size ≤ 70368744177664) (i : Nat) : ∀ (d n : Nat), s.size - (i + n) ≤ d → i + n ≤ s.size →
  Ev (fun k => Qax.l0 k s (i : Int) ((i + n : Nat) : Int)) (if n + lead isW (s.data.toList.drop (i + n)) > 64 then ((0 : Int), (⟨#[]⟩ : ByteArray), (0 : Int), (0 : Int), (0 : Int), (i : Int), (111 : Int)) else ((1 : Int), s.extract i (i + (n + lead isW (s.data.toList.drop (i + n)))), (0 : Int), (i : Int), ((i + (n + lead isW (s.data.toList.drop (i + n))) : Nat) : Int), (0 : Int), (0 : Int))) := by
 have fin : ∀ n : Nat, i + n ≤ s.size → Ev (fun _ => if wrap64 (((i + n : Nat) : Int) - (i : Int)) > 64 then some ((0 : Int), (⟨#[]⟩ : ByteArray), (0 : Int), (0 : Int), (0 : Int), (i : Int), (111 : Int)) else if 0 ≤ (i : Int) then if (i : Int) ≤ ((i + n : Nat) : Int) then if ((i + n : Nat) : Int) ≤ (s.size : Int) then some ((1 : Int), s.extract ((i : Int)).toNat (((i + n : Nat) : Int)).toNat, (0 : Int), (i : Int), ((i + n : Nat) : Int), (0 : Int), (0 : Int)) else none else none else none)
   (if n + 0 > 64 then ((0 : Int), (⟨#[]⟩ : ByteArray), (0 : Int), (0 : Int), (0 : Int), (i : Int), (111 : Int)) else ((1 : Int), s.extract i (i + (n + 0)), (0 : Int), (i : Int), ((i + (n + 0) : Nat) : Int), (0 : Int), (0 : Int))) := by
  intro n hn
  have W : wrap64 (((i + n : Nat) : Int) - (i : Int)) = (n : Int) := by rw [w64s (by omega) (by omega)]; omega
  rw [Nat.add_zero]
  by_cases h : n > 64
  ·simp only [W, if_pos h, if_pos (show (n : Int) > 64 by omega)]; exact Ev.now _
  ·simp only [W, if_neg h, if_neg (show ¬ (n : Int) > 64 by omega), if_pos (show (0 : Int) ≤ (i : Int) by omega), if_pos (show (i : Int) ≤ ((i + n : Nat) : Int) by omega), if_pos (show ((i + n : Nat) : Int) ≤ (s.size : Int) by omega), Int.toNat_natCast]; exact Ev.now _
 intro d
 induction d with
 | zero =>
  intro n hd hi
  have e : s.data.toList.drop (i + n) = [] := List.drop_of_length_le (by rw [← Qcd]; omega)
  refine Ev.step (fun k => by simp only [Qax.l0]; rfl) ?_
  rw [e]
  simp only [if_neg (show ¬ ((i + n : Nat) : Int) < (s.size : Int) by omega), lead]
  exact fin n hi
 | succ d ih =>
  intro n hd hi
  cases hl : s.data.toList.drop (i + n) with
  | nil =>
   have := Qcj hl hi
   simp only [List.length_nil] at this
   have := ih n (by omega) hi
   rw [hl] at this; exact this
  | cons b t =>
   have hlt := Qdx hl
   have hbt := Qdd hl
   have hnx := Qci hl
   have ihn := ih (n + 1) (by omega) (by omega)
   rw [show i + (n + 1) = i + n + 1 by omega, hnx] at ihn
   have W : wrap64 (((i + n : Nat) : Int) + 1) = ((i + n + 1 : Nat) : Int) := w1 (i := i + n) 1 (by omega)
   refine Ev.step (fun k => by simp only [Qax.l0]; rfl) ?_
   simp only [if_pos (show ((i + n : Nat) : Int) < (s.size : Int) by omega), if_pos (show (0 : Int) ≤ ((i + n : Nat) : Int) by omega), hbt, Qmc, Qil, Option.bind_some, W]
   rw [lead]
   by_cases h : isW b = true
   ·rw [if_pos h, show n + (lead isW t + 1) = n + 1 + lead isW t by omega]
    by_cases h2 : isL b = true
    ·simp only [if_pos h2]; exact ihn
    ·have h3 : isD b = true := by unfold isW at h; rw [Bool.or_eq_true] at h; exact h.resolve_left h2
     simp only [if_neg h2, if_pos h3]; exact ihn
   ·have hb : ¬ isL b = true ∧ ¬ isD b = true := by unfold isW at h; rw [Bool.or_eq_true, not_or] at h; exact h
    rw [if_neg h]
    simp only [if_neg hb.1, if_neg hb.2]
    exact fin n hi
theorem Qql {b : UInt8} (h : isD b = true) : (((b.toNat : Int) - 48) % 256) = ((G.dval b : Nat) : Int) := by
 rw [Qiq] at h; unfold G.dval; omega
theorem Qi5 (s : ByteArray) (hs : s.size ≤ 70368744177664) (i : Nat) : ∀ (d n : Nat) (x : Int), s.size - (i + n) ≤ d → i + n ≤ s.size →
  Ev (fun k => Qaj.l0 k s (i : Int) ((i + n : Nat) : Int) x true) ((0 : Int), (⟨#[]⟩ : ByteArray), (0 : Int), (0 : Int), (0 : Int), (i : Int), (111 : Int)) := by
 have fin : ∀ (n : Nat) (x : Int), Ev (fun k => Qaj.j1 k s (i : Int) ((i + n : Nat) : Int) x true false) ((0 : Int), (⟨#[]⟩ : ByteArray), (0 : Int), (0 : Int), (0 : Int), (i : Int), (111 : Int)) := by
  intro n x
  refine Ev.step (fun k => by simp only [Qaj.j1]; rfl) ?_
  simp only [Bool.false_eq_true, if_false, if_true]; exact Ev.now _
 intro d
 induction d with
 | zero =>
  intro n x hd hi
  refine Ev.step (fun k => by simp only [Qaj.l0]; rfl) ?_
  simp only [if_neg (show ¬ ((i + n : Nat) : Int) < (s.size : Int) by omega)]
  exact fin n x
 | succ d ih =>
  intro n x hd hi
  cases hl : s.data.toList.drop (i + n) with
  | nil =>
   have := Qcj hl hi
   simp only [List.length_nil] at this
   exact ih n x (by omega) hi
  | cons b t =>
   have hlt := Qdx hl
   have hbt := Qdd hl
   have W : wrap64 (((i + n : Nat) : Int) + 1) = ((i + (n + 1) : Nat) : Int) := w1 (i := i + n) 1 (by omega)
   refine Ev.step (fun k => by simp only [Qaj.l0]; rfl) ?_
   simp only [if_pos (show ((i + n : Nat) : Int) < (s.size : Int) by omega), if_pos (show (0 : Int) ≤ ((i + n : Nat) : Int) by omega), hbt, Qil, Option.bind_some]
   by_cases h : isD b = true
   ·rw [h]
    refine Ev.step (fun k => by simp only [Qaj.j1]; rfl) ?_
    simp only [if_true, if_pos (show ((i + n : Nat) : Int) < (s.size : Int) by omega), if_pos (show (0 : Int) ≤ ((i + n : Nat) : Int) by omega), W, ite_self]
    exact ih (n + 1) _ (by omega) (by omega)
   ·rw [show isD b = false by simpa using h]; exact fin n x
theorem Qpr (s : ByteArray) (hs : s.size ≤ 70368744177664) (i : Nat) : ∀ (d n x : Nat), s.size - (i + n) ≤ d → i + n ≤ s.size → x < 18446744073709551616 →
  Ev (fun k => Qaj.l0 k s (i : Int) ((i + n : Nat) : Int) (x : Int) false) (match G.numv x ((s.data.toList.drop (i + n)).take (lead isD (s.data.toList.drop (i + n)))) with
   | none => ((0 : Int), (⟨#[]⟩ : ByteArray), (0 : Int), (0 : Int), (0 : Int), (i : Int), (111 : Int))
   | some y => ((2 : Int), (⟨#[]⟩ : ByteArray), (y : Int), (i : Int), ((i + (n + lead isD (s.data.toList.drop (i + n))) : Nat) : Int), (0 : Int), (0 : Int))) := by
 have fin : ∀ (n x : Nat), Ev (fun k => Qaj.j1 k s (i : Int) ((i + n : Nat) : Int) (x : Int) false false) ((2 : Int), (⟨#[]⟩ : ByteArray), (x : Int), (i : Int), ((i + n : Nat) : Int), (0 : Int), (0 : Int)) := by
  intro n x
  refine Ev.step (fun k => by simp only [Qaj.j1]; rfl) ?_
  simp only [Bool.false_eq_true, if_false]; exact Ev.now _
 intro d
 induction d with
 | zero =>
  intro n x hd hi hx
  have e : s.data.toList.drop (i + n) = [] := List.drop_of_length_le (by rw [← Qcd]; omega)
  refine Ev.step (fun k => by simp only [Qaj.l0]; rfl) ?_
  rw [e]
  simp only [if_neg (show ¬ ((i + n : Nat) : Int) < (s.size : Int) by omega), lead, List.take_nil, G.numv, Nat.add_zero]
  exact fin n x
 | succ d ih =>
  intro n x hd hi hx
  cases hl : s.data.toList.drop (i + n) with
  | nil =>
   have := Qcj hl hi
   simp only [List.length_nil] at this
   have := ih n x (by omega) hi hx
   rw [hl] at this; exact this
  | cons b t =>
   have hlt := Qdx hl
   have hbt := Qdd hl
   have hnx := Qci hl
   have W : wrap64 (((i + n : Nat) : Int) + 1) = ((i + (n + 1) : Nat) : Int) := w1 (i := i + n) 1 (by omega)
   refine Ev.step (fun k => by simp only [Qaj.l0]; rfl) ?_
   simp only [if_pos (show ((i + n : Nat) : Int) < (s.size : Int) by omega), if_pos (show (0 : Int) ≤ ((i + n : Nat) : Int) by omega), hbt, Qil, Option.bind_some]
   rw [lead]
   by_cases h : isD b = true
   ·rw [if_pos h, h, List.take_succ_cons, G.numv]
    have hdv : G.dval b < 10 := by rw [Qiq] at h; unfold G.dval; omega
    refine Ev.step (fun k => by simp only [Qaj.j1]; rfl) ?_
    simp only [if_true, if_pos (show ((i + n : Nat) : Int) < (s.size : Int) by omega), if_pos (show (0 : Int) ≤ ((i + n : Nat) : Int) by omega), W, hbt, Qql h]
    by_cases hf : x * 10 + G.dval b < 18446744073709551616
    ·have e1 : IntKind.u64.wrap ((x : Int) * 10) = ((x * 10 : Nat) : Int) := by
      rw [show (x : Int) * 10 = ((x * 10 : Nat) : Int) by omega]; show ((x * 10 : Nat) : Int) % 18446744073709551616 = _; omega
     have e2 : IntKind.u64.wrap (((x * 10 : Nat) : Int) + ((G.dval b : Nat) : Int)) = ((x * 10 + G.dval b : Nat) : Int) := by
      rw [show ((x * 10 : Nat) : Int) + ((G.dval b : Nat) : Int) = ((x * 10 + G.dval b : Nat) : Int) by omega]; show ((x * 10 + G.dval b : Nat) : Int) % 18446744073709551616 = _; omega
     have := ih (n + 1) (x * 10 + G.dval b) (by omega) (by omega) hf
     rw [show s.data.toList.drop (i + (n + 1)) = t from hnx] at this
     simp only [if_pos hf, e1, e2, if_neg (show ¬ (x : Int) > 1844674407370955161 by omega), if_neg (show ¬ ((x * 10 : Nat) : Int) > 18446744073709551615 - ((G.dval b : Nat) : Int) by omega)]
     rw [show n + (lead isD t + 1) = n + 1 + lead isD t by omega]
     exact this
    ·simp only [if_neg hf]
     by_cases hb : (x : Int) > 1844674407370955161
     ·simp only [if_pos hb]
      exact Qi5 s hs i _ (n + 1) _ (Nat.le_refl _) (by omega)
     ·have e1 : IntKind.u64.wrap ((x : Int) * 10) = ((x * 10 : Nat) : Int) := by
       rw [show (x : Int) * 10 = ((x * 10 : Nat) : Int) by omega]; show ((x * 10 : Nat) : Int) % 18446744073709551616 = _; omega
      simp only [if_neg hb, e1, if_pos (show ((x * 10 : Nat) : Int) > 18446744073709551615 - ((G.dval b : Nat) : Int) by omega)]
      exact Qi5 s hs i _ (n + 1) _ (Nat.le_refl _) (by omega)
   ·rw [if_neg h, show isD b = false by simpa using h, List.take_zero, G.numv, Nat.add_zero]
    exact fin n x
theorem Qk1 (b : UInt8) : Ev (fun k => Qa0.f k (b.toNat : Int)) (decide (b.toNat ∈ marks)) := by
 have key : ∀ (m : ByteArray), m.size ≤ 1000 → ∀ (d i : Nat), m.size - i ≤ d → i ≤ m.size → Ev (fun k => Qa0.l0 k (b.toNat : Int) m (i : Int)) (decide (b.toNat ∈ (m.data.toList.drop i).map UInt8.toNat)) := by
  intro m hm d
  induction d with
  | zero =>
   intro i hd hi
   obtain rfl : i = m.size := by omega
   have e : m.data.toList.drop m.size = [] := List.drop_of_length_le (by rw [← Qcd]; omega)
   refine Ev.step (fun k => by simp only [Qa0.l0]; rfl) ?_
   simp only [Int.lt_irrefl, if_false, e, List.map_nil, List.not_mem_nil, decide_false]
   exact Ev.now _
  | succ d ih =>
   intro i hd hi
   cases hl : m.data.toList.drop i with
   | nil =>
    have := Qcj hl hi
    simp only [List.length_nil] at this
    have := ih i (by omega) hi
    rw [hl] at this; exact this
   | cons c t =>
    have hlt := Qdx hl
    have hbt := Qdd hl
    have hnx := Qci hl
    have W : wrap64 ((i : Int) + 1) = ((i + 1 : Nat) : Int) := w1 1 (by omega)
    have ihn := ih (i + 1) (by omega) (by omega)
    rw [hnx] at ihn
    refine Ev.step (fun k => by simp only [Qa0.l0]; rfl) ?_
    simp only [if_pos (show (i : Int) < (m.size : Int) by omega), if_pos (show (0 : Int) ≤ (i : Int) by omega), hbt, W]
    by_cases h : c.toNat = b.toNat
    ·simp only [if_pos (show (c.toNat : Int) = (b.toNat : Int) by omega)]
     rw [decide_eq_true (by rw [List.map_cons, h]; exact List.mem_cons_self ..)]
     exact Ev.now _
    ·simp only [if_neg (show ¬ (c.toNat : Int) = (b.toNat : Int) by omega)]
     rw [show decide (b.toNat ∈ (c :: t).map UInt8.toNat) = decide (b.toNat ∈ t.map UInt8.toNat) by
      rw [Bool.eq_iff_iff, decide_eq_true_iff, decide_eq_true_iff, List.map_cons, List.mem_cons]
      exact ⟨fun h1 => h1.resolve_left fun h2 => h h2.symm, .inr⟩]
     exact ihn
 have := key (⟨#[123, 125, 40, 41, 58, 59, 44, 61, 43, 45, 42]⟩ : ByteArray) (by decide) 11 0 (by decide) (by decide)
 exact Ev.congr (fun k => rfl) this
theorem Ql9 (s : ByteArray) (hs : s.size ≤ 70368744177664) (i : Nat) (b : UInt8) (t : List UInt8) (hl : s.data.toList.drop i = b :: t) : ∃ p, Ev (fun k => Qb6.f k s (i : Int)) p ∧ Qlf i (L.tok (s.data.toList.drop i)) p := by
 have hlt := Qdx hl
 have hbt := Qdd hl
 have hnx := Qci hl
 have hsz := Qcj hl (by omega)
 rw [List.length_cons] at hsz
 have c1 : (0 : Int) ≤ (i : Int) := by omega
 have c2 : (i : Int) < (s.size : Int) := by omega
 have W : wrap64 ((i : Int) + 1) = ((i + 1 : Nat) : Int) := w1 1 (by omega)
 unfold Qb6.f
 simp only [if_pos c1, if_pos c2, hbt, Qmc, Qil, Option.bind_some]
 rw [hl, L.tok]
 have lw := Qe6 isW (b :: t)
 have ld := Qe6 isD (b :: t)
 rw [List.length_cons] at lw ld
 by_cases h1 : isL b = true
 ·have hr := Qnq s hs i s.size 0 (by omega) (by omega)
  rw [Nat.add_zero, hl, Nat.zero_add] at hr
  have hx := Qjm s i (i + lead isW (b :: t))
  rw [Nat.add_sub_cancel_left, hl] at hx
  have hr2 : Ev (fun k => Qax.f k s (i : Int)) _ := hr
  rw [if_pos h1]
  simp only [h1, if_true]
  by_cases h64 : lead isW (b :: t) > 64
  ·rw [if_pos h64] at hr2 ⊢
   exact ⟨_, Ev.bind hr2 (Ev.now _), by simp, rfl, by decide⟩
  ·rw [if_neg h64] at hr2 ⊢
   exact ⟨_, Ev.bind hr2 (Ev.now _), by rw [hx]; rfl⟩
 have h1' : isL b = false := by simpa using h1
 rw [if_neg h1]
 simp only [h1', Bool.false_eq_true, if_false]
 by_cases h2 : isD b = true
 ·have hr := Qpr s hs i s.size 0 0 (by omega) (by omega) (by omega)
  rw [Nat.add_zero, hl, Nat.zero_add] at hr
  have hr2 : Ev (fun k => Qaj.f k s (i : Int)) _ := hr
  rw [if_pos h2]
  simp only [h2, if_true]
  cases hn : G.numv 0 ((b :: t).take (lead isD (b :: t))) with
  | none => rw [hn] at hr2; exact ⟨_, Ev.bind hr2 (Ev.now _), by simp, rfl, by decide⟩
  | some x => rw [hn] at hr2; exact ⟨_, Ev.bind hr2 (Ev.now _), rfl⟩
 have h2' : isD b = false := by simpa using h2
 rw [if_neg h2]
 simp only [h2', Bool.false_eq_true, if_false]
 by_cases h3 : b.toNat = 34
 ·rw [if_pos h3]
  simp only [if_pos (show (b.toNat : Int) = 34 by omega)]
  obtain ⟨p, hp1, hp2⟩ := Qnt s hs i (s.size) 1 [] (by omega) (by omega) (by simp)
  rw [hnx] at hp2
  refine ⟨p, ?_, hp2⟩
  have hp3 : Ev (fun k => Qao.f k s (i : Int)) p := Ev.congr (fun k => by unfold Qao.f; rw [W]; rfl) hp1
  exact Ev.bind hp3 (Ev.now _)
 rw [if_neg h3]
 simp only [if_neg (show ¬ (b.toNat : Int) = 34 by omega)]
 by_cases h4 : b.toNat ∈ marks
 ·rw [if_pos h4]
  have hx := Qjm s i (i + 1)
  rw [Nat.add_sub_cancel_left, hl] at hx
  have hm := Qk1 b
  rw [decide_eq_true h4] at hm
  refine ⟨((4 : Int), ba [b], (0 : Int), (i : Int), ((i + 1 : Nat) : Int), (0 : Int), (0 : Int)), Ev.bind hm ?_, ?_⟩
  ·simp only [if_true, W, if_pos (show (i : Int) ≤ ((i + 1 : Nat) : Int) by omega), if_pos (show ((i + 1 : Nat) : Int) ≤ (s.size : Int) by omega), Int.toNat_natCast, hx]
   exact Ev.now _
  ·rfl
 ·rw [if_neg h4]
  have hm := Qk1 b
  rw [decide_eq_false h4] at hm
  refine ⟨((0 : Int), (⟨#[]⟩ : ByteArray), (0 : Int), (0 : Int), (0 : Int), (i : Int), (80 : Int)), Ev.bind hm ?_, by simp, rfl, by decide⟩
  simp only [Bool.false_eq_true, if_false]
  exact Ev.now _
theorem Qnv (s : ByteArray) (hs : s.size ≤ 1048576) : ∀ (d off : Nat) (acc : List S47), s.size - off ≤ d → off ≤ s.size → acc.length ≤ off →
  Ev (fun k => Qaz.l0 k s acc ((off + sk false (s.data.toList.drop off) : Nat) : Int)) (outL acc (lx off (s.data.toList.drop off))) := by
 intro d
 induction d with
 | zero =>
  intro off acc hd hi ha
  have e : s.data.toList.drop off = [] := List.drop_of_length_le (by rw [← Qcd]; omega)
  refine Ev.step (fun k => by simp only [Qaz.l0]; rfl) ?_
  rw [e, Qem rfl]
  simp only [sk, Nat.add_zero, if_neg (show ¬ (off : Int) < (s.size : Int) by omega), if_pos (show acc.length < 2932031007402 by omega), List.length_nil]
  obtain rfl : off = s.size := by omega
  exact Ev.now _
 | succ d ih =>
  intro off acc hd hi ha
  have hlen : (s.data.toList.drop off).length = s.size - off := by rw [List.length_drop, ← Qcd]
  have hsk := Qnp false (s.data.toList.drop off)
  by_cases hz : sk false (s.data.toList.drop off) = (s.data.toList.drop off).length
  ·refine Ev.step (fun k => by simp only [Qaz.l0]; rfl) ?_
   rw [Qem hz, hz, hlen, show off + (s.size - off) = s.size by omega]
   simp only [Int.lt_irrefl, if_false, if_pos (show acc.length < 2932031007402 by omega)]
   exact Ev.now _
  ·obtain ⟨i, hi2⟩ : ∃ i, i = off + sk false (s.data.toList.drop off) := ⟨_, rfl⟩
   have hdr : (s.data.toList.drop off).drop (sk false (s.data.toList.drop off)) = s.data.toList.drop i := by rw [List.drop_drop, hi2]
   have hil : i < s.size := by omega
   cases hl : s.data.toList.drop i with
   | nil => have := Qcj hl (by omega); simp only [List.length_nil] at this; omega
   | cons b t =>
    obtain ⟨p, hp1, hp2⟩ := Ql9 s (by omega) i b t hl
    refine Ev.step (fun k => by simp only [Qaz.l0]; rfl) ?_
    simp only [← hi2, if_pos (show (i : Int) < (s.size : Int) by omega)]
    refine Ev.bind hp1 ?_
    cases ht : L.tok (s.data.toList.drop i) with
    | bad a e =>
     rw [ht] at hp2
     obtain ⟨h1, h2, h3⟩ := hp2
     rw [Qk6 (a := a) (e := e) hz (by rw [hdr]; exact ht), ← hi2]
     simp only [h1, h2, if_neg (show ¬ (e : Int) = 0 by omega)]
     exact Ev.now _
    | ok t' =>
     rw [ht] at hp2
     have hp2' : p = ((t'.kind : Int), ba t'.text, (t'.num : Int), (i : Int), ((i + t'.len : Nat) : Int), 0, 0) := hp2
     have htl := Qds ht
     rw [List.length_drop, ← Qcd] at htl
     subst hp2'
     rw [Qn8 (t := t') hz (by rw [hdr]; exact ht), ← hi2]
     simp only [if_true, if_pos (show acc.length < 2932031007402 by omega)]
     have hsk2 := (Qk0 s (by omega) _ (i + t'.len) (Nat.le_refl _) (by omega))
     have hnx := ih (i + t'.len) (acc ++ [toS (t'.at_ i)]) (by omega) (by omega) (by simp only [List.length_append, List.length_cons, List.length_nil]; omega)
     rw [Qja, show (s.data.toList.drop off).drop (sk false (s.data.toList.drop off) + t'.len) = s.data.toList.drop (i + t'.len) by rw [← List.drop_drop, hdr, List.drop_drop]]
     refine Ev.bind (g := fun k => Qan.f k s ((i + t'.len : Nat) : Int)) hsk2.1 ?_
     exact hnx
theorem Qmb (s : ByteArray) : Ev (fun k => Qaz.f k s) (outL [] (L.Lex s.data.toList)) := by
 unfold L.Lex
 rw [← Qcd]
 by_cases h : s.size > 1048576
 ·rw [if_pos h]
  refine Ev.congr (fun k => ?_) (Ev.now _)
  unfold Qaz.f
  rw [if_pos (by omega)]; rfl
 ·rw [if_neg h]
  have h1 := Qk0 s (by omega) _ 0 (Nat.le_refl _) (by omega)
  have h2 := Qnv s (by omega) _ 0 [] (Nat.le_refl _) (by omega) (Nat.le_refl _)
  rw [List.drop_zero] at h1 h2
  refine Ev.congr (f := fun k => (Qan.f k s 0).bind fun t132 => Qaz.l0 k s [] t132) (fun k => ?_) (Ev.bind (g := fun k => Qan.f k s 0) h1.1 h2)
  unfold Qaz.f
  rw [if_neg (by omega)]
end Go.Proofs.Ytbdcndkafaajpaa.T
end
section
namespace Go.Proofs.Ytbdcndkafaajpaa.R
open Ytbdcndkafaajpaa.L hiding Tk
open Go.RowKit Ytbdcndkafaajpaa.T Ytbdcndkafaajpaa.X Ytbdcndkafaajpaa.A YtbdcndkafaajpaaW.PrintWords YtbdcndkafaajpaaW.PrintLast YtbdcndkafaajpaaW.PrintMore
open Ytbdcndkafaajpaa.P (Nd EO Res hd isT isM Qar mxl comb mk1 StD VeD EvD Out Qc6 Qdu Qdr)
theorem Up.okc {w : World} {A : Option Addr} {c : Nat} {L : List Tk} {g : Nat} {ts : List Tk} (h : Up w A c L g (.ok ts)) : w.cell? ⟨g, 3, none⟩ = some (.int .i64 0) := by
 obtain ⟨q, lv, v5, v6, hq, hp⟩ := h
 rw [← hq.1]; exact hp.cf
theorem Up.badc {w : World} {A : Option Addr} {c : Nat} {L : List Tk} {g : Nat} {e p : Int} (h : Up w A c L g (.bad e p)) : w.cell? ⟨g, 3, none⟩ = some (.int .i64 e) ∧ w.cell? ⟨g, 2, none⟩ = some (.int .i64 p) ∧ e ≠ 0 := by
 obtain ⟨q, lv, v5, v6, hq, hp⟩ := h
 exact ⟨by rw [← hq.1]; exact hp.cf, by rw [← hq.2.1]; exact hp.cp, hq.2.2⟩
theorem Up.flt {w : World} {A : Option Addr} {c : Nat} {L : List Tk} {g : Nat} {s : US} (h : Up w A c L g s) : ∃ e : Int, w.cell? ⟨g, 3, none⟩ = some (.int .i64 e) ∧ (∀ ts, s = .ok ts → (e == 0) = true) ∧ ∀ e' p, s = .bad e' p → (e == 0) = false := by
 obtain ⟨q, lv, v5, v6, hq, hp⟩ := h
 refine ⟨_, hp.cf, ?_, ?_⟩
 ·rintro ts rfl; rw [hq.1]; rfl
 ·rintro e' p rfl; exact beq_eq_false_iff_ne.2 (by rw [hq.1]; exact hq.2.2)
structure Qjw (w w' : World) (A : Option Addr) (c : Nat) (L : List Tk) (g : Nat) : Prop where
 up : Up w' A c L g (.ok L)
 good : Qde L
 len : L.length ≤ 33554432
 new : w.heap.size ≤ g
 bel : Below w.heap.size w w'
theorem Qjw.below {w w1 w2 : World} {A : Option Addr} {c : Nat} {L : List Tk} {g : Nat} (h : Qjw w w1 A c L g) (hg : w1.grownBy w2 (some g)) : Below w.heap.size w w2 :=
 h.bel.grown hg (by have := h.bel.size; omega) (fun k hk => by injection hk with hk; have := h.new; omega)
theorem Qot {w w1 : World} {A : Option Addr} {c : Nat} {M : List Tk} (hr : Kd.R kt 47 w1 w.heap.size (fun _ => True) (.slice A M.length c) M) (hb : Below w.heap.size w w1) (hG : Qde M) (h0 : 0 < M.length) (hl : M.length ≤ 1048577) :
  Qjw w (w1.alloc (.cells #[.slice A M.length c, .int .i64 0, .int .i64 0, .int .i64 0, .slice none 0 0, .slice none 0 0, .int .i64 0] 71)) A c M w1.heap.size := by
 have hb1 : Below w1.heap.size w1 (w1.alloc (.cells #[.slice A M.length c, .int .i64 0, .int .i64 0, .int .i64 0, .slice none 0 0, .slice none 0 0, .int .i64 0] 71)) := Qab (Below.refl _ _) _
 refine ⟨⟨⟨0, 0, 0⟩, 0, .slice none 0 0, .slice none 0 0, ⟨rfl, rfl⟩, ⟨Qa1 _ _, ?_, h0, ?_⟩⟩, hG, by omega, hb.size, hb.trans (hb1.mono hb.size)⟩
 ·intro W' hW'
  exact (Kd.Qpg rfl (Kd.Qb8 hr hb1)) W' (fun k hk => hW' k (by have := Kd.R_lt hr k hk; omega))
 ·obtain ⟨A', c', he, hc, _⟩ := Kd.Qgj hr
  injection he with _ _ he
  omega
theorem Qj5 (w : World) (A : Option Addr) (c : Nat) (L : List Tk) (g : Nat) (s : US) (h : Up w A c L g s) : Calls Try.prog 28 #[.pointer (some ⟨g, 0, none⟩)] w fun e w' => e = .returned (.tuple #[]) ∧ Up w' A c L g (s.step P.endW) ∧ w.grownBy w' (some g) := by
 have HU := J0.m h
 obtain ⟨ef, y3, he⟩ := h.fault
 cases s with
 | bad e q =>
  replace he : (ef == 0) = false := he
  clear h
  go_enter Try.func28, Try.ntmps28
  go_wp2
  go_end0
  exact ⟨rfl, HU.o, Qaq (Below.refl _ _) _⟩
 | ok r =>
  replace he : (ef == 0) = true := he
  have HTK := J0.m (Qhz h)
  clear h
  go_enter Try.func28, Try.ntmps28
  go_wp2_with fail
  refine HTK.o.mono ?_
  rintro e w1 ⟨⟨k1, s1, n1, p1, e1⟩, hfr, rfl, hb⟩
  have HT1 := J0.m (hfr r rfl)
  have HU1 := J0.m (HU.o.below hb)
  have HR1 := J0.m (Qaq hb (some g))
  clear hb hfr
  obtain ⟨fd0, fd1, fd2, fd3⟩ := fld ⟨k1, s1, n1, p1, e1⟩
  by_cases h0 : k1 = 0
  ·have d1 : (k1 != 0) = false := by rw [h0]; rfl
   have HK : J0 ((hd r).f0 = 0) := ⟨by rw [← HT1.o]; exact h0⟩
   clear h0
   go_wp2
   go_end0
   have hst : (US.ok r).step P.endW = .ok r := step_ok (a := hd r) (by unfold P.endW; rw [if_pos HK.o])
   rw [hst]
   exact ⟨rfl, HU1.o, HR1.o⟩
  ·have d1 : (k1 != 0) = true := bne_iff_ne.2 h0
   have HK : J0 (¬ (hd r).f0 = 0) := ⟨by rw [← HT1.o]; exact h0⟩
   clear h0
   go_wp2_with fail
   refine (Qhz HU1.o).mono ?_
   rintro e w2 ⟨⟨k2, s2, n2, p2, e2⟩, hfr, rfl, hb⟩
   have HT2 := J0.m (hfr r rfl)
   have HU2 := J0.m (HU1.o.below hb)
   have HR2 := J0.m (HR1.o.trans (Qaq hb (some g)))
   clear hb hfr
   obtain ⟨gd0, gd1, gd2, gd3⟩ := fld ⟨k2, s2, n2, p2, e2⟩
   have HFL := J0.m (Qj1 90 p2 (by decide) HU2.o)
   go_wp2_with fail
   refine HFL.o.mono ?_
   rintro e w3 ⟨rfl, hu, hg⟩
   have HU3 := J0.m hu
   have HR3 := J0.m (HR2.o.trans hg)
   clear hu hg
   go_wp2
   go_end0
   have hst : (US.ok r).step P.endW = .bad 90 p2 := Qew (by unfold P.endW; rw [if_neg HK.o, ← HT2.o])
   rw [hst]
   exact ⟨rfl, HU3.o, HR3.o⟩
theorem Qi7 (w : World) (s : ByteArray) : Calls Try.prog 16 #[.string s] w fun e w' => ∃ (v : Sl) (l : List Row) (at_ er : Int), e = .returned (.tuple #[.slice v.A v.n v.c, .int .i64 at_, .int .i64 er]) ∧ Ytbdcndkafaajpaa.A.Rows w' w.heap.size l ∧ Below w.heap.size w w' ∧ Says (Qdr s) v at_ er (fun ns => Row.n v ns ∈ l) := by
 obtain ⟨k, hk⟩ := (Qmb s).rounds
 unfold Qdr Qc6
 cases hx : L.Lex s.data.toList with
 | bad a er =>
  rw [hx] at hk
  have hne : (er : Int) ≠ 0 := by
   rcases Qhj hx with ⟨_, _, h⟩ | ⟨_, _, _, h⟩ <;> omega
  have d1 : ((er : Int) != 0) = true := bne_iff_ne.2 hne
  have HNE := J0.m hne
  have HCL := J0.m (Qaz.calls k s _ _ _ w hk)
  clear hk hx hne
  go_enter Try.func16, Try.ntmps16
  go_wp2_with fail
  refine HCL.o.mono ?_
  rintro e w1 ⟨v0, rfl, hr, hb⟩
  have HB := J0.m hb
  clear hr hb
  go_wp2
  go_ret3
  exact ⟨⟨none, 0, 0⟩, [], _, _, rfl, Qi3 _ _, HB.o, rfl, rfl, rfl, HNE.o⟩
 | toks l =>
  rw [hx] at hk
  show Calls _ _ _ _ fun e w' => ∃ (v : Sl) (l2 : List Row) (at_ er : Int), e = .returned (.tuple #[.slice v.A v.n v.c, .int .i64 at_, .int .i64 er]) ∧ Ytbdcndkafaajpaa.A.Rows w' w.heap.size l2 ∧ Below w.heap.size w w' ∧ Says (P.outO (P.Qeb (l.map toS))) v at_ er (fun ns => Row.n v ns ∈ l2)
  obtain ⟨hg1, hg2, hg3⟩ := Qiz hx
  have HGD := J0.m hg1
  have HG2 := J0.m hg2
  have HG3 := J0.m hg3
  obtain ⟨M, hM⟩ : ∃ M, M = l.map toS := ⟨_, rfl⟩
  have hk' : Qaz.f k s = some (M, 0, 0) := by rw [hk, hM]; simp [outL]
  rw [← hM] at HGD HG2 HG3
  have HCL := J0.m (Qaz.calls k s _ _ _ w hk')
  rw [← hM]
  clear hk hk' hx hg1 hg2 hg3 hM
  go_enter Try.func16, Try.ntmps16
  go_wp2_with fail
  refine HCL.o.mono ?_
  rintro e w1 ⟨v0, rfl, hr, hb⟩
  obtain ⟨A, c, rfl⟩ := Kd.Qc4 hr
  obtain ⟨g, hgd⟩ : ∃ g, g = w1.heap.size := ⟨_, rfl⟩
  obtain ⟨W, hW⟩ : ∃ W, W = w1.alloc (.cells #[.slice A M.length c, .int .i64 0, .int .i64 0, .int .i64 0, .slice none 0 0, .slice none 0 0, .int .i64 0] 71) := ⟨_, rfl⟩
  have HBE := J0.m (Qot hr hb HGD.o HG2.o HG3.o)
  rw [← hW, ← hgd] at HBE
  have HW := J0.m hW
  have HGD2 := J0.m hgd
  clear hr hb hW hgd
  obtain ⟨F, hF0, hFe⟩ := Co.start (.ok M) P.Qeb
  have HF0 := J0.m hF0
  have HFE := J0.m hFe
  have HC1 := J0.m (show Co F (fun ts => (P.Qda ts).bind fun v r => (P.endW r).bind fun _ r => .ok v.ns r) (.ok M) from hF0)
  clear hF0 hFe
  have HCL2 := J0.m (Qj0 W A c _ g _ HBE.o.good HBE.o.len HBE.o.up)
  go_wp2_with fail
  rw [← HW.o, ← HGD2.o]
  refine HCL2.o.mono ?_
  rintro e w2 ⟨v, ns, rfl, hrv, hnew, hu, hg, hval⟩
  clear HCL2
  obtain ⟨Av, cv, hvv⟩ := Kd.Qc4 hrv
  subst hvv
  have HC2 := J0.m (Co.call (P := fun _ => True) (g' := fun r => (P.endW r).bind fun _ r => .ok ns r) HC1.o (fun ts a r h1 h2 => by rw [hval ts a r h1 h2]))
  have HU2 := J0.m hu
  have HG2' := J0.m hg
  have HN2 := J0.m (Qfs (base' := w.heap.size) Qh8 hrv (fun _ _ => rfl) (fun k hk => Nat.le_trans HBE.o.bel.size (hnew k hk)))
  have HOW : J0 (∀ k, (Value.slice Av ns.length cv).ownBlock = some k → W.heap.size ≤ k) := ⟨hnew⟩
  clear hrv hnew hu hg hval
  have HCL3 := J0.m (Qj5 w2 A c _ g _ HU2.o)
  go_wp2_with fail
  refine HCL3.o.mono ?_
  rintro e w4 ⟨rfl, hu, hg⟩
  clear HCL3
  have HC4 := J0.m (Co.call (P := fun _ => True) (g' := fun r => .ok ns r) HC2.o (fun _ _ _ _ _ => rfl))
  have HB4 := J0.m (HBE.o.below (HG2'.o.trans hg))
  have HN4 : J0 (Ytbdcndkafaajpaa.A.Rows w4 w.heap.size [Row.n ⟨Av, ns.length, cv⟩ ns]) := ⟨⟨fun r hr => by
   rw [List.mem_singleton.1 hr]
   refine Qfs (d := kn) Qh8 HN2.o (fun k hk => ?_) (fun k hk => Kd.Qeq HN2.o k hk)
   have hlt := Kd.R_lt HN2.o k hk
   have hgk : k ≠ g := by have := HOW.o k hk; have := HBE.o.up.glt; omega
   exact hg.block k hlt (fun e => by injection e with e; exact hgk e), ⟨fun k hk hm => (by cases hm), trivial⟩⟩⟩
  have HU4 := J0.m (show Up w4 A c _ g ((US.ok M).step P.Qeb) from by
   rw [← HFE.o _ (Co.Qfw HC4.o)]; exact hu)
  clear hu hg
  cases hy : P.Qeb M with
  | ok ds r =>
   have hd : ds = ns := Co.val HC4.o HF0.o _ _ _ rfl hy
   subst hd
   have y2 := (show Up w4 A c _ g (.ok r) from by have := HU4.o; rw [step_ok hy] at this; exact this).okc
   have HY := J0.m hy
   clear hy
   go_wp2
   go_ret3
   rw [HY.o]
   exact ⟨⟨Av, ds.length, cv⟩, _, _, _, rfl, HN4.o, HB4.o, rfl, rfl, List.mem_singleton.2 rfl⟩
  | bad e p =>
   obtain ⟨y2, y3, hne⟩ := (show Up w4 A c _ g (.bad e p) from by have := HU4.o; rw [Qew hy] at this; exact this).badc
   have d1 : (e != 0) = true := bne_iff_ne.2 hne
   have HNE := J0.m hne
   have HY := J0.m hy
   clear hy hne
   go_wp2_with fail
   go_quiet (fail)
   go_wp2
   go_ret3
   rw [HY.o]
   exact ⟨⟨none, 0, 0⟩, _, _, _, rfl, Qi3 _ _, Qac HB4.o _, rfl, rfl, rfl, HNE.o⟩
end Go.Proofs.Ytbdcndkafaajpaa.R
end
section
namespace Go.Proofs.Ytbdcndkafaajpaa.P
open Ytbdcndkafaajpaa.X
def Le {α : Type} (x y : Res α) : Prop := (∀ p, x ≠ .bad 0 p) → y = x
section
variable {α β : Type}
theorem Le.same (x : Res α) : Le x x := fun _ => rfl
theorem Le.trans {x y z : Res α} (h : Le x y) (k : Le y z) : Le x z := fun hn => by
 have e := h hn
 rw [k (by rw [e]; exact hn), e]
theorem Le.bind {x y : Res α} {g g' : α → List Tk → Res β} (h : Le x y) (hg : ∀ a r, Le (g a r) (g' a r)) : Le (x.bind g) (y.bind g') := by
 intro hn
 cases x with
 | ok a r => rw [h (fun p e => by cases e)]; exact hg a r hn
 | bad e p => rw [h (fun q e' => by cases e'; exact hn _ rfl)]; rfl
theorem Le.ite {c : Prop} [Decidable c] {x y x' y' : Res α} (h1 : Le x y) (h2 : Le x' y') : Le (if c then x else x') (if c then y else y') := by
 split
 ·exact h1
 ·exact h2
end
def XS (R : Fn → Nat → List Tk → Res EO) : Fn → Nat → List Tk → Res EO
 | .expr, lev, ts => (R .term lev ts).bind fun a r => R (.addL a) lev r
 | .addL a, lev, ts =>
  if isM 43 ts || isM 45 ts then (R .term lev ts.tail).bind fun b r => (comb (node (if (hd ts).f1.toList == (mk1 45).toList then 7 else 6) (hd ts).f3) [a, b] r).bind fun c r => R (.addL c) lev r
  else .ok a ts
 | .term, lev, ts => (R .fac lev ts).bind fun a r => R (.mulL a) lev r
 | .mulL a, lev, ts =>
  if isM 42 ts then (R .fac lev ts.tail).bind fun b r => (comb (node 8 (hd ts).f3) [a, b] r).bind fun c r => R (.mulL c) lev r
  else .ok a ts
 | .args t l, lev, ts =>
  if isM 44 ts then (R .expr lev ts.tail).bind fun b r => R (.args t (l ++ [b])) lev r
  else (Qar 41 ts).bind fun _ r => comb ⟨9, (l.length : Int), 0, ⟨#[]⟩, t.f3⟩ l r
 | .fac, lev, ts =>
  if (hd ts).f0 = 2 then comb ⟨1, 0, (hd ts).f2, ⟨#[]⟩, (hd ts).f3⟩ [] ts.tail
  else if (hd ts).f0 = 3 then comb ⟨2, 0, 0, (hd ts).f1, (hd ts).f3⟩ [] ts.tail
  else if (hd ts).f0 = 1 then
   if (hd ts).f1 = Qho then comb (node 3 (hd ts).f3) [] ts.tail
   else if (hd ts).f1 = Qf1 then comb (node 4 (hd ts).f3) [] ts.tail
   else if (hd ts).f1 = sCat then
    if 100 ≤ lev then .bad 91 (hd ts).f3
    else (Qar 40 ts.tail).bind fun _ r => (R .expr (lev + 1) r).bind fun a r => R (.args (hd ts) [a]) (lev + 1) r
   else if (hd ts).f1 = sRep then
    if 100 ≤ lev then .bad 91 (hd ts).f3
    else (Qar 40 ts.tail).bind fun _ r => (R .expr (lev + 1) r).bind fun a r => (Qar 44 r).bind fun _ r => (R .expr (lev + 1) r).bind fun b r => (Qar 41 r).bind fun _ r => comb (node 10 (hd ts).f3) [a, b] r
   else if (hd ts).f1 = sLen then
    if 100 ≤ lev then .bad 91 (hd ts).f3
    else (Qar 40 ts.tail).bind fun _ r => (R .expr (lev + 1) r).bind fun a r => (Qar 41 r).bind fun _ r => comb (node 11 (hd ts).f3) [a] r
   else if (hd ts).f1 = sHex then
    if 100 ≤ lev then .bad 91 (hd ts).f3
    else (Qar 40 ts.tail).bind fun _ r => (R .expr (lev + 1) r).bind fun a r => (Qar 41 r).bind fun _ r => comb (node 12 (hd ts).f3) [a] r
   else .bad 90 (hd ts).f3
  else if isM 45 ts then
   if 100 ≤ lev then .bad 91 (hd ts).f3
   else (R .fac (lev + 1) ts.tail).bind fun a r => comb (node 5 (hd ts).f3) [a] r
  else if isM 40 ts then
   if 100 ≤ lev then .bad 91 (hd ts).f3
   else (R .expr (lev + 1) ts.tail).bind fun a r => (Qar 41 r).bind fun _ r => .ok a r
  else .bad 90 (hd ts).f3
theorem Qpb (n : Nat) (f : Fn) (lev : Nat) (ts : List Tk) : X (n + 1) f lev ts = XS (X n) f lev ts := by
 cases f <;> rfl
theorem Le.go {α : Type} {F : Nat → List Tk → Res α} (h : ∀ n ts, Le (F n ts) (F (n + 1) ts)) {n m : Nat} (hn : n ≤ m) (ts : List Tk) : Le (F n ts) (F m ts) := by
 obtain ⟨k, rfl⟩ : ∃ k, m = n + k := ⟨m - n, by omega⟩
 induction k with
 | zero => exact Le.same _
 | succ k ih => exact (ih (by omega)).trans (h _ _)
section
variable {α β : Type} {t : Tk} {f : List Tk → Res α}
def LocH (t : Tk) (f : List Tk → Res α) : Prop := ∀ ts a r, hd ts = t → f ts = .ok a r → ∃ c, ts = c ++ r ∧ (∀ x ∈ c, x.f0 ≠ 0) ∧ ∀ r', hd r' = hd r → f (c ++ r') = .ok a r'
def Loc (f : List Tk → Res α) : Prop := ∀ t, LocH t f
def LocS (f : List Tk → Res α) : Prop := ∀ ts a r, f ts = .ok a r → ∃ c, c ≠ [] ∧ ts = c ++ r ∧ (∀ x ∈ c, x.f0 ≠ 0) ∧ ∀ r', f (c ++ r') = .ok a r'
theorem Qo4 {c r r' : List Tk} (h : hd r' = hd r) : hd (c ++ r') = hd (c ++ r) := by
 cases c with
 | nil => exact h
 | cons x c => rfl
theorem Qf6 {c : List Tk} (h : c ≠ []) (r r' : List Tk) : hd (c ++ r') = hd (c ++ r) := by
 cases c with
 | nil => exact absurd rfl h
 | cons x c => rfl
theorem LocH.at {F : Tk → List Tk → Res α} (h : LocH t (F t)) : LocH t (fun ts => F (hd ts) ts) := by
 intro ts a r ht hx
 have hx : F (hd ts) ts = .ok a r := hx
 rw [ht] at hx
 obtain ⟨c, e, hk, hr⟩ := h ts a r ht hx
 refine ⟨c, e, hk, fun r' h' => ?_⟩
 show F (hd (c ++ r')) (c ++ r') = _
 rw [Qo4 h', ← e, ht]
 exact hr r' h'
theorem LocH.ok (a : α) : LocH t (fun ts => .ok a ts) := by
 intro ts b r _ h
 cases h
 exact ⟨[], rfl, fun x hx => (by cases hx), fun r' _ => rfl⟩
theorem LocH.bad (e p : Int) : LocH t (fun _ => (.bad e p : Res α)) := fun ts b r _ h => by cases h
theorem LocH.ite {c : Prop} [Decidable c] {g : List Tk → Res α} (h1 : c → LocH t f) (h2 : ¬ c → LocH t g) : LocH t (fun ts => if c then f ts else g ts) := by
 by_cases hc : c
 ·simp only [if_pos hc]; exact h1 hc
 ·simp only [if_neg hc]; exact h2 hc
theorem LocH.bind {g : α → List Tk → Res β} (h : LocH t f) (hg : ∀ a, Loc (g a)) : LocH t (fun ts => (f ts).bind g) := by
 intro ts b r ht hx
 obtain ⟨a, s, h1, h2⟩ := bind_ok hx
 obtain ⟨c, rfl, hk, hc⟩ := h ts a s ht h1
 obtain ⟨c2, rfl, hk2, hc2⟩ := hg a _ s b r rfl h2
 refine ⟨c ++ c2, by rw [List.append_assoc], fun x hx => ?_, fun r' h' => ?_⟩
 ·rcases List.mem_append.1 hx with hx | hx
  ·exact hk x hx
  ·exact hk2 x hx
 ·show (f (c ++ c2 ++ r')).bind g = _
  rw [List.append_assoc, hc (c2 ++ r') (Qo4 h')]
  exact hc2 r' h'
theorem LocH.tail (h0 : t.f0 ≠ 0) (h : Loc f) : LocH t (fun ts => f ts.tail) := by
 intro ts a r ht hx
 cases ts with
 | nil => exact absurd (by rw [← ht]; rfl) h0
 | cons x ts =>
  have hxt : x = t := ht
  subst hxt
  obtain ⟨c, e, hk, hr⟩ := h _ ts a r rfl hx
  refine ⟨x :: c, by rw [e]; rfl, fun y hy => ?_, fun r' h' => hr r' h'⟩
  rcases List.mem_cons.1 hy with rfl | hy
  ·exact h0
  ·exact hk y hy
theorem LocS.to (h : LocS f) : Loc f := by
 intro t ts a r _ hx
 obtain ⟨c, _, e, hk, hr⟩ := h ts a r hx
 exact ⟨c, e, hk, fun r' _ => hr r'⟩
theorem LocS.bind {g : α → List Tk → Res β} (h : Loc f) (hg : ∀ a, LocS (g a)) : LocS (fun ts => (f ts).bind g) := by
 intro ts b r hx
 obtain ⟨a, s, h1, h2⟩ := bind_ok hx
 obtain ⟨c, rfl, hk, hc⟩ := h _ ts a s rfl h1
 obtain ⟨c2, hne, rfl, hk2, hc2⟩ := hg a s b r h2
 refine ⟨c ++ c2, fun e => hne (List.append_eq_nil_iff.1 e).2, by rw [List.append_assoc], fun x hx => ?_, fun r' => ?_⟩
 ·rcases List.mem_append.1 hx with hx | hx
  ·exact hk x hx
  ·exact hk2 x hx
 ·show (f (c ++ c2 ++ r')).bind g = _
  rw [List.append_assoc, hc (c2 ++ r') (Qf6 hne _ _)]
  exact hc2 r'
theorem LocS.map {k : α → β} (h : LocS f) : LocS (fun ts => (f ts).bind fun a r => .ok (k a) r) := by
 intro ts b r hx
 obtain ⟨a, s, h1, h2⟩ := bind_ok hx
 cases h2
 obtain ⟨c, hne, e, hk, hc⟩ := h ts a _ h1
 refine ⟨c, hne, e, hk, fun r' => ?_⟩
 show (f (c ++ r')).bind _ = _
 rw [hc r']; rfl
theorem LocS.want {b : Tk → Bool} (hb : ∀ t, b t = true → t.f0 ≠ 0) : LocS (fun ts => P.want (b (hd ts)) ts) := by
 intro ts a r hx
 obtain ⟨h1, h2, h3, _⟩ := Qgc (hb _) hx
 cases ts with
 | nil => exact absurd rfl (hb _ h1)
 | cons x ts =>
  refine ⟨[x], by simp, by rw [h3]; rfl, fun y hy => ?_, fun r' => ?_⟩
  ·rw [List.mem_singleton.1 hy]; exact hb _ h1
  ·show P.want (b x) (x :: r') = _
   unfold P.want
   rw [if_pos (show b x = true from h1), h2]; rfl
theorem Loc.fuel {F : Nat → List Tk → Res α} {b : List Tk → Nat} (hL : ∀ n, Loc (F n)) (hle : ∀ n ts, Le (F n ts) (F (n + 1) ts)) (hne : ∀ n ts, b ts ≤ n → ∀ p, F n ts ≠ .bad 0 p) : Loc (fun ts => F (b ts) ts) := by
 intro t ts a r ht hx
 have hx : F (b ts) ts = .ok a r := hx
 obtain ⟨c, e, hk, _⟩ := hL _ t ts a r ht hx
 refine ⟨c, e, hk, fun r' h' => ?_⟩
 obtain ⟨N, hN⟩ : ∃ N, N = max (b ts) (b (c ++ r')) := ⟨_, rfl⟩
 have h1 := (Le.go hle (show b ts ≤ N by omega) ts) (hne _ _ (Nat.le_refl _))
 rw [hx] at h1
 obtain ⟨c', e', _, hr⟩ := hL _ t ts a r ht h1
 have hcc : c' = c := List.append_cancel_right (e'.symm.trans e)
 subst hcc
 have h2 := (Le.go hle (show b (c' ++ r') ≤ N by omega) (c' ++ r')) (hne _ _ (Nat.le_refl _))
 show F (b (c' ++ r')) (c' ++ r') = _
 rw [← h2]
 exact hr r' h'
end
def isMt (c : UInt8) (t : Tk) : Bool := (t.f0 == 4) && (t.f1.toList == (mk1 c).toList)
section
variable {α β : Type} {p q : Tk → Prop} {t : Tk} {f : List Tk → Res α}
def LocQ (p : Tk → Prop) (f : List Tk → Res α) : Prop := ∀ ts a r, f ts = .ok a r → ∃ c, ts = c ++ r ∧ (∀ x ∈ c, x.f0 ≠ 0) ∧ ∀ r', (hd r' = hd r ∨ p (hd r')) → f (c ++ r') = .ok a r'
def LocT (t : Tk) (p : Tk → Prop) (f : List Tk → Res α) : Prop := ∀ ts a r, hd ts = t → f ts = .ok a r → ∃ c, c ≠ [] ∧ ts = c ++ r ∧ (∀ x ∈ c, x.f0 ≠ 0) ∧ ∀ r', (hd r' = hd r ∨ p (hd r')) → f (c ++ r') = .ok a r'
theorem LocT.at {F : Tk → List Tk → Res α} (h : LocT t p (F t)) : LocT t p (fun ts => F (hd ts) ts) := by
 intro ts a r ht hx
 have hx : F (hd ts) ts = .ok a r := hx
 rw [ht] at hx
 obtain ⟨c, hne, e, hk, hr⟩ := h ts a r ht hx
 refine ⟨c, hne, e, hk, fun r' h' => ?_⟩
 show F (hd (c ++ r')) (c ++ r') = _
 rw [Qf6 hne r r', ← e, ht]
 exact hr r' h'
theorem LocT.bad (e pl : Int) : LocT t p (fun _ => (.bad e pl : Res α)) := fun ts b r _ h => by cases h
theorem LocT.ite {c : Prop} [Decidable c] {g : List Tk → Res α} (h1 : c → LocT t p f) (h2 : ¬ c → LocT t p g) : LocT t p (fun ts => if c then f ts else g ts) := by
 by_cases hc : c
 ·simp only [if_pos hc]; exact h1 hc
 ·simp only [if_neg hc]; exact h2 hc
theorem LocT.tail (h0 : t.f0 ≠ 0) (h : LocQ p f) : LocT t p (fun ts => f ts.tail) := by
 intro ts a r ht hx
 cases ts with
 | nil => exact absurd (by rw [← ht]; rfl) h0
 | cons x ts =>
  have hxt : x = t := ht
  subst hxt
  obtain ⟨c, e, hk, hr⟩ := h ts a r hx
  refine ⟨x :: c, by simp, by rw [e]; rfl, fun y hy => ?_, fun r' h' => hr r' h'⟩
  rcases List.mem_cons.1 hy with rfl | hy
  ·exact h0
  ·exact hk y hy
theorem LocQ.bind {g : α → List Tk → Res β} (h : LocQ p f) (hg : ∀ a, LocQ q (g a)) (hpq : ∀ t, q t → p t) : LocQ q (fun ts => (f ts).bind g) := by
 intro ts b r hx
 obtain ⟨a, s, h1, h2⟩ := bind_ok hx
 obtain ⟨c, rfl, hk, hc⟩ := h ts a s h1
 obtain ⟨c2, rfl, hk2, hc2⟩ := hg a s b r h2
 refine ⟨c ++ c2, by rw [List.append_assoc], fun x hx => ?_, fun r' h' => ?_⟩
 ·rcases List.mem_append.1 hx with hx | hx
  ·exact hk x hx
  ·exact hk2 x hx
 ·show (f (c ++ c2 ++ r')).bind g = _
  rw [List.append_assoc, hc (c2 ++ r')]
  ·exact hc2 r' h'
  ·by_cases hne : c2 = []
   ·subst hne
    exact h'.imp id (hpq _)
   ·exact .inl (Qf6 hne r r')
theorem LocT.bind {g : α → List Tk → Res β} (h : LocT t p f) (hg : ∀ a, LocQ q (g a)) (hpq : ∀ t, q t → p t) : LocT t q (fun ts => (f ts).bind g) := by
 intro ts b r ht hx
 obtain ⟨a, s, h1, h2⟩ := bind_ok hx
 obtain ⟨c, hne0, rfl, hk, hc⟩ := h ts a s ht h1
 obtain ⟨c2, rfl, hk2, hc2⟩ := hg a s b r h2
 refine ⟨c ++ c2, fun e => hne0 (List.append_eq_nil_iff.1 e).1, by rw [List.append_assoc], fun x hx => ?_, fun r' h' => ?_⟩
 ·rcases List.mem_append.1 hx with hx | hx
  ·exact hk x hx
  ·exact hk2 x hx
 ·show (f (c ++ c2 ++ r')).bind g = _
  rw [List.append_assoc, hc (c2 ++ r')]
  ·exact hc2 r' h'
  ·by_cases hne : c2 = []
   ·subst hne
    exact h'.imp id (hpq _)
   ·exact .inl (Qf6 hne r r')
theorem LocQ.ok (a : α) : LocQ p (fun ts => .ok a ts) := by
 intro ts b r h
 cases h
 exact ⟨[], rfl, fun x hx => (by cases hx), fun r' _ => rfl⟩
theorem LocS.Q (h : LocS f) : LocQ p f := by
 intro ts a r hx
 obtain ⟨c, _, e, hk, hr⟩ := h ts a r hx
 exact ⟨c, e, hk, fun r' _ => hr r'⟩
theorem LocS.T (h : LocS f) : LocT t p f := by
 intro ts a r _ hx
 obtain ⟨c, hne, e, hk, hr⟩ := h ts a r hx
 exact ⟨c, hne, e, hk, fun r' _ => hr r'⟩
theorem LocQ.of (h : ∀ t, LocT t p f) : LocQ p f := by
 intro ts a r hx
 obtain ⟨c, _, e, hk, hr⟩ := h _ ts a r rfl hx
 exact ⟨c, e, hk, hr⟩
theorem LocQ.to (h : LocQ p f) : Loc f := by
 intro t ts a r _ hx
 obtain ⟨c, e, hk, hr⟩ := h ts a r hx
 exact ⟨c, e, hk, fun r' h' => hr r' (.inl h')⟩
theorem LocQ.fuel {F : Nat → List Tk → Res α} {b : List Tk → Nat} (hL : ∀ n, LocQ p (F n)) (hle : ∀ n ts, Le (F n ts) (F (n + 1) ts)) (hne : ∀ n ts, b ts ≤ n → ∀ p, F n ts ≠ .bad 0 p) : LocQ p (fun ts => F (b ts) ts) := by
 intro ts a r hx
 have hx : F (b ts) ts = .ok a r := hx
 obtain ⟨c, e, hk, _⟩ := hL _ ts a r hx
 refine ⟨c, e, hk, fun r' h' => ?_⟩
 obtain ⟨N, hN⟩ : ∃ N, N = max (b ts) (b (c ++ r')) := ⟨_, rfl⟩
 have h1 := (Le.go hle (show b ts ≤ N by omega) ts) (hne _ _ (Nat.le_refl _))
 rw [hx] at h1
 obtain ⟨c', e', _, hr⟩ := hL _ ts a r h1
 have hcc : c' = c := List.append_cancel_right (e'.symm.trans e)
 subst hcc
 have h2 := (Le.go hle (show b (c' ++ r') ≤ N by omega) (c' ++ r')) (hne _ _ (Nat.le_refl _))
 show F (b (c' ++ r')) (c' ++ r') = _
 rw [← h2]
 exact hr r' h'
end
theorem LocS.of {α : Type} {f : List Tk → Res α} (h : ∀ t, LocT t (fun _ => True) f) : LocS f := by
 intro ts a r hx
 obtain ⟨c, hne, e, hk, hr⟩ := h _ ts a r rfl hx
 exact ⟨c, hne, e, hk, fun r' => hr r' (.inr trivial)⟩
def Pw {α β : Type} (R : α → β → Prop) : List α → List β → Prop
 | [], [] => True
 | a :: l, b :: m => R a b ∧ Pw R l m
 | _, _ => False
section
variable {α β : Type} {R : α → β → Prop}
theorem Pw.append : ∀ {l m : List α} {l' m' : List β}, Pw R l l' → Pw R m m' → Pw R (l ++ m) (l' ++ m')
 | [], m, [], m', _, h => h
 | _ :: _, _, _ :: _, _, h, k => ⟨h.1, Pw.append h.2 k⟩
theorem Pw.snoc {l : List α} {l' : List β} {a : α} {b : β} (h : Pw R l l') (k : R a b) : Pw R (l ++ [a]) (l' ++ [b]) := h.append ⟨k, trivial⟩
theorem Pw.len : ∀ {l : List α} {l' : List β}, Pw R l l' → l'.length = l.length
 | [], [], _ => rfl
 | _ :: _, _ :: _, h => by simp only [List.length_cons, Pw.len h.2]
theorem Pw.imp {S : α → β → Prop} (f : ∀ a b, R a b → S a b) : ∀ {l : List α} {l' : List β}, Pw R l l' → Pw S l l'
 | [], [], _ => trivial
 | _ :: _, _ :: _, h => ⟨f _ _ h.1, Pw.imp f h.2⟩
theorem Pw.refl {R : α → α → Prop} : ∀ {l : List α}, (∀ a ∈ l, R a a) → Pw R l l
 | [], _ => trivial
 | a :: l, h => ⟨h a List.mem_cons_self, Pw.refl fun b hb => h b (List.mem_cons_of_mem _ hb)⟩
theorem Pw.map {γ : Type} {R : α → γ → Prop} {f : α → γ} : ∀ {l : List α}, (∀ a ∈ l, R a (f a)) → Pw R l (l.map f)
 | [], _ => trivial
 | a :: l, h => ⟨h a List.mem_cons_self, Pw.map fun b hb => h b (List.mem_cons_of_mem _ hb)⟩
end
section
variable (ρ : Int → Int → Prop)
structure TR (t u : Tk) : Prop where
 k : u.f0 = t.f0
 s : u.f1 = t.f1
 n : u.f2 = t.f2
 p : ρ t.f3 u.f3
structure NR (x y : Nd) : Prop where
 f0 : y.f0 = x.f0
 f1 : y.f1 = x.f1
 f2 : y.f2 = x.f2
 f3 : y.f3 = x.f3
 p : ρ x.f4 y.f4
structure ER (a b : EO) : Prop where
 ns : Pw (NR ρ) a.ns b.ns
 dep : b.dep = a.dep
def Ends (ts : List Tk) : Prop := ∃ i e, ts = i ++ [e] ∧ e.f0 = 0 ∧ ∀ t ∈ i, t.f0 ≠ 0
structure TL (ts us : List Tk) : Prop where
 e : Ends ts
 r : Pw (TR ρ) ts us
def RR {α β : Type} (A : α → β → Prop) : Res α → Res β → Prop
 | .ok a r, .ok b s => A a b ∧ TL ρ r s
 | .bad e p, .bad e' p' => e' = e ∧ (e ≠ 0 → ρ p p')
 | _, _ => False
end
section
variable {ρ : Int → Int → Prop} {α β γ δ : Type} {A : α → β → Prop} {B : γ → δ → Prop} {ts us : List Tk}
theorem Ends.tail (h : Ends ts) (h0 : (hd ts).f0 ≠ 0) : Ends ts.tail := by
 obtain ⟨i, e, rfl, he, hi⟩ := h
 cases i with
 | nil => exact absurd he h0
 | cons x i => exact ⟨i, e, rfl, he, fun t ht => hi t (List.mem_cons_of_mem _ ht)⟩
theorem Ends.ne (h : Ends ts) : ts ≠ [] := by
 obtain ⟨i, e, rfl, _, _⟩ := h
 simp
theorem TL.hd (h : TL ρ ts us) : TR ρ (P.hd ts) (P.hd us) := by
 have hn := h.e.ne
 have hr := h.r
 cases ts with
 | nil => exact absurd rfl hn
 | cons t ts =>
  cases us with
  | nil => exact hr.elim
  | cons u us => exact hr.1
theorem TL.tail (h : TL ρ ts us) (h0 : (P.hd ts).f0 ≠ 0) : TL ρ ts.tail us.tail := by
 refine ⟨h.e.tail h0, ?_⟩
 have hr := h.r
 cases ts with
 | nil => exact absurd rfl h0
 | cons t ts =>
  cases us with
  | nil => exact hr.elim
  | cons u us => exact hr.2
theorem TL.isT (h : TL ρ ts us) (k : Int) (s : ByteArray) : P.isT k s us = P.isT k s ts := by
 unfold P.isT
 rw [h.hd.k, h.hd.s]
theorem TL.isM (h : TL ρ ts us) (c : UInt8) : P.isM c us = P.isM c ts := h.isT _ _
theorem RR.bind {x : Res α} {y : Res β} {f : α → List Tk → Res γ} {g : β → List Tk → Res δ} (h : RR ρ A x y) (k : ∀ a b r s, A a b → TL ρ r s → RR ρ B (f a r) (g b s)) : RR ρ B (x.bind f) (y.bind g) := by
 cases x with
 | ok a r =>
  cases y with
  | ok b s => exact k a b r s h.1 h.2
  | bad e p => exact h.elim
 | bad e p =>
  cases y with
  | ok b s => exact h.elim
  | bad e' p' => exact h
theorem RR.ite {c d : Prop} [Decidable c] [Decidable d] {x x' : Res α} {y y' : Res β} (hcd : c ↔ d) (h1 : c → RR ρ A x y) (h2 : ¬ c → RR ρ A x' y') : RR ρ A (if c then x else x') (if d then y else y') := by
 by_cases hc : c
 ·rw [if_pos hc, if_pos (hcd.1 hc)]; exact h1 hc
 ·rw [if_neg hc, if_neg (fun h => hc (hcd.2 h))]; exact h2 hc
theorem RR.want {b b' : Bool} (h : TL ρ ts us) (hb : b' = b) (hk : b = true → (P.hd ts).f0 ≠ 0) : RR ρ (TR ρ) (P.want b ts) (P.want b' us) := by
 subst hb
 unfold P.want
 cases b' with
 | true => exact ⟨h.hd, h.tail (hk rfl)⟩
 | false => exact ⟨rfl, fun _ => h.hd.p⟩
theorem RR.Qar (h : TL ρ ts us) (c : UInt8) : RR ρ (TR ρ) (P.Qar c ts) (P.Qar c us) := RR.want h (h.isM c) fun hb => by rw [Qb5 hb]; decide
theorem Qpx {k k' : List EO} (h : Pw (ER ρ) k k') : mxl (k'.map EO.dep) = mxl (k.map EO.dep) := by
 have : k'.map EO.dep = k.map EO.dep := by
  induction k generalizing k' with
  | nil =>
   cases k' with
   | nil => rfl
   | cons b m => exact h.elim
  | cons a l ih =>
   cases k' with
   | nil => exact h.elim
   | cons b m => rw [List.map_cons, List.map_cons, ih h.2, h.1.dep]
 rw [this]
theorem Qpv {k k' : List EO} (h : Pw (ER ρ) k k') : Pw (NR ρ) (k.map EO.ns).flatten (k'.map EO.ns).flatten := by
 induction k generalizing k' with
 | nil =>
  cases k' with
  | nil => trivial
  | cons b m => exact h.elim
 | cons a l ih =>
  cases k' with
  | nil => exact h.elim
  | cons b m =>
   rw [List.map_cons, List.map_cons, List.flatten_cons, List.flatten_cons]
   exact h.1.ns.append (ih h.2)
theorem RR.comb {n n' : Nd} {k k' : List EO} {r s : List Tk} (hn : NR ρ n n') (hk : Pw (ER ρ) k k') (hr : TL ρ r s) : RR ρ (ER ρ) (P.comb n k r) (P.comb n' k' s) := by
 unfold P.comb
 rw [Qpx hk]
 refine RR.ite Iff.rfl (fun _ => ⟨rfl, fun _ => hn.p⟩) fun _ => ⟨⟨(Qpv hk).snoc hn, rfl⟩, hr⟩
def FR (ρ : Int → Int → Prop) : Fn → Fn → Prop
 | .expr, .expr => True
 | .addL a, .addL b => ER ρ a b
 | .term, .term => True
 | .mulL a, .mulL b => ER ρ a b
 | .fac, .fac => True
 | .args t l, .args u m => TR ρ t u ∧ Pw (ER ρ) l m
 | _, _ => False
theorem NR.node {op p p' : Int} (h : ρ p p') : NR ρ (P.node op p) (P.node op p') := ⟨rfl, rfl, rfl, rfl, h⟩
theorem XS_rel {R R' : Fn → Nat → List Tk → Res EO} (ih : ∀ f f' lev ts us, FR ρ f f' → TL ρ ts us → RR ρ (ER ρ) (R f lev ts) (R' f' lev us)) :
  ∀ f f' lev ts us, FR ρ f f' → TL ρ ts us → RR ρ (ER ρ) (XS R f lev ts) (XS R' f' lev us) := by
 intro f f' lev ts us hf h
 have hh := h.hd
 cases f with
 | expr =>
  cases f' with
  | expr => exact RR.bind (ih _ _ _ _ _ trivial h) fun a b r s ha hr => ih _ _ _ _ _ ha hr
  | _ => exact hf.elim
 | term =>
  cases f' with
  | term => exact RR.bind (ih _ _ _ _ _ trivial h) fun a b r s ha hr => ih _ _ _ _ _ ha hr
  | _ => exact hf.elim
 | addL a =>
  cases f' with
  | addL a' =>
   have hf : ER ρ a a' := hf
   unfold XS
   refine RR.ite (by rw [h.isM, h.isM]) (fun hm => ?_) fun _ => ⟨hf, h⟩
   have h0 : (P.hd ts).f0 ≠ 0 := by
    rw [Bool.or_eq_true] at hm
    rcases hm with hm | hm <;> (rw [Qb5 hm]; decide)
   rw [hh.s]
   exact RR.bind (ih _ _ _ _ _ trivial (h.tail h0)) fun b b' r s hb hr => RR.bind (RR.comb (NR.node hh.p) ⟨hf, hb, trivial⟩ hr) fun c c' r s hc hr => ih _ _ _ _ _ hc hr
  | _ => exact hf.elim
 | mulL a =>
  cases f' with
  | mulL a' =>
   have hf : ER ρ a a' := hf
   unfold XS
   refine RR.ite (by rw [h.isM]) (fun hm => ?_) fun _ => ⟨hf, h⟩
   have h0 : (P.hd ts).f0 ≠ 0 := by rw [Qb5 hm]; decide
   exact RR.bind (ih _ _ _ _ _ trivial (h.tail h0)) fun b b' r s hb hr => RR.bind (RR.comb (NR.node hh.p) ⟨hf, hb, trivial⟩ hr) fun c c' r s hc hr => ih _ _ _ _ _ hc hr
  | _ => exact hf.elim
 | args t l =>
  cases f' with
  | args t' l' =>
   have hf : TR ρ t t' ∧ Pw (ER ρ) l l' := hf
   unfold XS
   refine RR.ite (by rw [h.isM]) (fun hm => ?_) fun _ => ?_
   ·have h0 : (P.hd ts).f0 ≠ 0 := by rw [Qb5 hm]; decide
    exact RR.bind (ih _ _ _ _ _ trivial (h.tail h0)) fun b b' r s hb hr => ih _ _ _ _ _ ⟨hf.1, hf.2.snoc hb⟩ hr
   ·refine RR.bind (RR.Qar h _) fun _ _ r s _ hr => RR.comb ⟨rfl, ?_, rfl, rfl, hf.1.p⟩ hf.2 hr
    rw [hf.2.len]
  | _ => exact hf.elim
 | fac =>
  cases f' with
  | fac =>
   unfold XS
   have hbad : ∀ e : Int, RR ρ (ER ρ) (.bad e (P.hd ts).f3) (.bad e (P.hd us).f3) := fun e => ⟨rfl, fun _ => hh.p⟩
   have leaf : ∀ {n n' : Nd}, (P.hd ts).f0 ≠ 0 → NR ρ n n' → RR ρ (ER ρ) (P.comb n [] ts.tail) (P.comb n' [] us.tail) := fun h0 hn => RR.comb hn trivial (h.tail h0)
   have lev' : ∀ {x y : Res EO}, RR ρ (ER ρ) x y → RR ρ (ER ρ) (if 100 ≤ lev then .bad 91 (P.hd ts).f3 else x) (if 100 ≤ lev then .bad 91 (P.hd us).f3 else y) := fun hx => RR.ite Iff.rfl (fun _ => hbad 91) fun _ => hx
   have q2 : (P.hd us).f0 = 2 ↔ (P.hd ts).f0 = 2 := by rw [hh.k]
   refine RR.ite (by rw [hh.k]) (fun k => leaf (by rw [k]; decide) ⟨rfl, rfl, hh.n, rfl, hh.p⟩) fun _ => ?_
   refine RR.ite (by rw [hh.k]) (fun k => leaf (by rw [k]; decide) ⟨rfl, rfl, rfl, hh.s, hh.p⟩) fun _ => ?_
   refine RR.ite (by rw [hh.k]) (fun k => ?_) fun _ => ?_
   ·have h0 : (P.hd ts).f0 ≠ 0 := by rw [k]; decide
    have hp := RR.Qar (h.tail h0) 40
    refine RR.ite (by rw [hh.s]) (fun _ => leaf h0 (NR.node hh.p)) fun _ => ?_
    refine RR.ite (by rw [hh.s]) (fun _ => leaf h0 (NR.node hh.p)) fun _ => ?_
    refine RR.ite (by rw [hh.s]) (fun _ => lev' ?_) fun _ => ?_
    ·exact RR.bind hp fun _ _ r s _ hr => RR.bind (ih _ _ _ _ _ trivial hr) fun a b r s ha hr => ih _ _ _ _ _ ⟨hh, ha, trivial⟩ hr
    refine RR.ite (by rw [hh.s]) (fun _ => lev' ?_) fun _ => ?_
    ·exact RR.bind hp fun _ _ r s _ hr => RR.bind (ih _ _ _ _ _ trivial hr) fun a b r s ha hr => RR.bind (RR.Qar hr _) fun _ _ r s _ hr => RR.bind (ih _ _ _ _ _ trivial hr) fun c d r s hc hr => RR.bind (RR.Qar hr _) fun _ _ r s _ hr => RR.comb (NR.node hh.p) ⟨ha, hc, trivial⟩ hr
    refine RR.ite (by rw [hh.s]) (fun _ => lev' ?_) fun _ => ?_
    ·exact RR.bind hp fun _ _ r s _ hr => RR.bind (ih _ _ _ _ _ trivial hr) fun a b r s ha hr => RR.bind (RR.Qar hr _) fun _ _ r s _ hr => RR.comb (NR.node hh.p) ⟨ha, trivial⟩ hr
    refine RR.ite (by rw [hh.s]) (fun _ => lev' ?_) fun _ => hbad 90
    ·exact RR.bind hp fun _ _ r s _ hr => RR.bind (ih _ _ _ _ _ trivial hr) fun a b r s ha hr => RR.bind (RR.Qar hr _) fun _ _ r s _ hr => RR.comb (NR.node hh.p) ⟨ha, trivial⟩ hr
   ·refine RR.ite (by rw [h.isM]) (fun hm => lev' ?_) fun _ => ?_
    ·have h0 : (P.hd ts).f0 ≠ 0 := by rw [Qb5 hm]; decide
     exact RR.bind (ih _ _ _ _ _ trivial (h.tail h0)) fun a b r s ha hr => RR.comb (NR.node hh.p) ⟨ha, trivial⟩ hr
    refine RR.ite (by rw [h.isM]) (fun hm => lev' ?_) fun _ => hbad 90
    ·have h0 : (P.hd ts).f0 ≠ 0 := by rw [Qb5 hm]; decide
     exact RR.bind (ih _ _ _ _ _ trivial (h.tail h0)) fun a b r s ha hr => RR.bind (RR.Qar hr _) fun _ _ r s _ hr => ⟨ha, hr⟩
  | _ => exact hf.elim
theorem X_rel : ∀ (n : Nat) (f f' : Fn) (lev : Nat) (ts us : List Tk), FR ρ f f' → TL ρ ts us → RR ρ (ER ρ) (X n f lev ts) (X n f' lev us) := by
 intro n
 induction n with
 | zero => intro f f' lev ts us _ _; exact ⟨rfl, fun h => absurd rfl h⟩
 | succ n ih =>
  intro f f' lev ts us hf h
  rw [Qpb, Qpb]
  exact XS_rel ih f f' lev ts us hf h
theorem Qmy (h : TL ρ ts us) : RR ρ (ER ρ) (Qda ts) (Qda us) := by
 unfold Qda
 rw [h.r.len]
 exact X_rel _ _ _ _ _ _ trivial h
theorem Qom (h : TL ρ ts us) : RR ρ (TR ρ) (endW ts) (endW us) := by
 unfold endW
 exact RR.ite (by rw [h.hd.k]) (fun _ => ⟨h.hd, h⟩) fun _ => ⟨rfl, fun _ => h.hd.p⟩
theorem Qli (h : TL ρ ts us) : RR ρ (Pw (NR ρ)) (Qeb ts) (Qeb us) := by
 unfold Qeb
 exact RR.bind (Qmy h) fun v v' r s hv h => RR.bind (Qom h) fun _ _ r s _ h => ⟨hv.ns, h⟩
end
end Go.Proofs.Ytbdcndkafaajpaa.P
end
section
namespace Go.Proofs.Ytbdcndkafaajpaa.L
open Ytbdcndkafaajpaa
def LR.pre (ts : List Tok) : LR → LR
 | .toks l => .toks (ts ++ l)
 | .bad a e => .bad a e
theorem pre_nil (r : LR) : LR.pre [] r = r := by cases r <;> rfl
theorem Qnz (t : Tok) (ts : List Tok) (r : LR) : (LR.pre ts r).push t = LR.pre (t :: ts) r := by cases r <;> rfl
theorem lx_gap {g l : List UInt8} (hg : gs false g = some false) (off : Nat) : lx off (g ++ l) = lx (off + g.length) l := by
 rcases Qhc (off + g.length) l with ⟨q, h, e⟩ | ⟨g', w, r, t, rfl, hg', ht, hw, e⟩ | ⟨g', m, a, e, rfl, hg', hm, hne, ht, h⟩
 ·rw [e, Qem (Qo5 (by rw [Qlb hg]; exact h)), List.length_append, Nat.add_assoc]
 ·rw [e, ← List.append_assoc, Qls (by rw [Qlb hg]; exact hg') ht hw, List.length_append]; simp only [Nat.add_assoc]
 ·rw [h, ← List.append_assoc, Qio (by rw [Qlb hg]; exact hg') hm hne ht, List.length_append]; simp only [Nat.add_assoc]
theorem gs_nl (q : Bool) : gs q [10] = some false := by cases q <;> rfl
theorem Qp0 (m : List UInt8) : ∀ (d off : Nat) (s : List UInt8) (ts : List Tok), s.length ≤ d → lx off s = .toks ts →
  ∃ i, ts = i ++ [⟨0, [], 0, off + s.length, off + s.length⟩] ∧ (∀ t ∈ i, t.kind ≠ 0) ∧ lx off (s ++ 10 :: m) = LR.pre i (lx (off + s.length + 1) m) := by
 have w10 : Qei isW (10 :: m) := Qdw (by decide)
 have fin : ∀ (off : Nat) (s : List UInt8) (q : Bool), gs false s = some q → lx off (s ++ 10 :: m) = LR.pre [] (lx (off + s.length + 1) m) := by
  intro off s q hq
  rw [pre_nil, show s ++ 10 :: m = (s ++ [10]) ++ m by simp, lx_gap (by rw [Qlb hq]; exact gs_nl q), List.length_append]
  rfl
 intro d
 induction d with
 | zero =>
  intro off s ts hd h
  obtain rfl : s = [] := List.length_eq_zero_iff.1 (by omega)
  rw [Qem rfl] at h; cases h
  exact ⟨[], rfl, fun t ht => (by cases ht), fin off [] false rfl⟩
 | succ d ih =>
  intro off s ts hd h
  rcases Qhc off s with ⟨q, hq, e⟩ | ⟨g, w, r, t, rfl, hg, ht, hw, e⟩ | ⟨g, m', a, e, rfl, hg, hm, hne, ht, h2⟩
  ·rw [e] at h; cases h
   exact ⟨[], rfl, fun t ht => (by cases ht), fin off s q hq⟩
  ·have hl2 := Qds ht
   rw [e] at h
   obtain ⟨l', h1, rfl⟩ := Qfe h
   obtain ⟨i, rfl, hk, hx⟩ := ih _ r l' (by simp only [List.length_append] at hd; omega) h1
   refine ⟨t.at_ (off + g.length) :: i, ?_, fun u hu => ?_, ?_⟩
   ·simp only [List.cons_append, List.length_append, Nat.add_assoc]
   ·rcases List.mem_cons.1 hu with rfl | hu
    ·have := Qkv ht
     show t.kind ≠ 0
     omega
    ·exact hk u hu
   ·rw [List.append_assoc, List.append_assoc, Qls hg (Qg5 ht hw (Qky (Qku ht hw) w10)) hw, hx, Qnz]
    simp only [List.length_append, Nat.add_assoc]
  ·rw [h2] at h; cases h
theorem lx_at : ∀ (d off : Nat) (l : List UInt8) (ts : List Tok), l.length ≤ d → lx off l = .toks ts → ∀ t ∈ ts, off ≤ t.at' ∧ t.at' ≤ off + l.length := by
 intro d
 induction d with
 | zero =>
  intro off l ts hl h t ht
  obtain rfl : l = [] := List.length_eq_zero_iff.1 (by omega)
  rw [Qem rfl] at h; cases h
  rw [List.mem_singleton.1 ht]
  simp
 | succ d ih =>
  intro off l ts hl h t ht
  rcases Qhc off l with ⟨q, hq, e⟩ | ⟨g, w, r, t0, rfl, hg, ht0, hw, e⟩ | ⟨g, m, a, e, rfl, hg, hm, hne, ht0, h2⟩
  ·rw [e] at h; cases h
   rw [List.mem_singleton.1 ht]
   simp
  ·have hl2 := Qds ht0
   rw [e] at h
   obtain ⟨l', h1, rfl⟩ := Qfe h
   rcases List.mem_cons.1 ht with rfl | ht
   ·have : (t0.at_ (off + g.length)).at' = off + g.length := rfl
    simp only [List.length_append]; omega
   ·have := ih _ r l' (by simp only [List.length_append] at hl; omega) h1 t ht
    simp only [List.length_append]; omega
  ·rw [h2] at h; cases h
end Go.Proofs.Ytbdcndkafaajpaa.L
end
section
namespace Go.Proofs.Ytbdcndkafaajpaa.A
open Go.RowKit Ytbdcndkafaajpaa.X YtbdcndkafaajpaaW.PrintWords YtbdcndkafaajpaaW.PrintLast YtbdcndkafaajpaaW.PrintMore
open Ytbdcndkafaajpaa.P (Nd EO Res hd isT isM Qar mxl comb mk1 StD VeD EvD Out Qc6 Qdu Qdr)
theorem eqN (d : Nat) (w : World) (x0 y0 : Int) (x1 y1 : Int) (x2 y2 : Int) (x3 y3 : ByteArray) (x4 y4 : Int) :
  (Op.equalIn (d + 2) 49 (.agg #[.int .i64 x0, .int .i64 x1, .int .u64 x2, .string x3, .int .i64 x4]) (.agg #[.int .i64 y0, .int .i64 y1, .int .u64 y2, .string y3, .int .i64 y4])).run Try.prog w = .ok (x0 == y0 && (x1 == y1 && (x2 == y2 && (x3.toList == y3.toList && (x4 == y4))))) w := by
 refine eqA_of Try.underlying49 (by kernel_rfl) ?_
 refine Qgt (by rfl) (by go_simp; rfl) (by go_simp; rfl) (by go_simp) ?_
 refine Qgt (by rfl) (by go_simp; rfl) (by go_simp; rfl) (by go_simp) ?_
 refine Qgt (by rfl) (by go_simp; rfl) (by go_simp; rfl) (by go_simp) ?_
 refine Qgt (by rfl) (by go_simp; rfl) (by go_simp; rfl) (by go_simp) ?_
 exact Qol (by rfl) (by go_simp; rfl) (by go_simp; rfl) (by go_simp)
def Qf3 (more : Int) (pl : Bool) (x y : Nd) : Bool := x.f0 == y.f0 && (x.f1 == y.f1 && (x.f2 == y.f2 && (x.f3.toList == y.f3.toList && ((if pl then wrap64 (x.f4 + more) else y.f4) == y.f4))))
def allB {α : Type} (f : α → α → Bool) : List α → List α → Bool
 | [], [] => true
 | x :: l, y :: m => f x y && allB f l m
 | _, _ => false
def Qgl (more : Int) (pl : Bool) (xs ys : List Nd) : Bool := allB (Qf3 more pl) xs ys
def zN : Nd := ⟨0, 0, 0, ⟨#[]⟩, 0⟩
theorem at_N {w : World} {A : Option Addr} {n : Nat} {xs : List Nd} (h : Kd.C kn w A n xs) (i : Nat) (h1 : i < n) : ∃ ad, A = some ad ∧ w.cell? (ad.add (i * 5)) = some (.int .i64 (xs.getD i zN).f0) ∧ w.cell? ⟨(ad.add (i * 5)).block, (ad.add (i * 5)).off + 1, none⟩ = some (.int .i64 (xs.getD i zN).f1) ∧ w.cell? ⟨(ad.add (i * 5)).block, (ad.add (i * 5)).off + 2, none⟩ = some (.int .u64 (xs.getD i zN).f2) ∧ w.cell? ⟨(ad.add (i * 5)).block, (ad.add (i * 5)).off + 3, none⟩ = some (.string (xs.getD i zN).f3) ∧ w.cell? ⟨(ad.add (i * 5)).block, (ad.add (i * 5)).off + 4, none⟩ = some (.int .i64 (xs.getD i zN).f4) := by
 obtain ⟨ad, c, e, _, hK, hc0⟩ := Kd.Qjv h zN (i : Int) (by omega) (by omega)
 rw [Int.toNat_natCast] at hK hc0
 have hc : ∀ j u, c[j]? = some u → w.cell? (ad.add (i * 5 + j)) = some u := hc0
 obtain rfl := Qp7 hK
 exact ⟨ad, e, hc 0 _ rfl, by rw [← Qb7 _ _ 1 (by omega)]; exact hc 1 _ rfl, by rw [← Qb7 _ _ 2 (by omega)]; exact hc 2 _ rfl, by rw [← Qb7 _ _ 3 (by omega)]; exact hc 3 _ rfl, by rw [← Qb7 _ _ 4 (by omega)]; exact hc 4 _ rfl⟩
theorem Qjn {α : Type} (f : α → α → Bool) (z : α) : ∀ (i : Nat) (l m : List α), i < l.length → i < m.length → allB f (l.drop i) (m.drop i) = (f (l.getD i z) (m.getD i z) && allB f (l.drop (i + 1)) (m.drop (i + 1)))
 | 0, x :: l, y :: m, _, _ => rfl
 | i + 1, x :: l, y :: m, h1, h2 => by
  have := Qjn f z i l m (by simpa using h1) (by simpa using h2)
  simpa using this
theorem Qle {α : Type} (f : α → α → Bool) : ∀ (l m : List α), l.length ≠ m.length → allB f l m = false
 | [], [], h => absurd rfl h
 | [], _ :: _, _ => rfl
 | _ :: _, [], _ => rfl
 | x :: l, y :: m, h => by
  unfold allB
  rw [Qle f l m (by simpa using h), Bool.and_false]
end Go.Proofs.Ytbdcndkafaajpaa.A
end
section
attribute [local go_sem high] Go.Proofs.Ytbdcndkafaajpaa.A.eqN
namespace Go.Proofs.Ytbdcndkafaajpaa.A
open Go.RowKit Ytbdcndkafaajpaa.X YtbdcndkafaajpaaW.PrintWords YtbdcndkafaajpaaW.PrintLast YtbdcndkafaajpaaW.PrintMore
open Ytbdcndkafaajpaa.P (Nd EO Res hd isT isM Qar mxl comb mk1 StD VeD EvD Out Qc6 Qdu Qdr)
theorem Qha (w : World) (A1 A2 : Option Addr) (c1 c2 : Nat) (xs ys : List Nd) (more : Int) (pl : Bool) (h1 : Kd.C kn w A1 xs.length xs) (h2 : Kd.C kn w A2 ys.length ys) (hx : xs.length ≤ 9223372036854775807) :
  Calls Try.prog 17 #[.slice A1 xs.length c1, .slice A2 ys.length c2, .int .i64 more, .bool pl] w fun e w' => e = .returned (.bool (Qgl more pl xs ys)) ∧ Below w.heap.size w w' := by
 have H1 := J0.m h1
 have H2 := J0.m h2
 have HX := J0.m hx
 clear h1 h2 hx
 by_cases hl : xs.length = ys.length
 ·have d0 : ((xs.length : Int) != (ys.length : Int)) = false := by rw [hl]; simp
  have HLE := J0.m hl
  clear hl
  go_enter Try.func17, Try.ntmps17
  go_wp2_with fail
  go_loopw [9] (fun ti wr => ∃ i : Nat, ti = .int .i64 (i : Int) ∧ J0 (i ≤ xs.length) ∧ J0 (allB (Qf3 more pl) (xs.drop i) (ys.drop i) = Qgl more pl xs ys) ∧ J0 (Below w.heap.size w wr)) (fun ti _ => xs.length - left ti)
  case atStart => exact ⟨0, rfl, ⟨Nat.zero_le _⟩, ⟨rfl⟩, ⟨Below.refl _ _⟩⟩
  case round =>
   obtain ⟨i, rfl, hi, he, hb⟩ := hrel
   by_cases hlt : i < xs.length
   ·have dl : ((i : Int) < (xs.length : Int)) := by omega
    have dl2 : decide ((i : Int) < (xs.length : Int)) = true := decide_eq_true dl
    have hi2 : (i : Int) < (ys.length : Int) := by rw [← HLE.o]; exact dl
    obtain ⟨ad1, hA1, x0, x1, x2, x3, x4⟩ := at_N (Kd.Qc7 H1.o hb.o) i hlt
    obtain ⟨ad2, hA2, _⟩ := at_N (Kd.Qc7 H2.o hb.o) i (by rw [← HLE.o]; exact hlt)
    have hst := he.o
    rw [Qjn (Qf3 more pl) zN i xs ys hlt (by rw [← HLE.o]; exact hlt)] at hst
    obtain ⟨X, hX⟩ : ∃ X, X = xs.getD i zN := ⟨_, rfl⟩
    rw [← hX] at x0 x1 x2 x3 x4 hst
    obtain ⟨a0, a1, a2, a3, a4⟩ := X
    obtain ⟨Y, hY⟩ : ∃ Y, Y = ys.getD i zN := ⟨_, rfl⟩
    obtain ⟨V, hV⟩ : ∃ V, V = (if pl then wrap64 (a4 + more) else Y.f4) := ⟨_, rfl⟩
    obtain ⟨W1, hW1⟩ : ∃ W1, W1 = wr.alloc (.cells #[.int .i64 a0, .int .i64 a1, .int .u64 a2, .string a3, .int .i64 (wrap64 (a4 + more))] 49) := ⟨_, rfl⟩
    obtain ⟨W, hW⟩ : ∃ W, W = wr.alloc (.cells #[.int .i64 a0, .int .i64 a1, .int .u64 a2, .string a3, .int .i64 V] 49) := ⟨_, rfl⟩
    have hBW1 : Below wr.heap.size wr W1 := by rw [hW1]; exact Qab (Below.refl _ _) _
    have hBW : Below wr.heap.size wr W := by rw [hW]; exact Qab (Below.refl _ _) _
    have hbn : W.heap[wr.heap.size]? = some (.cells #[.int .i64 a0, .int .i64 a1, .int .u64 a2, .string a3, .int .i64 V] 49 (0, 0)) := by rw [hW]; exact Qa1 _ _
    obtain ⟨z0, z1, z2, z3, z4⟩ := Qdf (n := ⟨a0, a1, a2, a3, V⟩) hbn
    obtain ⟨_, e1, _, _, _, _, v4⟩ := at_N (Kd.Qc7 H2.o (Qap hb.o hBW1)) i (by rw [← HLE.o]; exact hlt)
    obtain ⟨_, e2, y0, y1, y2, y3, y4⟩ := at_N (Kd.Qc7 H2.o (Qap hb.o hBW)) i (by rw [← HLE.o]; exact hlt)
    rw [hA2] at e1 e2
    injection e1 with e1
    injection e2 with e2
    subst e1 e2 hA1 hA2
    rw [← hY] at v4 y0 y1 y2 y3 y4 hst
    obtain ⟨b0, b1, b2, b3, b4⟩ := Y
    have hnx := Qn4 i xs.length HX.o hlt
    have hls := Qp4 i xs.length HX.o hlt
    have HST := J0.m hst
    have HLT := J0.m hlt
    have HNX := J0.m hnx
    have HLS := J0.m hls
    have HBW := J0.m (Qap hb.o hBW)
    have HW := J0.m hW
    have HV := J0.m hV
    rw [hW1] at v4
    clear hst hlt hnx hls hBW hBW1 hW1 hbn hX hY
    clear HV
    cases pl with
    | false =>
     simp only [if_true, Bool.false_eq_true, if_false] at hV
     subst hV
     rw [hW] at z0 z1 z2 z3 z4 y0 y1 y2 y3 y4
     clear hW
     go_wp2_with fail
     go_quiet (fail)
     obtain ⟨q, hq⟩ : ∃ q, q = (!(a0 == b0) || (!(a1 == b1) || (!(a2 == b2) || !(a3.toList == b3.toList)))) := ⟨_, rfl⟩
     rw [← hq]
     have HQ := J0.m hq
     clear hq
     cases q with
     | true =>
      go_wp2
      go_ret
      refine ⟨?_, Qac (by rw [← HW.o]; exact HBW.o) _⟩
      rw [← HST.o]
      have : Qf3 more false ⟨a0, a1, a2, a3, a4⟩ ⟨b0, b1, b2, b3, V⟩ = false := by
       have h := HQ.o
       unfold Qf3
       revert h
       simp only [if_true, Bool.false_eq_true, if_false, beq_self_eq_true, Bool.and_true]
       cases (a0 == b0) <;> cases (a1 == b1) <;> cases (a2 == b2) <;> cases (a3.toList == b3.toList) <;> simp
      rw [this, Bool.false_and]
      rfl
     | false =>
      go_wp2
      rw [HNX.o]
      go_roundw
      case measure => have := HLS.o; have := HLT.o; simp only [left, Int.toNat_natCast]; omega
      case rel =>
       refine ⟨i + 1, rfl, ⟨HLT.o⟩, ⟨?_⟩, ⟨Qac (by rw [← HW.o]; exact HBW.o) _⟩⟩
       rw [← HST.o]
       have : Qf3 more false ⟨a0, a1, a2, a3, a4⟩ ⟨b0, b1, b2, b3, V⟩ = true := by
        have h := HQ.o
        unfold Qf3
        revert h
        simp only [if_true, Bool.false_eq_true, if_false, beq_self_eq_true, Bool.and_true]
        cases (a0 == b0) <;> cases (a1 == b1) <;> cases (a2 == b2) <;> cases (a3.toList == b3.toList) <;> simp
       rw [this, Bool.true_and]
    | true =>
     simp only [if_true, Bool.false_eq_true, if_false] at hV
     subst hV
     rw [hW] at z0 z1 z2 z3 z4 y0 y1 y2 y3 y4
     clear hW
     go_wp2_with fail
     go_quiet (fail)
     obtain ⟨q, hq⟩ : ∃ q, q = (!(a0 == b0) || (!(a1 == b1) || (!(a2 == b2) || (!(a3.toList == b3.toList) || !(wrap64 (a4 + more) == b4))))) := ⟨_, rfl⟩
     rw [← hq]
     have HQ := J0.m hq
     clear hq
     cases q with
     | true =>
      go_wp2
      go_ret
      refine ⟨?_, Qac (by rw [← HW.o]; exact HBW.o) _⟩
      rw [← HST.o]
      have : Qf3 more true ⟨a0, a1, a2, a3, a4⟩ ⟨b0, b1, b2, b3, b4⟩ = false := by
       have h := HQ.o
       unfold Qf3
       revert h
       simp only [if_true, Bool.false_eq_true, if_false, beq_self_eq_true, Bool.and_true]
       cases (a0 == b0) <;> cases (a1 == b1) <;> cases (a2 == b2) <;> cases (a3.toList == b3.toList) <;> cases (wrap64 (a4 + more) == b4) <;> simp
      rw [this, Bool.false_and]
      rfl
     | false =>
      go_wp2
      rw [HNX.o]
      go_roundw
      case measure => have := HLS.o; have := HLT.o; simp only [left, Int.toNat_natCast]; omega
      case rel =>
       refine ⟨i + 1, rfl, ⟨HLT.o⟩, ⟨?_⟩, ⟨Qac (by rw [← HW.o]; exact HBW.o) _⟩⟩
       rw [← HST.o]
       have : Qf3 more true ⟨a0, a1, a2, a3, a4⟩ ⟨b0, b1, b2, b3, b4⟩ = true := by
        have h := HQ.o
        unfold Qf3
        revert h
        simp only [if_true, Bool.false_eq_true, if_false, beq_self_eq_true, Bool.and_true]
        cases (a0 == b0) <;> cases (a1 == b1) <;> cases (a2 == b2) <;> cases (a3.toList == b3.toList) <;> cases (wrap64 (a4 + more) == b4) <;> simp
       rw [this, Bool.true_and]
   ·have dl2 : decide ((i : Int) < (xs.length : Int)) = false := decide_eq_false (by omega)
    have hie : i = xs.length := by have := hi.o; omega
    have he' := he.o
    rw [hie, List.drop_length, HLE.o, List.drop_length] at he'
    have HE := J0.m he'
    clear he' hie
    go_wp2
    go_ret
    exact ⟨by rw [← HE.o]; rfl, hb.o⟩
 ·have d0 : ((xs.length : Int) != (ys.length : Int)) = true := bne_iff_ne.2 (by omega)
  have HF := J0.m (Qle (Qf3 more pl) xs ys hl)
  clear hl
  go_enter Try.func17, Try.ntmps17
  go_wp2
  go_ret
  exact ⟨by unfold Qgl; rw [HF.o]; rfl, Below.refl _ _⟩
end Go.Proofs.Ytbdcndkafaajpaa.A
end
section
namespace Go.Proofs.Ytbdcndkafaajpaa.A
open Go.RowKit Ytbdcndkafaajpaa.X YtbdcndkafaajpaaW.PrintWords YtbdcndkafaajpaaW.PrintLast YtbdcndkafaajpaaW.PrintMore
open Ytbdcndkafaajpaa.P (Nd EO Res hd isT isM Qar mxl comb mk1 StD VeD EvD Out Qc6 Qdu Qdr)
structure RdN (w : World) (d : StD) (x : StV) : Prop where
 k : x.k = d.k
 a : x.a = d.a
 b : x.b = d.b
 c : x.c = d.c
 sep : x.sep = d.sep
 ty : x.ty = d.ty
 n : x.val.n = d.val.length
 pl : x.pl = d.pl
 v : Kd.C kn w x.val.A d.val.length d.val
 mx : d.val.length ≤ 9223372036854775807
theorem RdN.below {w w' : World} {d : StD} {x : StV} (h : RdN w d x) (hb : Below w.heap.size w w') : RdN w' d x := ⟨h.k, h.a, h.b, h.c, h.sep, h.ty, h.n, h.pl, Kd.Qc7 h.v hb, h.mx⟩
theorem Qoc {w : World} {x : StV} {cs : List Value} (h : kst.K w x cs) : cs = stCs x := by
 obtain ⟨_, _, rfl, rfl, ⟨_, _, rfl, rfl, ⟨_, _, rfl, rfl, ⟨_, _, rfl, rfl, ⟨_, _, rfl, rfl, ⟨_, _, rfl, rfl, ⟨_, _, rfl, rfl, rfl⟩⟩⟩⟩⟩⟩⟩ := h
 exact rfl
def zS : StV := ⟨0, ⟨#[]⟩, ⟨#[]⟩, ⟨#[]⟩, ⟨#[]⟩, ⟨#[]⟩, ⟨none, 0, 0⟩, 0⟩
def zD : StD := ⟨0, ⟨#[]⟩, ⟨#[]⟩, ⟨#[]⟩, ⟨#[]⟩, ⟨#[]⟩, [], 0⟩
theorem All2.get {α β : Type} {R : α → β → Prop} (za : α) (zb : β) : ∀ {l : List α} {m : List β} (i : Nat), All2 R l m → i < l.length → R (l.getD i za) (m.getD i zb)
 | a :: l, b :: m, 0, h, _ => h.1
 | a :: l, b :: m, i + 1, h, hi => by
  have := All2.get za zb (l := l) (m := m) i h.2 (by simpa using hi)
  simpa using this
theorem at_S {w : World} {A : Option Addr} {n : Nat} {xs : List StV} {ds : List StD} (h : Kd.C kst w A n xs) (hr : All2 (RdN w) ds xs) (i : Nat) (h1 : i < n) (h2 : i < ds.length) : ∃ ad va vc, A = some ad ∧ (∀ w' : World, Below w.heap.size w w' → w'.cell? (ad.add (i * 8)) = some (.int .i64 (ds.getD i zD).k) ∧ w'.cell? ⟨(ad.add (i * 8)).block, (ad.add (i * 8)).off + 1, none⟩ = some (.string (ds.getD i zD).a) ∧ w'.cell? ⟨(ad.add (i * 8)).block, (ad.add (i * 8)).off + 2, none⟩ = some (.string (ds.getD i zD).b) ∧ w'.cell? ⟨(ad.add (i * 8)).block, (ad.add (i * 8)).off + 3, none⟩ = some (.string (ds.getD i zD).c) ∧ w'.cell? ⟨(ad.add (i * 8)).block, (ad.add (i * 8)).off + 4, none⟩ = some (.string (ds.getD i zD).sep) ∧ w'.cell? ⟨(ad.add (i * 8)).block, (ad.add (i * 8)).off + 5, none⟩ = some (.string (ds.getD i zD).ty) ∧ w'.cell? ⟨(ad.add (i * 8)).block, (ad.add (i * 8)).off + 6, none⟩ = some (.slice va (ds.getD i zD).val.length vc) ∧ w'.cell? ⟨(ad.add (i * 8)).block, (ad.add (i * 8)).off + 7, none⟩ = some (.int .i64 (ds.getD i zD).pl)) ∧ Kd.C kn w va (ds.getD i zD).val.length (ds.getD i zD).val ∧ (ds.getD i zD).val.length ≤ 9223372036854775807 := by
 have hR := All2.get zD zS i hr h2
 have hA : ∃ ad, A = some ad := by
  obtain ⟨ad, c, e, _⟩ := Kd.Qjv h zS (i : Int) (by omega) (by omega)
  exact ⟨ad, e⟩
 obtain ⟨ad, e⟩ := hA
 refine ⟨ad, (xs.getD i zS).val.A, (xs.getD i zS).val.c, e, fun w' hb => ?_, hR.v, hR.mx⟩
 obtain ⟨ad', c, e', _, hK, hc0⟩ := Kd.Qjv (Kd.Qc7 h hb) zS (i : Int) (by omega) (by omega)
 rw [e] at e'
 injection e' with e'
 subst e'
 rw [Int.toNat_natCast] at hK hc0
 have hc : ∀ j u, c[j]? = some u → w'.cell? (ad.add (i * 8 + j)) = some u := hc0
 obtain rfl := Qoc hK
 obtain ⟨q0, q1, q2, q3, q4, q5, q6, q7, _, _⟩ := hR
 rw [← q0, ← q1, ← q2, ← q3, ← q4, ← q5, ← q6, ← q7]
 exact ⟨hc 0 _ rfl, by rw [← Qb7 _ _ 1 (by omega)]; exact hc 1 _ rfl, by rw [← Qb7 _ _ 2 (by omega)]; exact hc 2 _ rfl, by rw [← Qb7 _ _ 3 (by omega)]; exact hc 3 _ rfl, by rw [← Qb7 _ _ 4 (by omega)]; exact hc 4 _ rfl, by rw [← Qb7 _ _ 5 (by omega)]; exact hc 5 _ rfl, by rw [← Qb7 _ _ 6 (by omega)]; exact hc 6 _ rfl, by rw [← Qb7 _ _ 7 (by omega)]; exact hc 7 _ rfl⟩
theorem stBox {W : World} {b : Nat} {v0 v1 v2 v3 v4 v5 v6 v7 : Value} (h : W.heap[b]? = some (.cells #[v0, v1, v2, v3, v4, v5, v6, v7] 62 (0, 0))) : W.cell? ⟨b, 0, none⟩ = some v0 ∧ W.cell? ⟨b, 1, none⟩ = some v1 ∧ W.cell? ⟨b, 2, none⟩ = some v2 ∧ W.cell? ⟨b, 3, none⟩ = some v3 ∧ W.cell? ⟨b, 4, none⟩ = some v4 ∧ W.cell? ⟨b, 5, none⟩ = some v5 ∧ W.cell? ⟨b, 6, none⟩ = some v6 ∧ W.cell? ⟨b, 7, none⟩ = some v7 :=
 ⟨(Qaf h 0).trans rfl, (Qaf h 1).trans rfl, (Qaf h 2).trans rfl, (Qaf h 3).trans rfl, (Qaf h 4).trans rfl, (Qaf h 5).trans rfl, (Qaf h 6).trans rfl, (Qaf h 7).trans rfl⟩
structure RdV (w : World) (d : VeD) (x : VeV) : Prop where
 num : x.num = d.num
 n : x.steps.n = d.steps.length
 pl : x.pl = d.pl
 v : ∃ xs, Kd.C kst w x.steps.A xs.length xs ∧ All2 (RdN w) d.steps xs
 mx : d.steps.length ≤ 9223372036854775807
structure RdE (w : World) (d : EvD) (x : EvV) : Prop where
 name : x.name = d.name
 n : x.vers.n = d.vers.length
 pl : x.pl = d.pl
 v : ∃ xs, Kd.C kve w x.vers.A xs.length xs ∧ All2 (RdV w) d.vers xs
 mx : d.vers.length ≤ 9223372036854775807
theorem RdV.below {w w' : World} {d : VeD} {x : VeV} (h : RdV w d x) (hb : Below w.heap.size w w') : RdV w' d x := by
 obtain ⟨xs, h1, h2⟩ := h.v
 exact ⟨h.num, h.n, h.pl, ⟨xs, Kd.Qc7 h1 hb, h2.imp (fun _ _ h => h.below hb)⟩, h.mx⟩
theorem RdE.below {w w' : World} {d : EvD} {x : EvV} (h : RdE w d x) (hb : Below w.heap.size w w') : RdE w' d x := by
 obtain ⟨xs, h1, h2⟩ := h.v
 exact ⟨h.name, h.n, h.pl, ⟨xs, Kd.Qc7 h1 hb, h2.imp (fun _ _ h => h.below hb)⟩, h.mx⟩
section
variable {w : World} {base : Nat} {l : List Row}
theorem Qjs {α : Type} {d : Kd α} {e : Nat} {ok : Nat → Prop} {v : Value} {xs : List α} (h : d.R e w base ok v xs) : xs.length ≤ 9223372036854775807 := by
 obtain ⟨A, c, he, hl, hr⟩ := Kd.Qgj h
 exact Kd.C_max hr
theorem rdN_of (hl : Rows w base l) {d : StD} {x : StV} (h : StT l d x) : RdN w d x := by
 obtain ⟨h1, h2, h3, h4, h5, h6, h7, h8⟩ := h
 have hr : Kd.R kn 49 w base (fun _ => True) x.val.v d.val := hl.holds _ h7
 obtain ⟨e1, e2, e3⟩ := Kd.Qdc hr
 exact ⟨h1, h2, h3, h4, h5, h6, e1, h8, e3, Qjs hr⟩
theorem rdV_of (hl : Rows w base l) {d : VeD} {x : VeV} (h : VeT l d x) : RdV w d x := by
 obtain ⟨h1, ⟨xs, h2, h3⟩, h4⟩ := h
 have hr : Kd.R kst 62 w base (fun _ => True) x.steps.v xs := hl.holds _ h2
 obtain ⟨e1, e2, e3⟩ := Kd.Qdc hr
 exact ⟨h1, by rw [h3.len]; exact e1, h4, ⟨xs, e3, h3.imp (fun _ _ h => rdN_of hl h)⟩, by rw [h3.len]; exact Qjs hr⟩
theorem rdE_of (hl : Rows w base l) {d : EvD} {x : EvV} (h : EvT l d x) : RdE w d x := by
 obtain ⟨h1, ⟨xs, h2, h3⟩, h4⟩ := h
 have hr : Kd.R kve 60 w base (fun _ => True) x.vers.v xs := hl.holds _ h2
 obtain ⟨e1, e2, e3⟩ := Kd.Qdc hr
 exact ⟨h1, by rw [h3.len]; exact e1, h4, ⟨xs, e3, h3.imp (fun _ _ h => rdV_of hl h)⟩, by rw [h3.len]; exact Qjs hr⟩
def RdS (w : World) (v : Sl) (ds : List EvD) : Prop := v.n = ds.length ∧ (∃ xs, Kd.C kev w v.A xs.length xs ∧ All2 (RdE w) ds xs) ∧ ds.length ≤ 9223372036854775807
theorem rdS_of (hl : Rows w base l) {v : Sl} {ds : List EvD} {xs : List EvV} (h : Row.e v xs ∈ l) (ha : All2 (EvT l) ds xs) : RdS w v ds := by
 have hr : Kd.R kev 57 w base (fun _ => True) v.v xs := hl.holds _ h
 obtain ⟨e1, e2, e3⟩ := Kd.Qdc hr
 exact ⟨by rw [ha.len]; exact e1, ⟨xs, e3, ha.imp (fun _ _ h => rdE_of hl h)⟩, by rw [ha.len]; exact Qjs hr⟩
theorem RdS.below {w' : World} {v : Sl} {ds : List EvD} (h : RdS w v ds) (hb : Below w.heap.size w w') : RdS w' v ds := by
 obtain ⟨h1, ⟨xs, h2, h3⟩, h4⟩ := h
 exact ⟨h1, ⟨xs, Kd.Qc7 h2 hb, h3.imp (fun _ _ h => h.below hb)⟩, h4⟩
theorem RdS.nil (w : World) : RdS w ⟨none, 0, 0⟩ [] := ⟨rfl, ⟨[], (Kd.Qdc (Kd.Qdq kev 0 w 0 (fun _ => True))).2.2, trivial⟩, Nat.zero_le _⟩
end
end Go.Proofs.Ytbdcndkafaajpaa.A
end
section
namespace Go.Proofs.Ytbdcndkafaajpaa.P
open Ytbdcndkafaajpaa.X Ytbdcndkafaajpaa.L Ytbdcndkafaajpaa.T
theorem Qp2 {off : Nat} {s : List UInt8} {ts : List L.Tok} (h : lx off s = .toks ts) : ∃ i, ts = i ++ [⟨0, [], 0, off + s.length, off + s.length⟩] ∧ ∀ t ∈ i.map toS, t.f0 ≠ 0 := by
 obtain ⟨i, e, hk, _⟩ := Qp0 [] _ off s ts (Nat.le_refl _) h
 refine ⟨i, e, fun t ht => ?_⟩
 obtain ⟨u, hu, rfl⟩ := List.mem_map.1 ht
 have := hk u hu
 show (u.kind : Int) ≠ 0
 omega
theorem Qqj {off : Nat} {s : List UInt8} {ts : List L.Tok} (h : lx off s = .toks ts) : Ends (ts.map toS) := by
 obtain ⟨i, rfl, hk⟩ := Qp2 h
 exact ⟨i.map toS, _, by rw [List.map_append]; rfl, rfl, hk⟩
def Sm (n : Int) (p q : Int) : Prop := q = p ∧ 0 ≤ p ∧ p ≤ n
theorem Qqs {s : List UInt8} {ts : List L.Tok} (h : lx 0 s = .toks ts) : TL (Sm s.length) (ts.map toS) (ts.map toS) := by
 refine ⟨Qqj h, Pw.refl fun t ht => ?_⟩
 obtain ⟨u, hu, rfl⟩ := List.mem_map.1 ht
 have := lx_at _ _ _ _ (Nat.le_refl _) h u hu
 refine ⟨rfl, rfl, rfl, rfl, ?_, ?_⟩
 ·show (0 : Int) ≤ (u.at' : Int); omega
 ·show (u.at' : Int) ≤ (s.length : Int); omega
theorem Qh1 (ts : List Tk) : ∀ p, Qes ts ≠ .bad 0 p := by
 unfold Qes
 refine Qbd (Qh9 _ _ _ (Nat.lt_succ_self _)) fun l r _ => Qbd (fun p h => ?_) fun t r _ => Qfa _ _
 unfold endW at h
 split at h
 ·cases h
 ·cases h
end Go.Proofs.Ytbdcndkafaajpaa.P
namespace Go.Proofs.Ytbdcndkafaajpaa.A
open Go Go.RowKit Ytbdcndkafaajpaa.X Ytbdcndkafaajpaa.L Ytbdcndkafaajpaa.T
open Ytbdcndkafaajpaa.P (Nd EO Res hd isT isM Qar mxl comb mk1 StD VeD EvD Out Qc6 Qdu Qdr)
theorem Qng {α : Type} {R : α → α → Prop} {f : α → α → Bool} (h : ∀ a b, R a b → f a b = true) : ∀ {l m : List α}, P.Pw R l m → allB f l m = true
 | [], [], _ => rfl
 | a :: l, b :: m, k => by unfold allB; rw [h a b k.1, Qng h k.2]; rfl
section
variable {ρ : Int → Int → Prop} {more : Int} {pl : Bool} (hρ : pl = true → ∀ p q, ρ p q → wrap64 (p + more) = q)
include hρ
theorem Qn3 (x y : Nd) (h : P.NR ρ x y) : Qf3 more pl x y = true := by
 unfold Qf3
 rw [h.f0, h.f1, h.f2, h.f3]
 simp only [beq_self_eq_true, Bool.true_and]
 cases pl with
 | false => simp
 | true => simp only [if_true]; rw [hρ rfl _ _ h.p]; exact beq_self_eq_true _
theorem Qmj {xs ys : List Nd} (h : P.Pw (P.NR ρ) xs ys) : Qgl more pl xs ys = true := Qng (Qn3 hρ) h
end
end Go.Proofs.Ytbdcndkafaajpaa.A
end
section
namespace Go.Proofs.Ytbdcndkafaajpaa.P
open Ytbdcndkafaajpaa.X Ytbdcndkafaajpaa.L Ytbdcndkafaajpaa.T
def isOp (t : Tk) : Bool := (t.f0 == 1) || (isMt 40 t || isMt 45 t)
def opn (ts : List Tk) : Nat := (ts.filter isOp).length
section
variable {α β : Type} {b b' : Prop}
def LV (b : Prop) (x y : Res α) : Prop := ∀ a r, x = .ok a r → y = .ok a r ∨ (¬ b ∧ ∃ p, y = .bad 91 p)
theorem LV.same (x : Res α) : LV b x x := fun a r h => .inl h
theorem LV.bind {x y : Res α} {g g' : α → List Tk → Res β} (h : LV b x y) (hg : ∀ a r, x = .ok a r → LV b (g a r) (g' a r)) : LV b (x.bind g) (y.bind g') := by
 intro c s hx
 obtain ⟨a, r, h1, h2⟩ := bind_ok hx
 rcases h a r h1 with e | ⟨hn, p, e⟩
 ·rw [e]; exact hg a r h1 c s h2
 ·rw [e]; exact .inr ⟨hn, p, rfl⟩
theorem LV.ite {c : Prop} [Decidable c] {x y x' y' : Res α} (h1 : c → LV b x y) (h2 : ¬ c → LV b x' y') : LV b (if c then x else x') (if c then y else y') := by
 by_cases hc : c
 ·rw [if_pos hc, if_pos hc]; exact h1 hc
 ·rw [if_neg hc, if_neg hc]; exact h2 hc
theorem LV.lev {lev : Nat} {p : Int} {x y : Res α} (hb : b → lev + 1 < 100) (h : LV b x y) : LV b (if 100 ≤ lev then .bad 91 p else x) (if 100 ≤ lev + 1 then .bad 91 p else y) := by
 intro a r hx
 by_cases hl : 100 ≤ lev
 ·rw [if_pos hl] at hx; cases hx
 ·rw [if_neg hl] at hx
  by_cases hl2 : 100 ≤ lev + 1
  ·rw [if_pos hl2]; exact .inr ⟨fun k => by have := hb k; omega, p, rfl⟩
  ·rw [if_neg hl2]; exact h a r hx
theorem LV.bad (e p : Int) (y : Res α) : LV b (.bad e p) y := fun a r h => by cases h
end
end Go.Proofs.Ytbdcndkafaajpaa.P
end
section
namespace Go.Proofs.Ytbdcndkafaajpaa.A
open Go.RowKit Ytbdcndkafaajpaa.X YtbdcndkafaajpaaW.PrintWords YtbdcndkafaajpaaW.PrintLast YtbdcndkafaajpaaW.PrintMore
open Ytbdcndkafaajpaa.P (Nd EO Res hd isT isM Qar mxl comb mk1 StD VeD EvD Out Qc6 Qdu Qdr)
theorem Qob {w : World} {x : VeV} {cs : List Value} (h : kve.K w x cs) : cs = veCs x := by
 obtain ⟨_, _, rfl, rfl, ⟨_, _, rfl, rfl, rfl⟩⟩ := h
 exact rfl
theorem Qod {w : World} {x : EvV} {cs : List Value} (h : kev.K w x cs) : cs = evCs x := by
 obtain ⟨_, _, rfl, rfl, ⟨_, _, rfl, rfl, rfl⟩⟩ := h
 exact rfl
def zV : VeV := ⟨0, ⟨none, 0, 0⟩, 0⟩
def zVD : VeD := ⟨0, [], 0⟩
def zE : EvV := ⟨⟨#[]⟩, ⟨none, 0, 0⟩, 0⟩
def zED : EvD := ⟨⟨#[]⟩, [], 0⟩
theorem at_V {w : World} {A : Option Addr} {n : Nat} {xs : List VeV} {ds : List VeD} (h : Kd.C kve w A n xs) (hr : All2 (RdV w) ds xs) (i : Nat) (h1 : i < n) (h2 : i < ds.length) : ∃ ad va vc, A = some ad ∧ (∀ w' : World, Below w.heap.size w w' → w'.cell? (ad.add (i * 3)) = some (.int .u64 (ds.getD i zVD).num) ∧ w'.cell? ⟨(ad.add (i * 3)).block, (ad.add (i * 3)).off + 1, none⟩ = some (.slice va (ds.getD i zVD).steps.length vc) ∧ w'.cell? ⟨(ad.add (i * 3)).block, (ad.add (i * 3)).off + 2, none⟩ = some (.int .i64 (ds.getD i zVD).pl)) ∧ (∃ xs, Kd.C kst w va xs.length xs ∧ All2 (RdN w) (ds.getD i zVD).steps xs) ∧ (ds.getD i zVD).steps.length ≤ 9223372036854775807 := by
 have hR := All2.get zVD zV i hr h2
 have hA : ∃ ad, A = some ad := by
  obtain ⟨ad, c, e, _⟩ := Kd.Qjv h zV (i : Int) (by omega) (by omega)
  exact ⟨ad, e⟩
 obtain ⟨ad, e⟩ := hA
 refine ⟨ad, (xs.getD i zV).steps.A, (xs.getD i zV).steps.c, e, fun w' hb => ?_, hR.v, hR.mx⟩
 obtain ⟨ad', c, e', _, hK, hc0⟩ := Kd.Qjv (Kd.Qc7 h hb) zV (i : Int) (by omega) (by omega)
 rw [e] at e'
 injection e' with e'
 subst e'
 rw [Int.toNat_natCast] at hK hc0
 have hc : ∀ j u, c[j]? = some u → w'.cell? (ad.add (i * 3 + j)) = some u := hc0
 obtain rfl := Qob hK
 obtain ⟨q0, q1, q2, _, _⟩ := hR
 rw [← q0, ← q1, ← q2]
 exact ⟨hc 0 _ rfl, by rw [← Qb7 _ _ 1 (by omega)]; exact hc 1 _ rfl, by rw [← Qb7 _ _ 2 (by omega)]; exact hc 2 _ rfl⟩
theorem at_E {w : World} {A : Option Addr} {n : Nat} {xs : List EvV} {ds : List EvD} (h : Kd.C kev w A n xs) (hr : All2 (RdE w) ds xs) (i : Nat) (h1 : i < n) (h2 : i < ds.length) : ∃ ad va vc, A = some ad ∧ (∀ w' : World, Below w.heap.size w w' → w'.cell? (ad.add (i * 3)) = some (.string (ds.getD i zED).name) ∧ w'.cell? ⟨(ad.add (i * 3)).block, (ad.add (i * 3)).off + 1, none⟩ = some (.slice va (ds.getD i zED).vers.length vc) ∧ w'.cell? ⟨(ad.add (i * 3)).block, (ad.add (i * 3)).off + 2, none⟩ = some (.int .i64 (ds.getD i zED).pl)) ∧ (∃ xs, Kd.C kve w va xs.length xs ∧ All2 (RdV w) (ds.getD i zED).vers xs) ∧ (ds.getD i zED).vers.length ≤ 9223372036854775807 := by
 have hR := All2.get zED zE i hr h2
 have hA : ∃ ad, A = some ad := by
  obtain ⟨ad, c, e, _⟩ := Kd.Qjv h zE (i : Int) (by omega) (by omega)
  exact ⟨ad, e⟩
 obtain ⟨ad, e⟩ := hA
 refine ⟨ad, (xs.getD i zE).vers.A, (xs.getD i zE).vers.c, e, fun w' hb => ?_, hR.v, hR.mx⟩
 obtain ⟨ad', c, e', _, hK, hc0⟩ := Kd.Qjv (Kd.Qc7 h hb) zE (i : Int) (by omega) (by omega)
 rw [e] at e'
 injection e' with e'
 subst e'
 rw [Int.toNat_natCast] at hK hc0
 have hc : ∀ j u, c[j]? = some u → w'.cell? (ad.add (i * 3 + j)) = some u := hc0
 obtain rfl := Qod hK
 obtain ⟨q0, q1, q2, _, _⟩ := hR
 rw [← q0, ← q1, ← q2]
 exact ⟨hc 0 _ rfl, by rw [← Qb7 _ _ 1 (by omega)]; exact hc 1 _ rfl, by rw [← Qb7 _ _ 2 (by omega)]; exact hc 2 _ rfl⟩
open Go.RowKit Ytbdcndkafaajpaa.X Ytbdcndkafaajpaa.L Ytbdcndkafaajpaa.T YtbdcndkafaajpaaW.PrintWords YtbdcndkafaajpaaW.PrintLast YtbdcndkafaajpaaW.PrintMore
theorem Qj9 {α : Type} (f : List Tk → Res α) {s : ByteArray} {k : Nat} {ts : List Tk} (h : Qbr.f k s = some (ts, 0, 0)) : Qc6 f s = P.outO (f ts) := by
 obtain ⟨K1, h1⟩ := Ev.of (g := fun k => Qbr.f k s) (fun k => Qbr.mono s k) h
 obtain ⟨K2, h2⟩ := Qk7 s
 have e := (h1 (max K1 K2) (by omega)).symm.trans (h2 (max K1 K2) (by omega))
 injection e with e
 unfold Qc6
 cases hx : L.Lex s.data.toList with
 | toks l =>
  rw [hx] at e
  have : ts = l.map toS := by
   have := congrArg Prod.fst e
   simpa [outL] using this
  rw [this]
 | bad a er =>
  rw [hx] at e
  have h0 : (0 : Int) = (er : Int) := by
   have := congrArg (fun x => x.2.2) e
   simpa [outL] using this
  exfalso
  rcases Qhj hx with ⟨_, _, h⟩ | ⟨_, _, _, h⟩ <;> omega
def aw1 : ByteArray := ⟨#[101, 118, 101, 110, 116, 32, 97, 123, 118, 101, 114, 115, 105, 111, 110, 32, 49, 123, 97, 100, 100, 32, 120, 58, 117, 105, 110, 116, 59, 125, 125]⟩
def aw2 : ByteArray := ⟨#[49, 45, 50]⟩
def aw3 : ByteArray := ⟨#[40, 49]⟩
theorem Qqq : Qdr aw2 = .ok [⟨1, 0, 1, ⟨#[]⟩, 0⟩, ⟨1, 0, 2, ⟨#[]⟩, 2⟩, ⟨7, 0, 0, ⟨#[]⟩, 1⟩] :=
 (Qj9 P.Qeb (s := aw2) (k := 40) (ts := [⟨2, ⟨#[]⟩, 1, 0, 1⟩, ⟨4, ⟨#[45]⟩, 0, 1, 2⟩, ⟨2, ⟨#[]⟩, 2, 2, 3⟩, ⟨0, ⟨#[]⟩, 0, 3, 3⟩]) (by kernel_rfl)).trans (by kernel_rfl)
theorem Qqp : Qdr aw3 = .bad 90 2 :=
 (Qj9 P.Qeb (s := aw3) (k := 40) (ts := [⟨4, ⟨#[40]⟩, 0, 0, 1⟩, ⟨2, ⟨#[]⟩, 1, 1, 2⟩, ⟨0, ⟨#[]⟩, 0, 2, 2⟩]) (by kernel_rfl)).trans (by kernel_rfl)
def aw1S : StD := ⟨1, ⟨#[120]⟩, ⟨#[]⟩, ⟨#[]⟩, ⟨#[]⟩, ⟨#[117, 105, 110, 116]⟩, [], 18⟩
theorem Qqr : Qdu aw1 = .ok [⟨⟨#[97]⟩, [⟨1, [aw1S], 8⟩], 0⟩] :=
 (Qj9 P.Qes (s := aw1) (k := 60) (ts := [⟨1, ⟨#[101, 118, 101, 110, 116]⟩, 0, 0, 5⟩, ⟨1, ⟨#[97]⟩, 0, 6, 7⟩, ⟨4, ⟨#[123]⟩, 0, 7, 8⟩, ⟨1, ⟨#[118, 101, 114, 115, 105, 111, 110]⟩, 0, 8, 15⟩, ⟨2, ⟨#[]⟩, 1, 16, 17⟩, ⟨4, ⟨#[123]⟩, 0, 17, 18⟩, ⟨1, ⟨#[97, 100, 100]⟩, 0, 18, 21⟩, ⟨1, ⟨#[120]⟩, 0, 22, 23⟩, ⟨4, ⟨#[58]⟩, 0, 23, 24⟩, ⟨1, ⟨#[117, 105, 110, 116]⟩, 0, 24, 28⟩, ⟨4, ⟨#[59]⟩, 0, 28, 29⟩, ⟨4, ⟨#[125]⟩, 0, 29, 30⟩, ⟨4, ⟨#[125]⟩, 0, 30, 31⟩, ⟨0, ⟨#[]⟩, 0, 31, 31⟩]) (by kernel_rfl)).trans (by kernel_rfl)
theorem Qqz {w : World} {b : Nat} {x y z : Nd} (h : w.heap[b]? = some (.cells (Qex x ++ Qex y ++ Qex z).toArray 49 (0, 0))) : Kd.C kn w (some ⟨b, 0, none⟩) 3 [x, y, z] := by
 refine ⟨rfl, by omega, fun _ => ⟨_, rfl, fun j p hj => ⟨Qex p, rfl, kn_mk w p, fun i u hu => ?_⟩⟩⟩
 have hi : i < 5 := by
  have := (List.getElem?_eq_some_iff.1 hu).1
  exact this
 have hc : w.cell? ((⟨b, 0, none⟩ : Addr).add (j * 5 + i)) = ((Qex x ++ Qex y ++ Qex z).toArray)[j * 5 + i]? := by
  have := Qaf h (j * 5 + i)
  rw [← this]
  by_cases h0 : j * 5 + i = 0
  ·rw [h0]; rfl
  ·simp only [Addr.add]
   rw [if_neg h0]; simp
 show w.cell? ((⟨b, 0, none⟩ : Addr).add (j * 5 + i)) = some u
 rw [hc, List.getElem?_toArray]
 match j, hj with
 | 0, hj =>
  obtain rfl : x = p := by simpa using hj
  rw [List.append_assoc, List.getElem?_append_left (by show 0 * 5 + i < 5; omega), Nat.zero_mul, Nat.zero_add]; exact hu
 | 1, hj =>
  obtain rfl : y = p := by simpa using hj
  rw [List.append_assoc, List.getElem?_append_right (by show 5 ≤ 1 * 5 + i; omega), List.getElem?_append_left (by show 1 * 5 + i - 5 < 5; omega), show 1 * 5 + i - (Qex x).length = i by show 1 * 5 + i - 5 = i; omega]; exact hu
 | 2, hj =>
  obtain rfl : z = p := by simpa using hj
  rw [List.getElem?_append_right (by show 10 ≤ 2 * 5 + i; omega), show 2 * 5 + i - (Qex x ++ Qex y).length = i by show 2 * 5 + i - 10 = i; omega]; exact hu
 | j + 3, hj => simp at hj
theorem Qkq (w : World) : Calls Try.prog 10 #[] w fun e w' => e = .returned (.bool true) ∧ Below w.heap.size w w' := by
 go_enter Try.func10, Try.ntmps10
 go_wp2_with fail
 refine (Qjp w aw1).mono ?_
 rintro e w1 ⟨⟨Av, nv, cv⟩, l, at_, er, rfl, hrows, hb, hs⟩
 rw [Qqr] at hs
 obtain ⟨rfl, rfl, xs, hm, ha⟩ := hs
 obtain ⟨hn, ⟨ys, hC, hA⟩, _⟩ := rdS_of hrows hm ha
 obtain rfl : nv = 1 := hn
 have hl1 : ys.length = 1 := hA.len.symm
 obtain ⟨W1, hW1⟩ : ∃ W1, W1 = w1.alloc (.cells #[.slice Av 1 cv] 27) := ⟨_, rfl⟩
 have hB1 : Below w1.heap.size w1 W1 := by rw [hW1]; exact Qab (Below.refl _ _) _
 have hX1 : W1.heap[w1.heap.size]? = some (.cells #[.slice Av 1 cv] 27 (0, 0)) := by rw [hW1]; exact Qa1 _ _
 obtain ⟨ad, va, vc, rfl, K, ⟨vs, hCv, hAv⟩, _⟩ := at_E hC hA 0 (by omega) (by decide)
 obtain ⟨bd, ua, uc, rfl, Q, ⟨ss, hCs, hAs⟩, _⟩ := at_V hCv hAv 0 (by rw [← hAv.len]; decide) (by decide)
 obtain ⟨sd, na, nc, rfl, S, hCn, _⟩ := at_S hCs hAs 0 (by rw [← hAs.len]; decide) (by decide)
 obtain ⟨x0, x1, x2⟩ := K W1 hB1
 obtain ⟨y0, y1, y2⟩ := Q W1 hB1
 obtain ⟨z0, z1, z2, z3, z4, z5, z6, z7⟩ := S W1 hB1
 have p0 : W1.cell? ⟨w1.heap.size, 0, none⟩ = some (.slice (some ad) 1 cv) := (Qaf hX1 0).trans rfl
 have ea : ad.add (0 * 3) = ad := rfl
 have eb : bd.add (0 * 3) = bd := rfl
 have es : sd.add (0 * 8) = sd := rfl
 rw [ea] at x0 x1 x2
 rw [eb] at y0 y1 y2
 rw [es] at z0 z1 z2 z3 z4 z5 z6 z7
 simp only [List.getD_cons_zero, aw1S, List.length_cons, List.length_nil, Nat.zero_add] at x0 x1 x2 y0 y1 y2 z0 z1 z2 z3 z4 z5 z6 z7
 have HB := J0.m hb
 have HW1 := J0.m hW1
 rw [hW1] at x0 x1 x2 y0 y1 y2 z0 z1 z2 z3 z4 z5 z6 z7 p0
 clear hrows hb hm ha hC hA hCv hAv hCs hAs hCn K Q S hX1 hB1 hl1 hW1 ea eb es
 go_wp2_with fail
 obtain ⟨W2, hW2⟩ : ∃ W2, W2 = W1.alloc (.cells #[.int .i64 1, .string ⟨#[120]⟩, .string ⟨#[]⟩, .string ⟨#[]⟩, .string ⟨#[]⟩, .string ⟨#[117, 105, 110, 116]⟩, .slice na 0 nc, .int .i64 18] 62) := ⟨_, rfl⟩
 have hBW2 : Below w.heap.size w W2 := by
  have h1 : Below w1.heap.size w1 W1 := by rw [HW1.o]; exact Qab (Below.refl _ _) _
  have h2 : Below W1.heap.size W1 W2 := by rw [hW2]; exact Qab (Below.refl _ _) _
  exact Qap (Qap HB.o h1) h2
 have hX2 : W2.heap[w1.heap.size + 1]? = some (.cells #[.int .i64 1, .string ⟨#[120]⟩, .string ⟨#[]⟩, .string ⟨#[]⟩, .string ⟨#[]⟩, .string ⟨#[117, 105, 110, 116]⟩, .slice na 0 nc, .int .i64 18] 62 (0, 0)) := by
  have hs : W1.heap.size = w1.heap.size + 1 := by rw [HW1.o]; exact Array.size_push _
  rw [hW2, ← hs]; exact Qa1 _ _
 have HB2 := J0.m hBW2
 have HX2 := J0.m hX2
 rw [← HW1.o, ← hW2]
 clear hBW2 hX2 hW2 x0 x1 x2 y0 y1 y2 z0 z1 z2 z3 z4 z5 z6 z7 p0
 refine (Qfz W2 aw2).mono ?_
 rintro e w3 ⟨⟨A3, n3, c3⟩, l3, at3, er3, rfl, hr3, hb3, hs3⟩
 rw [Qqq] at hs3
 obtain ⟨rfl, rfl, hm3⟩ := hs3
 have hR3 : Kd.R kn 49 w3 W2.heap.size (fun _ => True) (.slice A3 n3 c3) [⟨1, 0, 1, ⟨#[]⟩, 0⟩, ⟨1, 0, 2, ⟨#[]⟩, 2⟩, ⟨7, 0, 0, ⟨#[]⟩, 1⟩] := hr3.holds _ hm3
 obtain ⟨e3, _, hC3⟩ := Kd.Qdc hR3
 obtain rfl : n3 = 3 := e3
 have HB3 := J0.m (Qap HB2.o hb3)
 have HX3 := J0.m (Qai HX2.o hb3)
 have HC3 := J0.m hC3
 clear hr3 hb3 hm3 hR3 hC3
 go_wp2_with fail
 refine (Qfz w3 aw3).mono ?_
 rintro e w4 ⟨⟨A4, n4, c4⟩, l4, at4, er4, rfl, hr4, hb4, hs4⟩
 rw [Qqp] at hs4
 obtain ⟨rfl, rfl, hv4, _⟩ := hs4
 have HB4 := J0.m (Qap HB3.o hb4)
 have HX4 := J0.m (Qai HX3.o hb4)
 have HC4 := J0.m (Kd.Qc7 HC3.o hb4)
 clear hr4 hb4 hv4
 obtain ⟨z0, z1, z2, z3, z4, z5, z6, z7⟩ := stBox HX4.o
 go_wp2_with fail
 obtain ⟨W5, hW5⟩ : ∃ W5, W5 = w4.alloc (.cells #[.int .i64 1, .int .i64 0, .int .u64 1, .string ⟨#[]⟩, .int .i64 0, .int .i64 1, .int .i64 0, .int .u64 2, .string ⟨#[]⟩, .int .i64 2, .int .i64 7, .int .i64 0, .int .u64 0, .string ⟨#[]⟩, .int .i64 1] 49) := ⟨_, rfl⟩
 have hB5 : Below w4.heap.size w4 W5 := by rw [hW5]; exact Qab (Below.refl _ _) _
 have hX5 : W5.heap[w4.heap.size]? = some (.cells #[.int .i64 1, .int .i64 0, .int .u64 1, .string ⟨#[]⟩, .int .i64 0, .int .i64 1, .int .i64 0, .int .u64 2, .string ⟨#[]⟩, .int .i64 2, .int .i64 7, .int .i64 0, .int .u64 0, .string ⟨#[]⟩, .int .i64 1] 49 (0, 0)) := by rw [hW5]; exact Qa1 _ _
 have hT := Qqz (x := ⟨1, 0, 1, ⟨#[]⟩, 0⟩) (y := ⟨1, 0, 2, ⟨#[]⟩, 2⟩) (z := ⟨7, 0, 0, ⟨#[]⟩, 1⟩) hX5
 have HNC := J0.m (Qha W5 A3 (some ⟨w4.heap.size, 0, none⟩) c3 3 [⟨1, 0, 1, ⟨#[]⟩, 0⟩, ⟨1, 0, 2, ⟨#[]⟩, 2⟩, ⟨7, 0, 0, ⟨#[]⟩, 1⟩] [⟨1, 0, 1, ⟨#[]⟩, 0⟩, ⟨1, 0, 2, ⟨#[]⟩, 2⟩, ⟨7, 0, 0, ⟨#[]⟩, 1⟩] 0 true (Kd.Qc7 HC4.o hB5) hT (by decide))
 have HB5 := J0.m (Qap HB4.o hB5)
 rw [← hW5]
 clear hW5 hB5 hX5 hT z0 z1 z2 z3 z4 z5 z6 z7
 refine HNC.o.mono ?_
 rintro e w6 ⟨rfl, hb6⟩
 have hnb : Qgl 0 true [⟨1, 0, 1, ⟨#[]⟩, 0⟩, ⟨1, 0, 2, ⟨#[]⟩, 2⟩, ⟨7, 0, 0, ⟨#[]⟩, 1⟩] [⟨1, 0, 1, ⟨#[]⟩, 0⟩, ⟨1, 0, 2, ⟨#[]⟩, 2⟩, ⟨7, 0, 0, ⟨#[]⟩, 1⟩] = true := by kernel_rfl
 rw [hnb]
 have HB6 := J0.m (Qap HB5.o hb6)
 clear hb6 hnb
 go_wp2
 go_ret
 exact ⟨rfl, HB6.o⟩
open Ytbdcndkafaajpaa.P (Nd EO Res hd isT isM Qar mxl comb mk1 StD VeD EvD Out Qc6 Qdu Qdr Qda Qeb opn isOp isMt Pw NR)
section
variable {P : Program} {ops : Array Oper} {rest : List Oper} {o : Oper} {a : Act} {Q : Exit → Act → World → Prop} {Kc : Act → World → Prop}
end
def RdL (w : World) (v : Sl) (ns : List Nd) : Prop := v.n = ns.length ∧ Kd.C kn w v.A ns.length ns ∧ ns.length ≤ 9223372036854775807
theorem RdL.below {w w' : World} {v : Sl} {ns : List Nd} (h : RdL w v ns) (hb : Below w.heap.size w w') : RdL w' v ns := ⟨h.1, Kd.Qc7 h.2.1 hb, h.2.2⟩
theorem Qox {w : World} {base : Nat} {l : List Row} {o : Out (List Nd)} {v : Sl} {at_ er : Int} (hl : Rows w base l) (h : Says o v at_ er (fun ns => Row.n v ns ∈ l)) :
  ∃ ns, RdL w v ns ∧ ((er = 0 ∧ at_ = 0 ∧ o = .ok ns) ∨ (er ≠ 0 ∧ ns = [] ∧ o = .bad er at_)) := by
 cases o with
 | ok ns =>
  obtain ⟨h1, h2, hm⟩ := h
  have hr : Kd.R kn 49 w base (fun _ => True) v.v ns := hl.holds _ hm
  obtain ⟨e1, e2, e3⟩ := Kd.Qdc hr
  exact ⟨ns, ⟨e1, e3, Qjs hr⟩, .inl ⟨h2, h1, rfl⟩⟩
 | bad e p =>
  obtain ⟨h1, h2, h3, h4⟩ := h
  subst h1 h2 h3
  exact ⟨[], ⟨rfl, (Kd.Qdc (Kd.Qdq kn 0 w 0 (fun _ => True))).2.2, Nat.zero_le _⟩, .inr ⟨h4, rfl, rfl⟩⟩
theorem Qn2 {w : World} {v u : Sl} {ds es : List Nd} (h : RdL w v ds) (k : RdL w u es) (more : Int) (pl : Bool) :
  Calls Try.prog 17 #[.slice v.A v.n v.c, .slice u.A u.n u.c, .int .i64 more, .bool pl] w fun e w' => e = .returned (.bool (Qgl more pl ds es)) ∧ Below w.heap.size w w' := by
 have := Qha w v.A u.A v.c u.c ds es more pl h.2.1 k.2.1 h.2.2
 rwa [← h.1, ← k.1] at this
theorem Qkl {w w' : World} (h : Qa9 w w') : Below w.heap.size w w' := by
 obtain ⟨m, rfl⟩ := h
 exact Qac (Below.refl _ _) m
end Go.Proofs.Ytbdcndkafaajpaa.A
end
section
namespace Go.Proofs.Ytbdcndkafaajpaa.R
open Ytbdcndkafaajpaa.L hiding Tk
open Go.RowKit Ytbdcndkafaajpaa.T Ytbdcndkafaajpaa.X Ytbdcndkafaajpaa.A YtbdcndkafaajpaaW.PrintWords YtbdcndkafaajpaaW.PrintLast YtbdcndkafaajpaaW.PrintMore
open Ytbdcndkafaajpaa.P (Nd EO Res hd isT isM Qar mxl comb mk1 StD VeD EvD Out Qc6 Qdu Qdr)
theorem Qpy (l : List ByteArray) (hl : l.length ≤ 4611686018427387904) : ∀ (d i : Nat) (n : Int), l.length - i ≤ d → i ≤ l.length → ∃ r, Qbi.l0 (d + 1) l n (i : Int) = some r := by
 intro d
 induction d with
 | zero =>
  intro i n hd hi
  unfold Qbi.l0
  rw [if_neg (by omega)]
  exact ⟨_, rfl⟩
 | succ d ih =>
  intro i n hd hi
  unfold Qbi.l0
  by_cases h : (i : Int) < (l.length : Int)
  ·rw [if_pos h]
   by_cases h2 : n ≤ 16777216
   ·rw [if_pos h2, if_pos (by omega), show wrap64 ((i : Int) + 1) = ((i + 1 : Nat) : Int) by unfold wrap64; omega]
    exact ih (i + 1) _ (by omega) (by omega)
   ·rw [if_neg h2]; exact ⟨_, rfl⟩
  ·rw [if_neg h]; exact ⟨_, rfl⟩
theorem Qlr (w : World) (A0 : Option Addr) (c0 : Nat) (l : List ByteArray) (hr : Kd.C Kd.string w A0 l.length l) (hc : l.length ≤ c0) (hl : l.length ≤ 4611686018427387904) : ∃ r, Calls Try.prog 11 #[.slice A0 l.length c0] w fun e w' => e = .returned (.bool r) ∧ Below w.heap.size w w' := by
 obtain ⟨r, h⟩ := Qpy l hl l.length 0 0 (by omega) (by omega)
 exact ⟨r, (Qbi.calls _ A0 c0 l r w hr hc h).mono fun e w' ⟨h1, h2⟩ => ⟨h1, Qkl h2⟩⟩
theorem sm_w {n : Nat} (hn : n ≤ 1048576) : ∀ p q, P.Sm n p q → wrap64 (p + 0) = q := by
 intro p q h
 obtain ⟨h1, h2, h3⟩ := h
 unfold wrap64; omega
theorem same_n {s : ByteArray} {ns : List Nd} (h : Qdr s = .ok ns) : Qgl 0 true ns ns = true := by
 unfold Qdr Qc6 at h
 cases hx : L.Lex s.data.toList with
 | bad a e => rw [hx] at h; cases h
 | toks l =>
  rw [hx] at h
  obtain ⟨h1, h2, h3⟩ := Qlh hx
  have hr := P.Qli (P.Qqs h2)
  simp only at h
  cases hy : P.Qeb (l.map toS) with
  | bad e' p' => rw [hy] at h; cases h
  | ok a r =>
   rw [hy] at h hr
   cases h
   exact Qmj (fun _ => sm_w (by omega)) hr.1
theorem agree {α : Type} {o : Out (List α)} {xs ys : List α} {B : List α → List α → Bool} {e1 a1 e2 a2 : Int} (h0 : B [] [] = true) (hB : ∀ ds, o = .ok ds → B ds ds = true) (s1 : (e1 = 0 ∧ a1 = 0 ∧ o = .ok xs) ∨ (e1 ≠ 0 ∧ xs = [] ∧ o = .bad e1 a1)) (s2 : (e2 = 0 ∧ a2 = 0 ∧ o = .ok ys) ∨ (e2 ≠ 0 ∧ ys = [] ∧ o = .bad e2 a2)) : a2 = a1 ∧ e2 = e1 ∧ B xs ys = true := by
 rcases s1 with ⟨k1, k2, k3⟩ | ⟨k1, k2, k3⟩
 ·rcases s2 with ⟨m1, m2, m3⟩ | ⟨m1, m2, m3⟩
  ·rw [k3] at m3; cases m3
   exact ⟨by rw [k2, m2], by rw [k1, m1], hB _ k3⟩
  ·rw [k3] at m3; cases m3
 ·rcases s2 with ⟨m1, m2, m3⟩ | ⟨m1, m2, m3⟩
  ·rw [k3] at m3; cases m3
  ·rw [k3] at m3; cases m3
   rw [k2, m2]
   exact ⟨rfl, rfl, h0⟩
theorem item {w : World} {A0 : Option Addr} {l : List ByteArray} (hr : Kd.C Kd.string w A0 l.length l) {i : Nat} (hi : i < l.length) : ∃ ad s, A0 = some ad ∧ ∀ W, Below w.heap.size w W → W.cell? (ad.add i) = some (.string s) := by
 obtain ⟨ad, had, hx⟩ := Kd.Qfh hr (i : Int) (by omega) (by omega)
 rw [Int.toNat_natCast] at hx
 refine ⟨ad, rdOf ByteArray.empty l (i : Int), had, fun W hW => ?_⟩
 obtain ⟨ad', had', hx'⟩ := Kd.Qfh (Kd.Qc7 hr hW) (i : Int) (by omega) (by omega)
 rw [Int.toNat_natCast] at hx'
 rw [had] at had'
 injection had' with had'
 subst had'
 exact hx'
theorem Qiy (w : World) (A0 : Option Addr) (c0 : Nat) (l : List ByteArray) (hr : Kd.C Kd.string w A0 l.length l) (hc : l.length ≤ c0) (hl : l.length ≤ 4611686018427387904) :
  Calls Try.prog 4 #[.slice A0 l.length c0] w fun e w' => e = .returned (.bool true) ∧ Below w.heap.size w w' := by
 have HR := J0.m hr
 have HC := J0.m hc
 have HL := J0.m hl
 clear hr hc hl
 go_enter Try.func4, Try.ntmps4
 go_wp2_with fail
 refine (Qkq w).mono ?_
 rintro e w1 ⟨rfl, hb1⟩
 have HB1 := J0.m hb1
 clear hb1
 obtain ⟨rb, hm⟩ := Qlr w1 A0 c0 l (Kd.Qc7 HR.o HB1.o) HC.o HL.o
 have HM := J0.m hm
 clear hm
 go_wp2_with fail
 refine HM.o.mono ?_
 rintro e w2 ⟨rfl, hb2⟩
 have HB2 := J0.m (Qap HB1.o hb2)
 clear hb2
 cases rb with
 | true =>
  go_wp2
  go_ret
  exact ⟨rfl, HB2.o⟩
 | false =>
  go_wp2_with fail
  go_loopg [3, 4, 5, 6, 7, 8, 9, 10] l.length (fun k s3 s4 s5 s6 s7 s8 s9 s10 wr => ∃ i : Nat, s3 = .bool true ∧ s4 = .int .i64 (i : Int) ∧ J0 (i + k = l.length) ∧ J0 (Below w.heap.size w wr))
  case atStart => exact ⟨0, rfl, rfl, ⟨by omega⟩, HB2⟩
  case round =>
   obtain ⟨i, rfl, rfl, hi, hb⟩ := hrel
   have HB := hb
   clear hb
   by_cases ci : i < l.length
   ·have d1 : decide ((i : Int) < (l.length : Int)) = true := decide_eq_true (by omega)
    have d2 : ((i : Int) < (l.length : Int)) := by omega
    have HNX : J0 (wrap64 ((i : Int) + 1) = ((i + 1 : Nat) : Int)) := ⟨by have := HL.o; unfold wrap64; omega⟩
    obtain ⟨ad, s, had, hx⟩ := item HR.o ci
    subst had
    have HX := J0.m hx
    clear hx
    have x1 := HX.o wr HB.o
    go_wp2_with fail
    refine (A.Qfz wr s).mono ?_
    rintro e w3 ⟨⟨Av, nv, cv⟩, l3, at3, er3, rfl, hrows, hb, hsays⟩
    obtain ⟨xs, rd3, hs3⟩ := Qox hrows hsays
    have HB3 := J0.m (Qap HB.o hb)
    have HRD3 := J0.m rd3
    have HS3 := J0.m hs3
    clear hrows hb hsays rd3 hs3 x1
    have x2 := HX.o w3 HB3.o
    go_wp2_with fail
    refine (Qi7 w3 s).mono ?_
    rintro e w4 ⟨⟨Au, nu, cu⟩, l4, at4, er4, rfl, hrows, hb, hsays⟩
    obtain ⟨ys, rd4, hs4⟩ := Qox hrows hsays
    obtain ⟨rfl, rfl, hB⟩ := agree (B := Qgl 0 true) rfl (fun ds h => same_n h) HS3.o hs4
    have HRD4 := J0.m rd4
    have HBQ := J0.m hB
    have HB4 := J0.m (Qap HB3.o hb)
    have HRDA := J0.m (HRD3.o.below hb)
    clear hrows hb hsays rd4 hs4 hB HS3
    go_wp2_with fail
    refine (Qn2 (HRDA.o) (HRD4.o) 0 true).mono ?_
    rw [HBQ.o]
    rintro e w5 ⟨rfl, hb⟩
    have HB5 := J0.m (Qap HB4.o hb)
    clear hb
    go_wp2
    go_roundg (gk - 1)
    case measure => have := hi.o; omega
    case rel => exact ⟨i + 1, rfl, by rw [HNX.o], ⟨by have := hi.o; omega⟩, HB5⟩
   ·have d1 : decide ((i : Int) < (l.length : Int)) = false := decide_eq_false (by omega)
    have d2 : ¬ ((i : Int) < (l.length : Int)) := by omega
    go_wp2
    go_ret
    exact ⟨rfl, HB.o⟩
end Go.Proofs.Ytbdcndkafaajpaa.R
end
