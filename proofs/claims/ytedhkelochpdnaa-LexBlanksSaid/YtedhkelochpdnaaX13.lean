/- The machine's side of the laws of this seat: for each Go function a Lean function of lists and numbers, and that the call answers what it answers. No condition but those in the theorems. -/
import Derived.Test.YtedhkelochpdnaaX0
import Derived.Test.YtedhkelochpdnaaX4
import Derived.Test.YtedhkelochpdnaaX5
import Derived.Test.YtedhkelochpdnaaX12
namespace Go.Proofs.Ytedhkelochpdnaa.X
open Go.RowKit Go.Proofs.YtedhkelochpdnaaW.PrintWords Go.Proofs.YtedhkelochpdnaaW.PrintLast Go.Proofs.YtedhkelochpdnaaW.PrintMore
attribute [local go_sem] max2_int min2_int max_two min_two max_three min_three max_four min_four   -- for this text's walks alone
set_option linter.unusedVariables false
set_option linter.unusedSimpArgs false

/-! ### stratumlaw08_LexBlanks: function 7 -/
mutual
def stratumlaw08_LexBlanks.j0 : Nat → ByteArray → Int → List (S32) → ByteArray → Bool → Option (Bool)
  | 0, _, _, _, _, _ => none
  | k + 1, x0, x1, x7, x10, x42 => if x42 = true then (some true) else (if x1 ≥ 0 then (stratumlaw08_LexBlanks.j1 k x0 x1 x7 x10 0 (decide (x1 < (x7.length : Int)))) else (stratumlaw08_LexBlanks.j1 k x0 x1 x7 x10 0 false))
def stratumlaw08_LexBlanks.j1 : Nat → ByteArray → Int → List (S32) → ByteArray → Int → Bool → Option (Bool)
  | 0, _, _, _, _, _, _ => none
  | k + 1, x0, x1, x7, x10, x11, x50 => if x50 = true then (if 0 ≤ x1 then (if x1 < (x7.length : Int) then (stratumlaw08_LexBlanks.j2 k x0 x7 x10 ((rd_T32 x7 x1).f4)) else (none)) else (none)) else (stratumlaw08_LexBlanks.j2 k x0 x7 x10 x11)
def stratumlaw08_LexBlanks.j2 : Nat → ByteArray → List (S32) → ByteArray → Int → Option (Bool)
  | 0, _, _, _, _ => none
  | k + 1, x0, x7, x10, x11 => if 0 ≤ x11 then (if x11 ≤ (x0.size : Int) then (if x10.size + (x0.extract 0 (x11 : Int).toNat).size ≤ 9223372036854775807 then (if (x10 ++ (x0.extract 0 (x11 : Int).toNat)).size + x10.size ≤ 9223372036854775807 then (if ((x10 ++ (x0.extract 0 (x11 : Int).toNat)) ++ x10).size + (x0.extract (x11 : Int).toNat x0.size).size ≤ 9223372036854775807 then (if (((x10 ++ (x0.extract 0 (x11 : Int).toNat)) ++ x10) ++ (x0.extract (x11 : Int).toNat x0.size)).size + 1 ≤ 9223372036854775807 then (if ((((x10 ++ (x0.extract 0 (x11 : Int).toNat)) ++ x10) ++ (x0.extract (x11 : Int).toNat x0.size)) ++ (⟨#[10]⟩ : ByteArray)).size + x10.size ≤ 9223372036854775807 then ((lex_Lex.f k (((((x10 ++ (x0.extract 0 (x11 : Int).toNat)) ++ x10) ++ (x0.extract (x11 : Int).toNat x0.size)) ++ (⟨#[10]⟩ : ByteArray)) ++ x10)).bind fun bt363 => (if ((((((x10 ++ (x0.extract 0 (x11 : Int).toNat)) ++ x10) ++ (x0.extract (x11 : Int).toNat x0.size)) ++ (⟨#[10]⟩ : ByteArray)) ++ x10).size : Int) > 1048576 then (some (bt363.2.2 == 2)) else (if bt363.2.2 = 0 then (stratumlaw08_LexBlanks.j3 k x7 bt363.1 ((bt363.1.length : Int) != (x7.length : Int))) else (stratumlaw08_LexBlanks.j3 k x7 bt363.1 true)))) else (none)) else (none)) else (none)) else (none)) else (none)) else (none)) else (none)
def stratumlaw08_LexBlanks.j3 : Nat → List (S32) → List (S32) → Bool → Option (Bool)
  | 0, _, _, _ => none
  | k + 1, x7, x13, x89 => if x89 = true then (some false) else (stratumlaw08_LexBlanks.l0 k x7 x13 0)
def stratumlaw08_LexBlanks.l0 : Nat → List (S32) → List (S32) → Int → Option (Bool)
  | 0, _, _, _ => none
  | k + 1, x7, x13, x16 => if x16 < (x13.length : Int) then (if 0 ≤ x16 then (if x16 < (x7.length : Int) then (if ((rd_T32 x13 x16).f0) = ((rd_T32 x7 x16).f0) then (if ((rd_T32 x13 x16).f1).toList = ((rd_T32 x7 x16).f1).toList then (if ((rd_T32 x13 x16).f2) = ((rd_T32 x7 x16).f2) then (if (wrap64 (((rd_T32 x13 x16).f4) - ((rd_T32 x13 x16).f3))) = (wrap64 (((rd_T32 x7 x16).f4) - ((rd_T32 x7 x16).f3))) then (stratumlaw08_LexBlanks.l0 k x7 x13 (wrap64 (x16 + 1))) else (some false)) else (some false)) else (some false)) else (some false)) else (none)) else (none)) else (some true)
end
def stratumlaw08_LexBlanks.f (k : Nat) (a0 : ByteArray) (a1 : Int) (a2 : Int) : Option (Bool) := (stratumlaw08_lives.f k).bind fun t355 => (if t355 = true then ((lex_Lex.f k a0).bind fun bt356 => ((stratumlaw08_blanks.f a2).bind fun t361 => (if bt356.2.2 = 0 then (if (wrap64 ((a0.size : Int) + (wrap64 (3 * (t361.size : Int))))) > 1048576 then (stratumlaw08_LexBlanks.j0 k a0 a1 bt356.1 t361 true) else (stratumlaw08_LexBlanks.j0 k a0 a1 bt356.1 t361 ((bt356.1.length : Int) == 0))) else (stratumlaw08_LexBlanks.j0 k a0 a1 bt356.1 t361 true)))) else (some false))
theorem stratumlaw08_LexBlanks.mono_l : ∀ k, (∀ y0 y1 y2 y3 y4, LeO (stratumlaw08_LexBlanks.j0 k y0 y1 y2 y3 y4) (stratumlaw08_LexBlanks.j0 (k + 1) y0 y1 y2 y3 y4)) ∧ (∀ y0 y1 y2 y3 y4 y5, LeO (stratumlaw08_LexBlanks.j1 k y0 y1 y2 y3 y4 y5) (stratumlaw08_LexBlanks.j1 (k + 1) y0 y1 y2 y3 y4 y5)) ∧ (∀ y0 y1 y2 y3, LeO (stratumlaw08_LexBlanks.j2 k y0 y1 y2 y3) (stratumlaw08_LexBlanks.j2 (k + 1) y0 y1 y2 y3)) ∧ (∀ y0 y1 y2, LeO (stratumlaw08_LexBlanks.j3 k y0 y1 y2) (stratumlaw08_LexBlanks.j3 (k + 1) y0 y1 y2)) ∧ (∀ y0 y1 y2, LeO (stratumlaw08_LexBlanks.l0 k y0 y1 y2) (stratumlaw08_LexBlanks.l0 (k + 1) y0 y1 y2))
  | 0 => ⟨fun _ _ _ _ _ r h => by simp [stratumlaw08_LexBlanks.j0] at h, fun _ _ _ _ _ _ r h => by simp [stratumlaw08_LexBlanks.j1] at h, fun _ _ _ _ r h => by simp [stratumlaw08_LexBlanks.j2] at h, fun _ _ _ r h => by simp [stratumlaw08_LexBlanks.j3] at h, fun _ _ _ r h => by simp [stratumlaw08_LexBlanks.l0] at h⟩
  | k + 1 => by
    obtain ⟨ih0, ih1, ih2, ih3, ih4⟩ := stratumlaw08_LexBlanks.mono_l k
    refine ⟨?_, ?_, ?_, ?_, ?_⟩
    · intro y0 y1 y2 y3 y4
      unfold stratumlaw08_LexBlanks.j0
      repeat' first
      | (with_reducible exact ih0 _ _ _ _ _)
      | (with_reducible exact ih1 _ _ _ _ _ _)
      | (with_reducible exact ih2 _ _ _ _)
      | (with_reducible exact ih3 _ _ _)
      | (with_reducible exact ih4 _ _ _)
      | (with_reducible exact lex_Lex.mono _ _)
      | (with_reducible exact stratumlaw08_lives.mono _)
      | (with_reducible exact LeO.refl _)
      | (with_reducible exact LeO.none _)
      | (with_reducible refine LeO.ite ?_ ?_)
      | (with_reducible refine LeO.bind ?_ (fun _ => ?_))
      | exact ih0 _ _ _ _ _
      | exact ih1 _ _ _ _ _ _
      | exact ih2 _ _ _ _
      | exact ih3 _ _ _
      | exact ih4 _ _ _
      | exact lex_Lex.mono _ _
      | exact stratumlaw08_lives.mono _
      | exact LeO.none _
      | refine LeO.ite ?_ ?_
      | refine LeO.bind ?_ (fun _ => ?_)
    · intro y0 y1 y2 y3 y4 y5
      unfold stratumlaw08_LexBlanks.j1
      repeat' first
      | (with_reducible exact ih0 _ _ _ _ _)
      | (with_reducible exact ih1 _ _ _ _ _ _)
      | (with_reducible exact ih2 _ _ _ _)
      | (with_reducible exact ih3 _ _ _)
      | (with_reducible exact ih4 _ _ _)
      | (with_reducible exact lex_Lex.mono _ _)
      | (with_reducible exact stratumlaw08_lives.mono _)
      | (with_reducible exact LeO.refl _)
      | (with_reducible exact LeO.none _)
      | (with_reducible refine LeO.ite ?_ ?_)
      | (with_reducible refine LeO.bind ?_ (fun _ => ?_))
      | exact ih0 _ _ _ _ _
      | exact ih1 _ _ _ _ _ _
      | exact ih2 _ _ _ _
      | exact ih3 _ _ _
      | exact ih4 _ _ _
      | exact lex_Lex.mono _ _
      | exact stratumlaw08_lives.mono _
      | exact LeO.none _
      | refine LeO.ite ?_ ?_
      | refine LeO.bind ?_ (fun _ => ?_)
    · intro y0 y1 y2 y3
      unfold stratumlaw08_LexBlanks.j2
      repeat' first
      | (with_reducible exact ih0 _ _ _ _ _)
      | (with_reducible exact ih1 _ _ _ _ _ _)
      | (with_reducible exact ih2 _ _ _ _)
      | (with_reducible exact ih3 _ _ _)
      | (with_reducible exact ih4 _ _ _)
      | (with_reducible exact lex_Lex.mono _ _)
      | (with_reducible exact stratumlaw08_lives.mono _)
      | (with_reducible exact LeO.refl _)
      | (with_reducible exact LeO.none _)
      | (with_reducible refine LeO.ite ?_ ?_)
      | (with_reducible refine LeO.bind ?_ (fun _ => ?_))
      | exact ih0 _ _ _ _ _
      | exact ih1 _ _ _ _ _ _
      | exact ih2 _ _ _ _
      | exact ih3 _ _ _
      | exact ih4 _ _ _
      | exact lex_Lex.mono _ _
      | exact stratumlaw08_lives.mono _
      | exact LeO.none _
      | refine LeO.ite ?_ ?_
      | refine LeO.bind ?_ (fun _ => ?_)
    · intro y0 y1 y2
      unfold stratumlaw08_LexBlanks.j3
      repeat' first
      | (with_reducible exact ih0 _ _ _ _ _)
      | (with_reducible exact ih1 _ _ _ _ _ _)
      | (with_reducible exact ih2 _ _ _ _)
      | (with_reducible exact ih3 _ _ _)
      | (with_reducible exact ih4 _ _ _)
      | (with_reducible exact lex_Lex.mono _ _)
      | (with_reducible exact stratumlaw08_lives.mono _)
      | (with_reducible exact LeO.refl _)
      | (with_reducible exact LeO.none _)
      | (with_reducible refine LeO.ite ?_ ?_)
      | (with_reducible refine LeO.bind ?_ (fun _ => ?_))
      | exact ih0 _ _ _ _ _
      | exact ih1 _ _ _ _ _ _
      | exact ih2 _ _ _ _
      | exact ih3 _ _ _
      | exact ih4 _ _ _
      | exact lex_Lex.mono _ _
      | exact stratumlaw08_lives.mono _
      | exact LeO.none _
      | refine LeO.ite ?_ ?_
      | refine LeO.bind ?_ (fun _ => ?_)
    · intro y0 y1 y2
      unfold stratumlaw08_LexBlanks.l0
      repeat' first
      | (with_reducible exact ih0 _ _ _ _ _)
      | (with_reducible exact ih1 _ _ _ _ _ _)
      | (with_reducible exact ih2 _ _ _ _)
      | (with_reducible exact ih3 _ _ _)
      | (with_reducible exact ih4 _ _ _)
      | (with_reducible exact lex_Lex.mono _ _)
      | (with_reducible exact stratumlaw08_lives.mono _)
      | (with_reducible exact LeO.refl _)
      | (with_reducible exact LeO.none _)
      | (with_reducible refine LeO.ite ?_ ?_)
      | (with_reducible refine LeO.bind ?_ (fun _ => ?_))
      | exact ih0 _ _ _ _ _
      | exact ih1 _ _ _ _ _ _
      | exact ih2 _ _ _ _
      | exact ih3 _ _ _
      | exact ih4 _ _ _
      | exact lex_Lex.mono _ _
      | exact stratumlaw08_lives.mono _
      | exact LeO.none _
      | refine LeO.ite ?_ ?_
      | refine LeO.bind ?_ (fun _ => ?_)
theorem stratumlaw08_LexBlanks.mono : ∀ a0 a1 a2 k, LeO (stratumlaw08_LexBlanks.f k a0 a1 a2) (stratumlaw08_LexBlanks.f (k + 1) a0 a1 a2) := by
  intro a0 a1 a2 k
  obtain ⟨ih0, ih1, ih2, ih3, ih4⟩ := stratumlaw08_LexBlanks.mono_l k
  unfold stratumlaw08_LexBlanks.f
  repeat' first
      | (with_reducible exact ih0 _ _ _ _ _)
      | (with_reducible exact ih1 _ _ _ _ _ _)
      | (with_reducible exact ih2 _ _ _ _)
      | (with_reducible exact ih3 _ _ _)
      | (with_reducible exact ih4 _ _ _)
      | (with_reducible exact lex_Lex.mono _ _)
      | (with_reducible exact stratumlaw08_lives.mono _)
      | (with_reducible exact LeO.refl _)
      | (with_reducible exact LeO.none _)
      | (with_reducible refine LeO.ite ?_ ?_)
      | (with_reducible refine LeO.bind ?_ (fun _ => ?_))
      | exact ih0 _ _ _ _ _
      | exact ih1 _ _ _ _ _ _
      | exact ih2 _ _ _ _
      | exact ih3 _ _ _
      | exact ih4 _ _ _
      | exact lex_Lex.mono _ _
      | exact stratumlaw08_lives.mono _
      | exact LeO.none _
      | refine LeO.ite ?_ ?_
      | refine LeO.bind ?_ (fun _ => ?_)
set_option maxHeartbeats 8000000 in
set_option maxRecDepth 100000 in
theorem stratumlaw08_LexBlanks.calls (k : Nat) (a0 : ByteArray) (a1 : Int) (a2 : Int) (r : Bool) (w : World) (h : stratumlaw08_LexBlanks.f k a0 a1 a2 = some r) :
    Calls Try.prog 7 #[.string a0, .int .i64 a1, .int .i64 a2] w fun e w' => e = .returned (.bool r) ∧ Below w.heap.size w w' := by
  have HB := Aside0.mk (Below.refl w.heap.size w)
  have H : ((stratumlaw08_lives.f k).bind fun t355 => (if t355 = true then ((lex_Lex.f k a0).bind fun bt356 => ((stratumlaw08_blanks.f a2).bind fun t361 => (if bt356.2.2 = 0 then (if (wrap64 ((a0.size : Int) + (wrap64 (3 * (t361.size : Int))))) > 1048576 then (stratumlaw08_LexBlanks.j0 k a0 a1 bt356.1 t361 true) else (stratumlaw08_LexBlanks.j0 k a0 a1 bt356.1 t361 ((bt356.1.length : Int) == 0))) else (stratumlaw08_LexBlanks.j0 k a0 a1 bt356.1 t361 true)))) else (some false))) = some r := h
  clear h
  replace H := Option.bind_eq_some_iff.mp H
  obtain ⟨t355, A40, H⟩ := H
  replace H : (if t355 = true then ((lex_Lex.f k a0).bind fun bt356 => ((stratumlaw08_blanks.f a2).bind fun t361 => (if bt356.2.2 = 0 then (if (wrap64 ((a0.size : Int) + (wrap64 (3 * (t361.size : Int))))) > 1048576 then (stratumlaw08_LexBlanks.j0 k a0 a1 bt356.1 t361 true) else (stratumlaw08_LexBlanks.j0 k a0 a1 bt356.1 t361 ((bt356.1.length : Int) == 0))) else (stratumlaw08_LexBlanks.j0 k a0 a1 bt356.1 t361 true)))) else (some false)) = some r := H
  have A4 := Aside0.mk A40
  clear A40
  by_cases c5 : t355 = true
  · subst c5
    have H1 : ((lex_Lex.f k a0).bind fun bt356 => ((stratumlaw08_blanks.f a2).bind fun t361 => (if bt356.2.2 = 0 then (if (wrap64 ((a0.size : Int) + (wrap64 (3 * (t361.size : Int))))) > 1048576 then (stratumlaw08_LexBlanks.j0 k a0 a1 bt356.1 t361 true) else (stratumlaw08_LexBlanks.j0 k a0 a1 bt356.1 t361 ((bt356.1.length : Int) == 0))) else (stratumlaw08_LexBlanks.j0 k a0 a1 bt356.1 t361 true)))) = some r := by rw [if_pos rfl] at H; exact H
    clear H
    have H := H1
    clear H1
    replace H := Option.bind_eq_some_iff.mp H
    obtain ⟨⟨t356, t357, t358⟩, A60, H⟩ := H
    replace H : ((stratumlaw08_blanks.f a2).bind fun t361 => (if t358 = 0 then (if (wrap64 ((a0.size : Int) + (wrap64 (3 * (t361.size : Int))))) > 1048576 then (stratumlaw08_LexBlanks.j0 k a0 a1 t356 t361 true) else (stratumlaw08_LexBlanks.j0 k a0 a1 t356 t361 ((t356.length : Int) == 0))) else (stratumlaw08_LexBlanks.j0 k a0 a1 t356 t361 true))) = some r := H
    have A6 := Aside0.mk A60
    clear A60
    replace H := Option.bind_eq_some_iff.mp H
    obtain ⟨t361, A70, H⟩ := H
    replace H : (if t358 = 0 then (if (wrap64 ((a0.size : Int) + (wrap64 (3 * (t361.size : Int))))) > 1048576 then (stratumlaw08_LexBlanks.j0 k a0 a1 t356 t361 true) else (stratumlaw08_LexBlanks.j0 k a0 a1 t356 t361 ((t356.length : Int) == 0))) else (stratumlaw08_LexBlanks.j0 k a0 a1 t356 t361 true)) = some r := H
    have A7 := Aside0.mk A70
    clear A70
    have HC8 := Aside0.mk H
    clear H
    go_enter Try.func7, Try.ntmps7
    go_upto_region 5 with (first | (go_at_call 10; (with_reducible refine (stratumlaw08_lives.calls k  true _ A4.out).mono ?_); rintro e w9 ⟨rfl, hb⟩; have n0_ := Aside0.mk (below_step (by repeat (first | (with_reducible first | exact HB.out | apply below_alloc | apply pw_below_drewN | apply below_drew1) | exact HB.out)) hb); clear HB; have HB := n0_; clear n0_; (try clear hb); (try clear hb2); (try clear hk); (try clear hi)) | (go_at_call 12; (with_reducible refine (lex_Lex.calls k a0 t356 t357 t358 _ A6.out).mono ?_); rintro e w10 ⟨v359, rfl, ho0, hb⟩; have n0_ := Aside0.mk (Kd.R_lower ho0 (below_size (by repeat (first | (with_reducible first | exact HB.out | apply below_alloc | apply pw_below_drewN | apply below_drew1) | exact HB.out)))); have n1_ := Aside0.mk (below_step (by repeat (first | (with_reducible first | exact HB.out | apply below_alloc | apply pw_below_drewN | apply below_drew1) | exact HB.out)) hb); clear HB; have HO360 := n0_; have HB := n1_; clear n0_ n1_; (try clear hb); (try clear hb2); (try clear hk); (try clear hi); (try clear ho0)) | (go_at_call 19; (with_reducible refine (stratumlaw08_blanks.calls a2 t361 _ A7.out).mono ?_); rintro e w11 ⟨rfl, hb⟩; have n0_ := Aside0.mk (Kd.R_below (by (with_reducible repeat (first | apply Kd.R_alloc | apply Kd.R_drewN | apply Kd.R_drew)); exact HO360.out) hb); have n1_ := Aside0.mk (below_step (by repeat (first | (with_reducible first | exact HB.out | apply below_alloc | apply pw_below_drewN | apply below_drew1) | exact HB.out)) hb); clear HO360; clear HB; have HO360 := n0_; have HB := n1_; clear n0_ n1_; (try clear hb); (try clear hb2); (try clear hk); (try clear hi)))
    repeat (go_quiet (first | (go_at_call 10; (with_reducible refine (stratumlaw08_lives.calls k  true _ A4.out).mono ?_); rintro e w9 ⟨rfl, hb⟩; have n0_ := Aside0.mk (below_step (by repeat (first | (with_reducible first | exact HB.out | apply below_alloc | apply pw_below_drewN | apply below_drew1) | exact HB.out)) hb); clear HB; have HB := n0_; clear n0_; (try clear hb); (try clear hb2); (try clear hk); (try clear hi)) | (go_at_call 12; (with_reducible refine (lex_Lex.calls k a0 t356 t357 t358 _ A6.out).mono ?_); rintro e w10 ⟨v359, rfl, ho0, hb⟩; have n0_ := Aside0.mk (Kd.R_lower ho0 (below_size (by repeat (first | (with_reducible first | exact HB.out | apply below_alloc | apply pw_below_drewN | apply below_drew1) | exact HB.out)))); have n1_ := Aside0.mk (below_step (by repeat (first | (with_reducible first | exact HB.out | apply below_alloc | apply pw_below_drewN | apply below_drew1) | exact HB.out)) hb); clear HB; have HO360 := n0_; have HB := n1_; clear n0_ n1_; (try clear hb); (try clear hb2); (try clear hk); (try clear hi); (try clear ho0)) | (go_at_call 19; (with_reducible refine (stratumlaw08_blanks.calls a2 t361 _ A7.out).mono ?_); rintro e w11 ⟨rfl, hb⟩; have n0_ := Aside0.mk (Kd.R_below (by (with_reducible repeat (first | apply Kd.R_alloc | apply Kd.R_drewN | apply Kd.R_drew)); exact HO360.out) hb); have n1_ := Aside0.mk (below_step (by repeat (first | (with_reducible first | exact HB.out | apply below_alloc | apply pw_below_drewN | apply below_drew1) | exact HB.out)) hb); clear HO360; clear HB; have HO360 := n0_; have HB := n1_; clear n0_ n1_; (try clear hb); (try clear hb2); (try clear hk); (try clear hi))); go_upto_region 5 with (first | (go_at_call 10; (with_reducible refine (stratumlaw08_lives.calls k  true _ A4.out).mono ?_); rintro e w9 ⟨rfl, hb⟩; have n0_ := Aside0.mk (below_step (by repeat (first | (with_reducible first | exact HB.out | apply below_alloc | apply pw_below_drewN | apply below_drew1) | exact HB.out)) hb); clear HB; have HB := n0_; clear n0_; (try clear hb); (try clear hb2); (try clear hk); (try clear hi)) | (go_at_call 12; (with_reducible refine (lex_Lex.calls k a0 t356 t357 t358 _ A6.out).mono ?_); rintro e w10 ⟨v359, rfl, ho0, hb⟩; have n0_ := Aside0.mk (Kd.R_lower ho0 (below_size (by repeat (first | (with_reducible first | exact HB.out | apply below_alloc | apply pw_below_drewN | apply below_drew1) | exact HB.out)))); have n1_ := Aside0.mk (below_step (by repeat (first | (with_reducible first | exact HB.out | apply below_alloc | apply pw_below_drewN | apply below_drew1) | exact HB.out)) hb); clear HB; have HO360 := n0_; have HB := n1_; clear n0_ n1_; (try clear hb); (try clear hb2); (try clear hk); (try clear hi); (try clear ho0)) | (go_at_call 19; (with_reducible refine (stratumlaw08_blanks.calls a2 t361 _ A7.out).mono ?_); rintro e w11 ⟨rfl, hb⟩; have n0_ := Aside0.mk (Kd.R_below (by (with_reducible repeat (first | apply Kd.R_alloc | apply Kd.R_drewN | apply Kd.R_drew)); exact HO360.out) hb); have n1_ := Aside0.mk (below_step (by repeat (first | (with_reducible first | exact HB.out | apply below_alloc | apply pw_below_drewN | apply below_drew1) | exact HB.out)) hb); clear HO360; clear HB; have HO360 := n0_; have HB := n1_; clear n0_ n1_; (try clear hb); (try clear hb2); (try clear hk); (try clear hi))))
    (try simp only [Act.put, List.setIfInBounds_toArray, List.set_cons_zero, List.set_cons_succ])
    go_cut [42] (fun v42 wc => ∃ (kq : Nat) (x42_7 : Bool), v42 = .bool x42_7 ∧ Aside0 (stratumlaw08_LexBlanks.j0 kq a0 a1 t356 t361 x42_7 = some r) ∧ Aside0 (kq ≤ k) ∧ Aside0 (Kd.R k32 32 wc w.heap.size (fun _ => True) v359 t356) ∧ Aside0 (Below w.heap.size w wc))
    case first =>
      have H := HC8.out
      clear HC8
      by_cases c12 : t358 = 0
      · rw [if_pos c12] at H
        have c12b0 : (t358 == 0) = true := beq_iff_eq.mpr c12
        have c12b1 : (t358 != 0) = false := bne_eq_false_iff_eq.mpr c12
        clear c12
        (first | rw [c12b0] | (simp only [i64_w, i32_w]; rw [c12b0]) | skip)
        by_cases c13 : (wrap64 ((a0.size : Int) + (wrap64 (3 * (t361.size : Int))))) > 1048576
        · rw [if_pos c13] at H
          have c13b0 : decide (1048576 < (wrap64 ((a0.size : Int) + (wrap64 (3 * (t361.size : Int)))))) = true := decide_eq_true c13
          clear c13
          have H' := Aside0.mk H
          clear H
          go_wp2
          repeat (go_quiet (fail); try go_wp2)
          go_meet
          case rel => exact ⟨_, (true), (by first | rfl | (simp; done) | (simp [*]; done)), H', ⟨by first | omega | exact Nat.le_refl _⟩, ⟨by (with_reducible repeat (first | apply Kd.R_alloc | apply Kd.R_drewN | apply Kd.R_drew)); exact HO360.out⟩, ⟨by repeat (first | (with_reducible first | exact HB.out | apply below_alloc | apply pw_below_drewN | apply below_drew1) | exact HB.out)⟩⟩
        · rw [if_neg c13] at H
          have c13b0 : decide (1048576 < (wrap64 ((a0.size : Int) + (wrap64 (3 * (t361.size : Int)))))) = false := decide_eq_false c13
          clear c13
          have H' := Aside0.mk H
          clear H
          obtain ⟨Ao14, co14, eo14⟩ := Kd.R_slice HO360.out
          subst eo14
          go_wp2
          repeat (go_quiet (fail); try go_wp2)
          go_meet
          case rel => exact ⟨_, (((t356.length : Int) == 0)), (by first | rfl | (simp; done) | (simp [*]; done)), H', ⟨by first | omega | exact Nat.le_refl _⟩, ⟨by (with_reducible repeat (first | apply Kd.R_alloc | apply Kd.R_drewN | apply Kd.R_drew)); exact HO360.out⟩, ⟨by repeat (first | (with_reducible first | exact HB.out | apply below_alloc | apply pw_below_drewN | apply below_drew1) | exact HB.out)⟩⟩
      · rw [if_neg c12] at H
        have c12b0 : (t358 == 0) = false := beq_eq_false_iff_ne.mpr c12
        have c12b1 : (t358 != 0) = true := bne_iff_ne.mpr c12
        (first | rw [c12b0] | (simp only [i64_w, i32_w]; rw [c12b0]) | skip)
        have H' := Aside0.mk H
        clear H
        go_wp2
        repeat (go_quiet (fail); try go_wp2)
        go_meet
        case rel => exact ⟨_, (true), (by first | rfl | (simp; done) | (simp [*]; done)), H', ⟨by first | omega | exact Nat.le_refl _⟩, ⟨by (with_reducible repeat (first | apply Kd.R_alloc | apply Kd.R_drewN | apply Kd.R_drew)); exact HO360.out⟩, ⟨by repeat (first | (with_reducible first | exact HB.out | apply below_alloc | apply pw_below_drewN | apply below_drew1) | exact HB.out)⟩⟩
    case rest =>
      clear HC8
      try clear c1
      try clear p2
      try clear c5
      try clear p6
      try clear c7
      try clear c12
      try clear c12b0
      try clear c12b1
      try clear c13
      try clear c13b0
      obtain ⟨kq, x42_7, rfl, HA, HJ7, HO_7, HB⟩ := hcut
      cases kq with
      | zero => exact absurd HA.out (by simp [stratumlaw08_LexBlanks.j0])
      | succ kj7 =>
        have H := HA.out
        clear HA
        simp only [stratumlaw08_LexBlanks.j0] at H
        by_cases c15 : x42_7 = true
        · subst c15
          have H1 : (some true) = some r := by rw [if_pos rfl] at H; exact H
          clear H
          have H := H1
          clear H1
          obtain rfl := Option.some.inj H
          go_wp2
          repeat (go_quiet (fail); try go_wp2)
          go_ret
          exact ⟨by first | rfl | (simp [errW_none, errW_some] <;> rfl) | (simp [*, errW_none, errW_some] <;> rfl), by repeat (first | (with_reducible first | exact HB.out | apply below_alloc | apply pw_below_drewN | apply below_drew1) | exact HB.out)⟩
        · replace c15 := Bool.eq_false_iff.mpr c15
          subst c15
          have H1 : (if a1 ≥ 0 then (stratumlaw08_LexBlanks.j1 kj7 a0 a1 t356 t361 0 (decide (a1 < (t356.length : Int)))) else (stratumlaw08_LexBlanks.j1 kj7 a0 a1 t356 t361 0 false)) = some r := by rw [if_neg (show ¬ (false = true) by decide)] at H; exact H
          clear H
          have H := H1
          clear H1
          have HC16 := Aside0.mk H
          clear H
          go_upto_region 8 with (fail)
          repeat (go_quiet (fail); go_upto_region 8 with (fail))
          go_cut [50] (fun v50 wc => ∃ (kq : Nat) (x50_15 : Bool), v50 = .bool x50_15 ∧ Aside0 (stratumlaw08_LexBlanks.j1 kq a0 a1 t356 t361 0 x50_15 = some r) ∧ Aside0 (kq ≤ kj7) ∧ Aside0 (Kd.R k32 32 wc w.heap.size (fun _ => True) v359 t356) ∧ Aside0 (Below w.heap.size w wc))
          case first =>
            have H := HC16.out
            clear HC16
            by_cases c17 : a1 ≥ 0
            · rw [if_pos c17] at H
              have c17b0 : decide (0 ≤ a1) = true := decide_eq_true c17
              clear c17
              (first | rw [c17b0] | (simp only [i64_w, i32_w]; rw [c17b0]) | skip)
              have H' := Aside0.mk H
              clear H
              obtain ⟨Ao18, co18, eo18⟩ := Kd.R_slice HO_7.out
              subst eo18
              go_wp2
              repeat (go_quiet (fail); try go_wp2)
              go_meet
              case rel => exact ⟨_, (decide (a1 < (t356.length : Int))), (by first | rfl | (simp; done) | (simp [*]; done)), H', ⟨by have := HJ7.out; first | omega | exact Nat.le_refl _⟩, ⟨by (with_reducible repeat (first | apply Kd.R_alloc | apply Kd.R_drewN | apply Kd.R_drew)); exact HO_7.out⟩, ⟨by repeat (first | (with_reducible first | exact HB.out | apply below_alloc | apply pw_below_drewN | apply below_drew1) | exact HB.out)⟩⟩
            · rw [if_neg c17] at H
              have c17b0 : decide (0 ≤ a1) = false := decide_eq_false c17
              clear c17
              (first | rw [c17b0] | (simp only [i64_w, i32_w]; rw [c17b0]) | skip)
              have H' := Aside0.mk H
              clear H
              go_wp2
              repeat (go_quiet (fail); try go_wp2)
              go_meet
              case rel => exact ⟨_, (false), (by first | rfl | (simp; done) | (simp [*]; done)), H', ⟨by have := HJ7.out; first | omega | exact Nat.le_refl _⟩, ⟨by (with_reducible repeat (first | apply Kd.R_alloc | apply Kd.R_drewN | apply Kd.R_drew)); exact HO_7.out⟩, ⟨by repeat (first | (with_reducible first | exact HB.out | apply below_alloc | apply pw_below_drewN | apply below_drew1) | exact HB.out)⟩⟩
          case rest =>
            clear HC16
            try clear c1
            try clear p2
            try clear c5
            try clear p6
            try clear c7
            try clear c12
            try clear c12b0
            try clear c12b1
            try clear c13
            try clear c13b0
            try clear c15
            try clear c17
            try clear c17b0
            try clear p2
            try clear p6
            obtain ⟨kq, x50_15, rfl, HA, HJ15, HO_7, HB⟩ := hcut
            cases kq with
            | zero => exact absurd HA.out (by simp [stratumlaw08_LexBlanks.j1])
            | succ kj15 =>
              have H := HA.out
              clear HA
              simp only [stratumlaw08_LexBlanks.j1] at H
              have HC19 := Aside0.mk H
              clear H
              go_upto_if 50 with (fail)
              repeat (go_quiet (fail); go_upto_if 50 with (fail))
              go_cut [11] (fun v11 wc => ∃ (kq : Nat) (x11_18 : Int), v11 = .int .i64 x11_18 ∧ Aside0 (stratumlaw08_LexBlanks.j2 kq a0 t356 t361 x11_18 = some r) ∧ Aside0 (kq ≤ kj15) ∧ Aside0 (Kd.R k32 32 wc w.heap.size (fun _ => True) v359 t356) ∧ Aside0 (Below w.heap.size w wc))
              case first =>
                have H := HC19.out
                clear HC19
                by_cases c20 : x50_15 = true
                · subst c20
                  have H1 : (if 0 ≤ a1 then (if a1 < (t356.length : Int) then (stratumlaw08_LexBlanks.j2 kj15 a0 t356 t361 ((rd_T32 t356 a1).f4)) else (none)) else (none)) = some r := by rw [if_pos rfl] at H; exact H
                  clear H
                  have H := H1
                  clear H1
                  by_cases c21 : 0 ≤ a1
                  · rw [if_pos c21] at H
                    have c21b0 : decide (0 ≤ a1) = true := decide_eq_true c21
                    clear c21
                    (first | rw [c21b0] | (simp only [i64_w, i32_w]; rw [c21b0]) | skip)
                    by_cases c22 : a1 < (t356.length : Int)
                    · rw [if_pos c22] at H
                      have c22b0 : decide (a1 < (t356.length : Int)) = true := decide_eq_true c22
                      clear c22
                      have H' := Aside0.mk H
                      clear H
                      obtain ⟨Ao23, co23, eo23⟩ := Kd.R_slice HO_7.out
                      subst eo23
                      have p362 : 0 ≤ (a1 : Int) := of_decide_eq_true (by first | (with_reducible assumption) | assumption)
                      have q362 : a1 < (t356.length : Int) := of_decide_eq_true (by first | (with_reducible assumption) | assumption)
                      obtain ⟨ad362, e362, hx362_0, hx362_1, hx362_2, hx362_3, hx362_4⟩ := at_T32 (Kd.R_reads' HO_7.out).2.2 a1 p362 q362
                      cases e362
                      replace p362 := eq_true p362
                      replace q362 := eq_true q362
                      go_wp2
                      repeat (go_quiet (fail); try go_wp2)
                      go_meet
                      case rel => exact ⟨_, ((rd_T32 t356 a1).f4), (by first | rfl | (simp; done) | (simp [*]; done)), H', ⟨by have := HJ7.out; have := HJ15.out; first | omega | exact Nat.le_refl _⟩, ⟨by (with_reducible repeat (first | apply Kd.R_alloc | apply Kd.R_drewN | apply Kd.R_drew)); exact HO_7.out⟩, ⟨by repeat (first | (with_reducible first | exact HB.out | apply below_alloc | apply pw_below_drewN | apply below_drew1) | exact HB.out)⟩⟩
                    · rw [if_neg c22] at H
                      exact absurd H (by simp)
                  · rw [if_neg c21] at H
                    exact absurd H (by simp)
                · replace c20 := Bool.eq_false_iff.mpr c20
                  subst c20
                  have H1 : (stratumlaw08_LexBlanks.j2 kj15 a0 t356 t361 0) = some r := by rw [if_neg (show ¬ (false = true) by decide)] at H; exact H
                  clear H
                  have H := H1
                  clear H1
                  have H' := Aside0.mk H
                  clear H
                  go_wp2
                  repeat (go_quiet (fail); try go_wp2)
                  go_meet
                  case rel => exact ⟨_, (0), (by first | rfl | (simp; done) | (simp [*]; done)), H', ⟨by have := HJ7.out; have := HJ15.out; first | omega | exact Nat.le_refl _⟩, ⟨by (with_reducible repeat (first | apply Kd.R_alloc | apply Kd.R_drewN | apply Kd.R_drew)); exact HO_7.out⟩, ⟨by repeat (first | (with_reducible first | exact HB.out | apply below_alloc | apply pw_below_drewN | apply below_drew1) | exact HB.out)⟩⟩
              case rest =>
                clear HC19
                try clear c1
                try clear c2
                try clear p2
                try clear p3
                try clear q3
                try clear hx3
                try clear c5
                try clear p6
                try clear c7
                try clear c12
                try clear c12b0
                try clear c12b1
                try clear c13
                try clear c13b0
                try clear c15
                try clear c17
                try clear c17b0
                try clear c20
                try clear c21
                try clear c21b0
                try clear c22
                try clear c22b0
                try clear hx362_0
                try clear hx362_1
                try clear hx362_2
                try clear hx362_3
                try clear hx362_4
                try clear p2
                try clear p362
                try clear p6
                try clear q362
                obtain ⟨kq, x11_18, rfl, HA, HJ18, HO_7, HB⟩ := hcut
                cases kq with
                | zero => exact absurd HA.out (by simp [stratumlaw08_LexBlanks.j2])
                | succ kj18 =>
                  have H := HA.out
                  clear HA
                  simp only [stratumlaw08_LexBlanks.j2] at H
                  by_cases c24 : 0 ≤ x11_18
                  · rw [if_pos c24] at H
                    have c24b0 := eq_true c24
                    have c24b1 : decide (0 ≤ x11_18) = true := decide_eq_true c24
                    clear c24
                    by_cases c25 : x11_18 ≤ (a0.size : Int)
                    · rw [if_pos c25] at H
                      have c25b0 := eq_true c25
                      have c25b1 : decide (x11_18 ≤ (a0.size : Int)) = true := decide_eq_true c25
                      clear c25
                      by_cases c26 : t361.size + (a0.extract 0 (x11_18 : Int).toNat).size ≤ 9223372036854775807
                      · rw [if_pos c26] at H
                        have c26b0 := eq_true c26
                        have c26b1 : decide (t361.size + (a0.extract 0 (x11_18 : Int).toNat).size ≤ 9223372036854775807) = true := decide_eq_true c26
                        try have c26b2 : (9223372036854775807 < t361.size + (a0.extract 0 (x11_18 : Int).toNat).size) = False := eq_false (Nat.not_lt.2 c26)
                        have c26z : (9223372036854775807 < t361.size + x11_18.toNat) = False := eq_false (by have hq_ := c26; simp only [ByteArray.size_append, ByteArray.size_extract] at hq_; have hk_ : x11_18 ≤ (a0.size : Int) := of_decide_eq_true c25b1; have hk2_ : (⟨#[10]⟩ : ByteArray).size = 1 := rfl; omega)
                        by_cases c27 : (t361 ++ (a0.extract 0 (x11_18 : Int).toNat)).size + t361.size ≤ 9223372036854775807
                        · rw [if_pos c27] at H
                          have c27b0 := eq_true c27
                          have c27b1 : decide ((t361 ++ (a0.extract 0 (x11_18 : Int).toNat)).size + t361.size ≤ 9223372036854775807) = true := decide_eq_true c27
                          try have c27b2 : (9223372036854775807 < (t361 ++ (a0.extract 0 (x11_18 : Int).toNat)).size + t361.size) = False := eq_false (Nat.not_lt.2 c27)
                          have c27z : (9223372036854775807 < t361.size + x11_18.toNat + t361.size) = False := eq_false (by have hq_ := c27; simp only [ByteArray.size_append, ByteArray.size_extract] at hq_; have hk_ : x11_18 ≤ (a0.size : Int) := of_decide_eq_true c25b1; have hk2_ : (⟨#[10]⟩ : ByteArray).size = 1 := rfl; omega)
                          have c28b0 := eq_true (of_decide_eq_true (by first | (with_reducible assumption) | assumption) : 0 ≤ x11_18)
                          have c29b0 := eq_true (of_decide_eq_true (by first | (with_reducible assumption) | assumption) : x11_18 ≤ (a0.size : Int))
                          by_cases c30 : ((t361 ++ (a0.extract 0 (x11_18 : Int).toNat)) ++ t361).size + (a0.extract (x11_18 : Int).toNat a0.size).size ≤ 9223372036854775807
                          · rw [if_pos c30] at H
                            have c30b0 := eq_true c30
                            have c30b1 : decide (((t361 ++ (a0.extract 0 (x11_18 : Int).toNat)) ++ t361).size + (a0.extract (x11_18 : Int).toNat a0.size).size ≤ 9223372036854775807) = true := decide_eq_true c30
                            try have c30b2 : (9223372036854775807 < ((t361 ++ (a0.extract 0 (x11_18 : Int).toNat)) ++ t361).size + (a0.extract (x11_18 : Int).toNat a0.size).size) = False := eq_false (Nat.not_lt.2 c30)
                            have c30z : (9223372036854775807 < t361.size + x11_18.toNat + t361.size + (a0.size - x11_18.toNat)) = False := eq_false (by have hq_ := c30; simp only [ByteArray.size_append, ByteArray.size_extract] at hq_; have hk_ : x11_18 ≤ (a0.size : Int) := of_decide_eq_true c25b1; have hk2_ : (⟨#[10]⟩ : ByteArray).size = 1 := rfl; omega)
                            by_cases c31 : (((t361 ++ (a0.extract 0 (x11_18 : Int).toNat)) ++ t361) ++ (a0.extract (x11_18 : Int).toNat a0.size)).size + 1 ≤ 9223372036854775807
                            · rw [if_pos c31] at H
                              have c31b0 := eq_true c31
                              have c31b1 : decide ((((t361 ++ (a0.extract 0 (x11_18 : Int).toNat)) ++ t361) ++ (a0.extract (x11_18 : Int).toNat a0.size)).size + 1 ≤ 9223372036854775807) = true := decide_eq_true c31
                              try have c31b2 : (9223372036854775807 < (((t361 ++ (a0.extract 0 (x11_18 : Int).toNat)) ++ t361) ++ (a0.extract (x11_18 : Int).toNat a0.size)).size + 1) = False := eq_false (Nat.not_lt.2 c31)
                              have c31z : (9223372036854775807 < t361.size + x11_18.toNat + t361.size + (a0.size - x11_18.toNat) + 1) = False := eq_false (by have hq_ := c31; simp only [ByteArray.size_append, ByteArray.size_extract] at hq_; have hk_ : x11_18 ≤ (a0.size : Int) := of_decide_eq_true c25b1; have hk2_ : (⟨#[10]⟩ : ByteArray).size = 1 := rfl; omega)
                              by_cases c32 : ((((t361 ++ (a0.extract 0 (x11_18 : Int).toNat)) ++ t361) ++ (a0.extract (x11_18 : Int).toNat a0.size)) ++ (⟨#[10]⟩ : ByteArray)).size + t361.size ≤ 9223372036854775807
                              · rw [if_pos c32] at H
                                have c32b0 := eq_true c32
                                have c32b1 : decide (((((t361 ++ (a0.extract 0 (x11_18 : Int).toNat)) ++ t361) ++ (a0.extract (x11_18 : Int).toNat a0.size)) ++ (⟨#[10]⟩ : ByteArray)).size + t361.size ≤ 9223372036854775807) = true := decide_eq_true c32
                                try have c32b2 : (9223372036854775807 < ((((t361 ++ (a0.extract 0 (x11_18 : Int).toNat)) ++ t361) ++ (a0.extract (x11_18 : Int).toNat a0.size)) ++ (⟨#[10]⟩ : ByteArray)).size + t361.size) = False := eq_false (Nat.not_lt.2 c32)
                                have c32z : (9223372036854775807 < t361.size + x11_18.toNat + t361.size + (a0.size - x11_18.toNat) + 1 + t361.size) = False := eq_false (by have hq_ := c32; simp only [ByteArray.size_append, ByteArray.size_extract] at hq_; have hk_ : x11_18 ≤ (a0.size : Int) := of_decide_eq_true c25b1; have hk2_ : (⟨#[10]⟩ : ByteArray).size = 1 := rfl; omega)
                                replace H := Option.bind_eq_some_iff.mp H
                                obtain ⟨⟨t363, t364, t365⟩, A330, H⟩ := H
                                replace H : (if ((((((t361 ++ (a0.extract 0 (x11_18 : Int).toNat)) ++ t361) ++ (a0.extract (x11_18 : Int).toNat a0.size)) ++ (⟨#[10]⟩ : ByteArray)) ++ t361).size : Int) > 1048576 then (some (t365 == 2)) else (if t365 = 0 then (stratumlaw08_LexBlanks.j3 kj18 t356 t363 ((t363.length : Int) != (t356.length : Int))) else (stratumlaw08_LexBlanks.j3 kj18 t356 t363 true))) = some r := H
                                have A33 := Aside0.mk A330
                                clear A330
                                have H0_ := Aside0.mk H
                                clear H
                                go_upto_region 11 with (fail)
                                (go_quiet (fail))
                                go_upto_region 11 with (fail)
                                have H := H0_.out
                                clear H0_ c26 c26b0 c26b1 c26b2 c26z c27 c27b0 c27b1 c27b2 c27z c30 c30b0 c30b1 c30b2 c30z c31 c31b0 c31b1 c31b2 c31z c32 c32b0 c32b1 c32b2 c32z
                                generalize hmore_ : (((((t361 ++ (a0.extract 0 (x11_18 : Int).toNat)) ++ t361) ++ (a0.extract (x11_18 : Int).toNat a0.size)) ++ (⟨#[10]⟩ : ByteArray)) ++ t361) = more_ at *
                                clear hmore_
                                by_cases c34 : (more_.size : Int) > 1048576
                                · rw [if_pos c34] at H
                                  have c34b0 : decide (1048576 < (more_.size : Int)) = true := decide_eq_true c34
                                  have c34b1 : decide (1048576 < more_.size) = true := decide_eq_true (by omega)
                                  clear c34
                                  obtain rfl := Option.some.inj H
                                  go_wp2_with (first | (go_at_call 12; (with_reducible refine (lex_Lex.calls kj18 more_ t363 t364 t365 _ A33.out).mono ?_); rintro e w35 ⟨v366, rfl, ho0, hb⟩; have n0_ := Aside0.mk (Kd.R_elder' (by (with_reducible repeat (first | apply Kd.R_alloc | apply Kd.R_drewN | apply Kd.R_drew)); exact HO_7.out) (Kd.R_base ho0) hb); have n1_ := Aside0.mk (Kd.R_lower (Kd.R_new' ho0 (Kd.R_lt (by (with_reducible repeat (first | apply Kd.R_alloc | apply Kd.R_drewN | apply Kd.R_drew)); exact HO_7.out))) (below_size (by repeat (first | (with_reducible first | exact HB.out | apply below_alloc | apply pw_below_drewN | apply below_drew1) | exact HB.out)))); have n2_ := Aside0.mk (below_step (by repeat (first | (with_reducible first | exact HB.out | apply below_alloc | apply pw_below_drewN | apply below_drew1) | exact HB.out)) hb); clear HO_7; clear HB; have HO_7 := n0_; have HO367 := n1_; have HB := n2_; clear n0_ n1_ n2_; (try clear hb); (try clear hb2); (try clear hk); (try clear hi); (try clear ho0)))
                                  repeat (go_quiet (first | (go_at_call 12; (with_reducible refine (lex_Lex.calls kj18 more_ t363 t364 t365 _ A33.out).mono ?_); rintro e w35 ⟨v366, rfl, ho0, hb⟩; have n0_ := Aside0.mk (Kd.R_elder' (by (with_reducible repeat (first | apply Kd.R_alloc | apply Kd.R_drewN | apply Kd.R_drew)); exact HO_7.out) (Kd.R_base ho0) hb); have n1_ := Aside0.mk (Kd.R_lower (Kd.R_new' ho0 (Kd.R_lt (by (with_reducible repeat (first | apply Kd.R_alloc | apply Kd.R_drewN | apply Kd.R_drew)); exact HO_7.out))) (below_size (by repeat (first | (with_reducible first | exact HB.out | apply below_alloc | apply pw_below_drewN | apply below_drew1) | exact HB.out)))); have n2_ := Aside0.mk (below_step (by repeat (first | (with_reducible first | exact HB.out | apply below_alloc | apply pw_below_drewN | apply below_drew1) | exact HB.out)) hb); clear HO_7; clear HB; have HO_7 := n0_; have HO367 := n1_; have HB := n2_; clear n0_ n1_ n2_; (try clear hb); (try clear hb2); (try clear hk); (try clear hi); (try clear ho0))); try go_wp2_with (first | (go_at_call 12; (with_reducible refine (lex_Lex.calls kj18 more_ t363 t364 t365 _ A33.out).mono ?_); rintro e w35 ⟨v366, rfl, ho0, hb⟩; have n0_ := Aside0.mk (Kd.R_elder' (by (with_reducible repeat (first | apply Kd.R_alloc | apply Kd.R_drewN | apply Kd.R_drew)); exact HO_7.out) (Kd.R_base ho0) hb); have n1_ := Aside0.mk (Kd.R_lower (Kd.R_new' ho0 (Kd.R_lt (by (with_reducible repeat (first | apply Kd.R_alloc | apply Kd.R_drewN | apply Kd.R_drew)); exact HO_7.out))) (below_size (by repeat (first | (with_reducible first | exact HB.out | apply below_alloc | apply pw_below_drewN | apply below_drew1) | exact HB.out)))); have n2_ := Aside0.mk (below_step (by repeat (first | (with_reducible first | exact HB.out | apply below_alloc | apply pw_below_drewN | apply below_drew1) | exact HB.out)) hb); clear HO_7; clear HB; have HO_7 := n0_; have HO367 := n1_; have HB := n2_; clear n0_ n1_ n2_; (try clear hb); (try clear hb2); (try clear hk); (try clear hi); (try clear ho0))))
                                  go_ret
                                  exact ⟨by first | rfl | (simp [errW_none, errW_some] <;> rfl) | (simp [*, errW_none, errW_some] <;> rfl), by repeat (first | (with_reducible first | exact HB.out | apply below_alloc | apply pw_below_drewN | apply below_drew1) | exact HB.out)⟩
                                · rw [if_neg c34] at H
                                  have c34b0 : decide (1048576 < (more_.size : Int)) = false := decide_eq_false c34
                                  have c34b1 : decide (1048576 < more_.size) = false := decide_eq_false (by omega)
                                  clear c34
                                  have HC36 := Aside0.mk H
                                  clear H
                                  go_upto_region 14 with (first | (go_at_call 12; (with_reducible refine (lex_Lex.calls kj18 more_ t363 t364 t365 _ A33.out).mono ?_); rintro e w37 ⟨v366, rfl, ho0, hb⟩; have n0_ := Aside0.mk (Kd.R_elder' (by (with_reducible repeat (first | apply Kd.R_alloc | apply Kd.R_drewN | apply Kd.R_drew)); exact HO_7.out) (Kd.R_base ho0) hb); have n1_ := Aside0.mk (Kd.R_lower (Kd.R_new' ho0 (Kd.R_lt (by (with_reducible repeat (first | apply Kd.R_alloc | apply Kd.R_drewN | apply Kd.R_drew)); exact HO_7.out))) (below_size (by repeat (first | (with_reducible first | exact HB.out | apply below_alloc | apply pw_below_drewN | apply below_drew1) | exact HB.out)))); have n2_ := Aside0.mk (below_step (by repeat (first | (with_reducible first | exact HB.out | apply below_alloc | apply pw_below_drewN | apply below_drew1) | exact HB.out)) hb); clear HO_7; clear HB; have HO_7 := n0_; have HO367 := n1_; have HB := n2_; clear n0_ n1_ n2_; (try clear hb); (try clear hb2); (try clear hk); (try clear hi); (try clear ho0)))
                                  repeat (go_quiet (first | (go_at_call 12; (with_reducible refine (lex_Lex.calls kj18 more_ t363 t364 t365 _ A33.out).mono ?_); rintro e w37 ⟨v366, rfl, ho0, hb⟩; have n0_ := Aside0.mk (Kd.R_elder' (by (with_reducible repeat (first | apply Kd.R_alloc | apply Kd.R_drewN | apply Kd.R_drew)); exact HO_7.out) (Kd.R_base ho0) hb); have n1_ := Aside0.mk (Kd.R_lower (Kd.R_new' ho0 (Kd.R_lt (by (with_reducible repeat (first | apply Kd.R_alloc | apply Kd.R_drewN | apply Kd.R_drew)); exact HO_7.out))) (below_size (by repeat (first | (with_reducible first | exact HB.out | apply below_alloc | apply pw_below_drewN | apply below_drew1) | exact HB.out)))); have n2_ := Aside0.mk (below_step (by repeat (first | (with_reducible first | exact HB.out | apply below_alloc | apply pw_below_drewN | apply below_drew1) | exact HB.out)) hb); clear HO_7; clear HB; have HO_7 := n0_; have HO367 := n1_; have HB := n2_; clear n0_ n1_ n2_; (try clear hb); (try clear hb2); (try clear hk); (try clear hi); (try clear ho0))); go_upto_region 14 with (first | (go_at_call 12; (with_reducible refine (lex_Lex.calls kj18 more_ t363 t364 t365 _ A33.out).mono ?_); rintro e w37 ⟨v366, rfl, ho0, hb⟩; have n0_ := Aside0.mk (Kd.R_elder' (by (with_reducible repeat (first | apply Kd.R_alloc | apply Kd.R_drewN | apply Kd.R_drew)); exact HO_7.out) (Kd.R_base ho0) hb); have n1_ := Aside0.mk (Kd.R_lower (Kd.R_new' ho0 (Kd.R_lt (by (with_reducible repeat (first | apply Kd.R_alloc | apply Kd.R_drewN | apply Kd.R_drew)); exact HO_7.out))) (below_size (by repeat (first | (with_reducible first | exact HB.out | apply below_alloc | apply pw_below_drewN | apply below_drew1) | exact HB.out)))); have n2_ := Aside0.mk (below_step (by repeat (first | (with_reducible first | exact HB.out | apply below_alloc | apply pw_below_drewN | apply below_drew1) | exact HB.out)) hb); clear HO_7; clear HB; have HO_7 := n0_; have HO367 := n1_; have HB := n2_; clear n0_ n1_ n2_; (try clear hb); (try clear hb2); (try clear hk); (try clear hi); (try clear ho0))))
                                  (try simp only [Act.put, List.setIfInBounds_toArray, List.set_cons_zero, List.set_cons_succ])
                                  go_cut [89] (fun v89 wc => ∃ (kq : Nat) (x89_35 : Bool), v89 = .bool x89_35 ∧ Aside0 (stratumlaw08_LexBlanks.j3 kq t356 t363 x89_35 = some r) ∧ Aside0 (kq ≤ kj18) ∧ Aside0 (Kd.R k32 32 wc w.heap.size (fun k_ => some k_ ≠ (v366 : Value).ownBlock) v359 t356) ∧ Aside0 (Kd.R k32 32 wc w.heap.size (fun k_ => some k_ ≠ (v359 : Value).ownBlock) v366 t363) ∧ Aside0 (Below w.heap.size w wc))
                                  case first =>
                                    have H := HC36.out
                                    clear HC36
                                    by_cases c38 : t365 = 0
                                    · rw [if_pos c38] at H
                                      have c38b0 : (t365 == 0) = true := beq_iff_eq.mpr c38
                                      have c38b1 : (t365 != 0) = false := bne_eq_false_iff_eq.mpr c38
                                      clear c38
                                      (first | rw [c38b0] | (simp only [i64_w, i32_w]; rw [c38b0]) | skip)
                                      have H' := Aside0.mk H
                                      clear H
                                      obtain ⟨Ao39, co39, eo39⟩ := Kd.R_slice HO367.out
                                      subst eo39
                                      obtain ⟨Ao40, co40, eo40⟩ := Kd.R_slice HO_7.out
                                      subst eo40
                                      go_wp2
                                      repeat (go_quiet (fail); try go_wp2)
                                      go_meet
                                      case rel => exact ⟨_, (((t363.length : Int) != (t356.length : Int))), (by first | rfl | (simp; done) | (simp [*]; done)), H', ⟨by have := HJ7.out; have := HJ15.out; have := HJ18.out; first | omega | exact Nat.le_refl _⟩, ⟨by (with_reducible repeat (first | apply Kd.R_alloc | apply Kd.R_drewN | apply Kd.R_drew)); exact Kd.R_mono HO_7.out (fun _ hk => hk.2)⟩, ⟨by (with_reducible repeat (first | apply Kd.R_alloc | apply Kd.R_drewN | apply Kd.R_drew)); exact Kd.R_mono HO367.out (fun _ hk => hk.2)⟩, ⟨by repeat (first | (with_reducible first | exact HB.out | apply below_alloc | apply pw_below_drewN | apply below_drew1) | exact HB.out)⟩⟩
                                    · rw [if_neg c38] at H
                                      have c38b0 : (t365 == 0) = false := beq_eq_false_iff_ne.mpr c38
                                      have c38b1 : (t365 != 0) = true := bne_iff_ne.mpr c38
                                      (first | rw [c38b0] | (simp only [i64_w, i32_w]; rw [c38b0]) | skip)
                                      have H' := Aside0.mk H
                                      clear H
                                      go_wp2
                                      repeat (go_quiet (fail); try go_wp2)
                                      go_meet
                                      case rel => exact ⟨_, (true), (by first | rfl | (simp; done) | (simp [*]; done)), H', ⟨by have := HJ7.out; have := HJ15.out; have := HJ18.out; first | omega | exact Nat.le_refl _⟩, ⟨by (with_reducible repeat (first | apply Kd.R_alloc | apply Kd.R_drewN | apply Kd.R_drew)); exact Kd.R_mono HO_7.out (fun _ hk => hk.2)⟩, ⟨by (with_reducible repeat (first | apply Kd.R_alloc | apply Kd.R_drewN | apply Kd.R_drew)); exact Kd.R_mono HO367.out (fun _ hk => hk.2)⟩, ⟨by repeat (first | (with_reducible first | exact HB.out | apply below_alloc | apply pw_below_drewN | apply below_drew1) | exact HB.out)⟩⟩
                                  case rest =>
                                    clear HC36
                                    try clear c1
                                    try clear c2
                                    try clear p2
                                    try clear c3
                                    try clear p3
                                    try clear q3
                                    try clear hx3
                                    try clear c5
                                    try clear p6
                                    try clear c7
                                    try clear c12
                                    try clear c12b0
                                    try clear c12b1
                                    try clear c13
                                    try clear c13b0
                                    try clear c15
                                    try clear c17
                                    try clear c17b0
                                    try clear c20
                                    try clear c21
                                    try clear c21b0
                                    try clear c22
                                    try clear c22b0
                                    try clear c24
                                    try clear c24b0
                                    try clear c24b1
                                    try clear c25
                                    try clear c25b0
                                    try clear c25b1
                                    try clear c26
                                    try clear c26b0
                                    try clear c26b1
                                    try clear c26b2
                                    try clear c27
                                    try clear c27b0
                                    try clear c27b1
                                    try clear c27b2
                                    try clear c28
                                    try clear c28b0
                                    try clear c29
                                    try clear c29b0
                                    try clear c30
                                    try clear c30b0
                                    try clear c30b1
                                    try clear c30b2
                                    try clear c31
                                    try clear c31b0
                                    try clear c31b1
                                    try clear c31b2
                                    try clear c32
                                    try clear c32b0
                                    try clear c32b1
                                    try clear c32b2
                                    try clear c34
                                    try clear c34b0
                                    try clear c34b1
                                    try clear p36
                                    try clear q36
                                    try clear hx36
                                    try clear c38
                                    try clear c38b0
                                    try clear c38b1
                                    try clear hx362_0
                                    try clear hx362_1
                                    try clear hx362_2
                                    try clear hx362_3
                                    try clear hx362_4
                                    try clear p2
                                    try clear p3
                                    try clear p362
                                    try clear p6
                                    try clear q3
                                    try clear q362
                                    obtain ⟨kq, x89_35, rfl, HA, HJ35, HO_7, HO_13, HB⟩ := hcut
                                    cases kq with
                                    | zero => exact absurd HA.out (by simp [stratumlaw08_LexBlanks.j3])
                                    | succ kj35 =>
                                      have H := HA.out
                                      clear HA
                                      simp only [stratumlaw08_LexBlanks.j3] at H
                                      by_cases c41 : x89_35 = true
                                      · subst c41
                                        have H1 : (some false) = some r := by rw [if_pos rfl] at H; exact H
                                        clear H
                                        have H := H1
                                        clear H1
                                        obtain rfl := Option.some.inj H
                                        go_wp2
                                        repeat (go_quiet (fail); try go_wp2)
                                        go_ret
                                        exact ⟨by first | rfl | (simp [errW_none, errW_some] <;> rfl) | (simp [*, errW_none, errW_some] <;> rfl), by repeat (first | (with_reducible first | exact HB.out | apply below_alloc | apply pw_below_drewN | apply below_drew1) | exact HB.out)⟩
                                      · replace c41 := Bool.eq_false_iff.mpr c41
                                        subst c41
                                        have H1 : (stratumlaw08_LexBlanks.l0 kj35 t356 t363 0) = some r := by rw [if_neg (show ¬ (false = true) by decide)] at H; exact H
                                        clear H
                                        have H := H1
                                        clear H1
                                        have H' := Aside0.mk H
                                        clear H
                                        go_wp2
                                        repeat (go_quiet (fail); try go_wp2)
                                        go_loopg [16] kj35 (fun kq v16 w' => ∃ (x16_5 : Int), v16 = .int .i64 x16_5 ∧ Aside0 (stratumlaw08_LexBlanks.l0 kq t356 t363 x16_5 = some r) ∧ Aside0 (kq ≤ kj35) ∧ Aside0 (Kd.R k32 32 w' w.heap.size (fun k_ => some k_ ≠ (v366 : Value).ownBlock) v359 t356) ∧ Aside0 (Kd.R k32 32 w' w.heap.size (fun k_ => some k_ ≠ (v359 : Value).ownBlock) v366 t363) ∧ Aside0 (Below w.heap.size w w'))
                                        case atStart => exact ⟨(0), (by first | rfl | (simp; done) | (simp [*]; done)), H', ⟨Nat.le_refl _⟩, ⟨by (with_reducible repeat (first | apply Kd.R_alloc | apply Kd.R_drewN | apply Kd.R_drew)); exact HO_7.out⟩, ⟨by (with_reducible repeat (first | apply Kd.R_alloc | apply Kd.R_drewN | apply Kd.R_drew)); exact HO_13.out⟩, ⟨by repeat (first | (with_reducible first | exact HB.out | apply below_alloc | apply pw_below_drewN | apply below_drew1) | exact HB.out)⟩⟩
                                        case round =>
                                          clear H'
                                          try clear c1
                                          try clear c2
                                          try clear p2
                                          try clear c3
                                          try clear p3
                                          try clear q3
                                          try clear hx3
                                          try clear c4
                                          try clear c5
                                          try clear p6
                                          try clear c7
                                          try clear c12
                                          try clear c12b0
                                          try clear c12b1
                                          try clear c13
                                          try clear c13b0
                                          try clear c15
                                          try clear c17
                                          try clear c17b0
                                          try clear c20
                                          try clear c21
                                          try clear c21b0
                                          try clear c22
                                          try clear c22b0
                                          try clear c24
                                          try clear c24b0
                                          try clear c24b1
                                          try clear c25
                                          try clear c25b0
                                          try clear c25b1
                                          try clear c26
                                          try clear c26b0
                                          try clear c26b1
                                          try clear c26b2
                                          try clear c27
                                          try clear c27b0
                                          try clear c27b1
                                          try clear c27b2
                                          try clear c28
                                          try clear c28b0
                                          try clear c29
                                          try clear c29b0
                                          try clear c30
                                          try clear c30b0
                                          try clear c30b1
                                          try clear c30b2
                                          try clear c31
                                          try clear c31b0
                                          try clear c31b1
                                          try clear c31b2
                                          try clear c32
                                          try clear c32b0
                                          try clear c32b1
                                          try clear c32b2
                                          try clear c34
                                          try clear c34b0
                                          try clear c34b1
                                          try clear p36
                                          try clear q36
                                          try clear hx36
                                          try clear c38
                                          try clear c38b0
                                          try clear c38b1
                                          try clear c41
                                          try clear hx362_0
                                          try clear hx362_1
                                          try clear hx362_2
                                          try clear hx362_3
                                          try clear hx362_4
                                          try clear p2
                                          try clear p3
                                          try clear p36
                                          try clear p362
                                          try clear p6
                                          try clear q3
                                          try clear q36
                                          try clear q362
                                          obtain ⟨x16_5, rfl, HA, HK5, HO_7, HO_13, HB⟩ := hrel
                                          cases gk with
                                          | zero => exact absurd HA.out (by simp [stratumlaw08_LexBlanks.l0])
                                          | succ k5 =>
                                            have H := HA.out
                                            clear HA
                                            simp only [stratumlaw08_LexBlanks.l0] at H
                                            by_cases c42 : x16_5 < (t363.length : Int)
                                            · rw [if_pos c42] at H
                                              have c42b0 : decide (x16_5 < (t363.length : Int)) = true := decide_eq_true c42
                                              clear c42
                                              by_cases c43 : 0 ≤ x16_5
                                              · rw [if_pos c43] at H
                                                have c43b0 : decide (0 ≤ x16_5) = true := decide_eq_true c43
                                                clear c43
                                                by_cases c44 : x16_5 < (t356.length : Int)
                                                · rw [if_pos c44] at H
                                                  have c44b0 : decide (x16_5 < (t356.length : Int)) = true := decide_eq_true c44
                                                  clear c44
                                                  by_cases c45 : ((rd_T32 t363 x16_5).f0) = ((rd_T32 t356 x16_5).f0)
                                                  · rw [if_pos c45] at H
                                                    have c45b0 : (((rd_T32 t363 x16_5).f0) == ((rd_T32 t356 x16_5).f0)) = true := beq_iff_eq.mpr c45
                                                    have c45b1 : (((rd_T32 t363 x16_5).f0) != ((rd_T32 t356 x16_5).f0)) = false := bne_eq_false_iff_eq.mpr c45
                                                    clear c45
                                                    by_cases c46 : ((rd_T32 t363 x16_5).f1).toList = ((rd_T32 t356 x16_5).f1).toList
                                                    · rw [if_pos c46] at H
                                                      have c46b0 : (((rd_T32 t363 x16_5).f1).toList == ((rd_T32 t356 x16_5).f1).toList) = true := beq_iff_eq.mpr c46
                                                      have c46b1 : (((rd_T32 t363 x16_5).f1).toList != ((rd_T32 t356 x16_5).f1).toList) = false := bne_eq_false_iff_eq.mpr c46
                                                      clear c46
                                                      by_cases c47 : ((rd_T32 t363 x16_5).f2) = ((rd_T32 t356 x16_5).f2)
                                                      · rw [if_pos c47] at H
                                                        have c47b0 : (((rd_T32 t363 x16_5).f2) == ((rd_T32 t356 x16_5).f2)) = true := beq_iff_eq.mpr c47
                                                        have c47b1 : (((rd_T32 t363 x16_5).f2) != ((rd_T32 t356 x16_5).f2)) = false := bne_eq_false_iff_eq.mpr c47
                                                        clear c47
                                                        by_cases c48 : (wrap64 (((rd_T32 t363 x16_5).f4) - ((rd_T32 t363 x16_5).f3))) = (wrap64 (((rd_T32 t356 x16_5).f4) - ((rd_T32 t356 x16_5).f3)))
                                                        · rw [if_pos c48] at H
                                                          have c48b0 : ((wrap64 (((rd_T32 t363 x16_5).f4) - ((rd_T32 t363 x16_5).f3))) == (wrap64 (((rd_T32 t356 x16_5).f4) - ((rd_T32 t356 x16_5).f3)))) = true := beq_iff_eq.mpr c48
                                                          have c48b1 : ((wrap64 (((rd_T32 t363 x16_5).f4) - ((rd_T32 t363 x16_5).f3))) != (wrap64 (((rd_T32 t356 x16_5).f4) - ((rd_T32 t356 x16_5).f3)))) = false := bne_eq_false_iff_eq.mpr c48
                                                          clear c48
                                                          have H' := Aside0.mk H
                                                          clear H
                                                          obtain ⟨Ao49, co49, eo49⟩ := Kd.R_slice HO_13.out
                                                          subst eo49
                                                          have p368 : 0 ≤ (x16_5 : Int) := of_decide_eq_true (by first | (with_reducible assumption) | assumption)
                                                          have q368 : x16_5 < (t363.length : Int) := of_decide_eq_true (by first | (with_reducible assumption) | assumption)
                                                          obtain ⟨ad368, e368, hx368_0, hx368_1, hx368_2, hx368_3, hx368_4⟩ := at_T32 (Kd.R_reads' HO_13.out).2.2 x16_5 p368 q368
                                                          cases e368
                                                          replace p368 := eq_true p368
                                                          replace q368 := eq_true q368
                                                          obtain ⟨Ao50, co50, eo50⟩ := Kd.R_slice HO_7.out
                                                          subst eo50
                                                          have p369 : 0 ≤ (x16_5 : Int) := of_decide_eq_true (by first | (with_reducible assumption) | assumption)
                                                          have q369 : x16_5 < (t356.length : Int) := of_decide_eq_true (by first | (with_reducible assumption) | assumption)
                                                          obtain ⟨ad369, e369, hx369_0, hx369_1, hx369_2, hx369_3, hx369_4⟩ := at_T32 (Kd.R_reads' HO_7.out).2.2 x16_5 p369 q369
                                                          cases e369
                                                          replace p369 := eq_true p369
                                                          replace q369 := eq_true q369
                                                          have p370 : 0 ≤ (x16_5 : Int) := of_decide_eq_true (by first | (with_reducible assumption) | assumption)
                                                          have q370 : x16_5 < (t363.length : Int) := of_decide_eq_true (by first | (with_reducible assumption) | assumption)
                                                          obtain ⟨ad370, e370, hx370_0, hx370_1, hx370_2, hx370_3, hx370_4⟩ := at_T32 (Kd.R_reads' HO_13.out).2.2 x16_5 p370 q370
                                                          obtain rfl : ad368 = ad370 := (by injection e370)
                                                          replace p370 := eq_true p370
                                                          replace q370 := eq_true q370
                                                          have p371 : 0 ≤ (x16_5 : Int) := of_decide_eq_true (by first | (with_reducible assumption) | assumption)
                                                          have q371 : x16_5 < (t356.length : Int) := of_decide_eq_true (by first | (with_reducible assumption) | assumption)
                                                          obtain ⟨ad371, e371, hx371_0, hx371_1, hx371_2, hx371_3, hx371_4⟩ := at_T32 (Kd.R_reads' HO_7.out).2.2 x16_5 p371 q371
                                                          obtain rfl : ad369 = ad371 := (by injection e371)
                                                          replace p371 := eq_true p371
                                                          replace q371 := eq_true q371
                                                          have p372 : 0 ≤ (x16_5 : Int) := of_decide_eq_true (by first | (with_reducible assumption) | assumption)
                                                          have q372 : x16_5 < (t363.length : Int) := of_decide_eq_true (by first | (with_reducible assumption) | assumption)
                                                          obtain ⟨ad372, e372, hx372_0, hx372_1, hx372_2, hx372_3, hx372_4⟩ := at_T32 (Kd.R_reads' HO_13.out).2.2 x16_5 p372 q372
                                                          obtain rfl : ad368 = ad372 := (by injection e372)
                                                          replace p372 := eq_true p372
                                                          replace q372 := eq_true q372
                                                          have p373 : 0 ≤ (x16_5 : Int) := of_decide_eq_true (by first | (with_reducible assumption) | assumption)
                                                          have q373 : x16_5 < (t356.length : Int) := of_decide_eq_true (by first | (with_reducible assumption) | assumption)
                                                          obtain ⟨ad373, e373, hx373_0, hx373_1, hx373_2, hx373_3, hx373_4⟩ := at_T32 (Kd.R_reads' HO_7.out).2.2 x16_5 p373 q373
                                                          obtain rfl : ad369 = ad373 := (by injection e373)
                                                          replace p373 := eq_true p373
                                                          replace q373 := eq_true q373
                                                          have p374 : 0 ≤ (x16_5 : Int) := of_decide_eq_true (by first | (with_reducible assumption) | assumption)
                                                          have q374 : x16_5 < (t363.length : Int) := of_decide_eq_true (by first | (with_reducible assumption) | assumption)
                                                          obtain ⟨ad374, e374, hx374_0, hx374_1, hx374_2, hx374_3, hx374_4⟩ := at_T32 (Kd.R_reads' HO_13.out).2.2 x16_5 p374 q374
                                                          obtain rfl : ad368 = ad374 := (by injection e374)
                                                          replace p374 := eq_true p374
                                                          replace q374 := eq_true q374
                                                          have p375 : 0 ≤ (x16_5 : Int) := of_decide_eq_true (by first | (with_reducible assumption) | assumption)
                                                          have q375 : x16_5 < (t363.length : Int) := of_decide_eq_true (by first | (with_reducible assumption) | assumption)
                                                          obtain ⟨ad375, e375, hx375_0, hx375_1, hx375_2, hx375_3, hx375_4⟩ := at_T32 (Kd.R_reads' HO_13.out).2.2 x16_5 p375 q375
                                                          obtain rfl : ad368 = ad375 := (by injection e375)
                                                          replace p375 := eq_true p375
                                                          replace q375 := eq_true q375
                                                          have p376 : 0 ≤ (x16_5 : Int) := of_decide_eq_true (by first | (with_reducible assumption) | assumption)
                                                          have q376 : x16_5 < (t356.length : Int) := of_decide_eq_true (by first | (with_reducible assumption) | assumption)
                                                          obtain ⟨ad376, e376, hx376_0, hx376_1, hx376_2, hx376_3, hx376_4⟩ := at_T32 (Kd.R_reads' HO_7.out).2.2 x16_5 p376 q376
                                                          obtain rfl : ad369 = ad376 := (by injection e376)
                                                          replace p376 := eq_true p376
                                                          replace q376 := eq_true q376
                                                          have p377 : 0 ≤ (x16_5 : Int) := of_decide_eq_true (by first | (with_reducible assumption) | assumption)
                                                          have q377 : x16_5 < (t356.length : Int) := of_decide_eq_true (by first | (with_reducible assumption) | assumption)
                                                          obtain ⟨ad377, e377, hx377_0, hx377_1, hx377_2, hx377_3, hx377_4⟩ := at_T32 (Kd.R_reads' HO_7.out).2.2 x16_5 p377 q377
                                                          obtain rfl : ad369 = ad377 := (by injection e377)
                                                          replace p377 := eq_true p377
                                                          replace q377 := eq_true q377
                                                          go_wp2
                                                          repeat (go_quiet (fail); try go_wp2)
                                                          go_roundg k5
                                                          case measure => have := HJ7.out; have := HJ15.out; have := HJ18.out; have := HJ35.out; have := HK5.out; omega
                                                          case rel => exact ⟨(wrap64 (x16_5 + 1)), (by first | rfl | (simp; done) | (simp [*]; done)), H', ⟨by have := HJ7.out; have := HJ15.out; have := HJ18.out; have := HJ35.out; have := HK5.out; omega⟩, ⟨by (with_reducible repeat (first | apply Kd.R_alloc | apply Kd.R_drewN | apply Kd.R_drew)); exact HO_7.out⟩, ⟨by (with_reducible repeat (first | apply Kd.R_alloc | apply Kd.R_drewN | apply Kd.R_drew)); exact HO_13.out⟩, ⟨by repeat (first | (with_reducible first | exact HB.out | apply below_alloc | apply pw_below_drewN | apply below_drew1) | exact HB.out)⟩⟩
                                                        · rw [if_neg c48] at H
                                                          have c48b0 : ((wrap64 (((rd_T32 t363 x16_5).f4) - ((rd_T32 t363 x16_5).f3))) == (wrap64 (((rd_T32 t356 x16_5).f4) - ((rd_T32 t356 x16_5).f3)))) = false := beq_eq_false_iff_ne.mpr c48
                                                          have c48b1 : ((wrap64 (((rd_T32 t363 x16_5).f4) - ((rd_T32 t363 x16_5).f3))) != (wrap64 (((rd_T32 t356 x16_5).f4) - ((rd_T32 t356 x16_5).f3)))) = true := bne_iff_ne.mpr c48
                                                          obtain rfl := Option.some.inj H
                                                          obtain ⟨Ao51, co51, eo51⟩ := Kd.R_slice HO_13.out
                                                          subst eo51
                                                          have p368 : 0 ≤ (x16_5 : Int) := of_decide_eq_true (by first | (with_reducible assumption) | assumption)
                                                          have q368 : x16_5 < (t363.length : Int) := of_decide_eq_true (by first | (with_reducible assumption) | assumption)
                                                          obtain ⟨ad368, e368, hx368_0, hx368_1, hx368_2, hx368_3, hx368_4⟩ := at_T32 (Kd.R_reads' HO_13.out).2.2 x16_5 p368 q368
                                                          cases e368
                                                          replace p368 := eq_true p368
                                                          replace q368 := eq_true q368
                                                          obtain ⟨Ao52, co52, eo52⟩ := Kd.R_slice HO_7.out
                                                          subst eo52
                                                          have p369 : 0 ≤ (x16_5 : Int) := of_decide_eq_true (by first | (with_reducible assumption) | assumption)
                                                          have q369 : x16_5 < (t356.length : Int) := of_decide_eq_true (by first | (with_reducible assumption) | assumption)
                                                          obtain ⟨ad369, e369, hx369_0, hx369_1, hx369_2, hx369_3, hx369_4⟩ := at_T32 (Kd.R_reads' HO_7.out).2.2 x16_5 p369 q369
                                                          cases e369
                                                          replace p369 := eq_true p369
                                                          replace q369 := eq_true q369
                                                          have p370 : 0 ≤ (x16_5 : Int) := of_decide_eq_true (by first | (with_reducible assumption) | assumption)
                                                          have q370 : x16_5 < (t363.length : Int) := of_decide_eq_true (by first | (with_reducible assumption) | assumption)
                                                          obtain ⟨ad370, e370, hx370_0, hx370_1, hx370_2, hx370_3, hx370_4⟩ := at_T32 (Kd.R_reads' HO_13.out).2.2 x16_5 p370 q370
                                                          obtain rfl : ad368 = ad370 := (by injection e370)
                                                          replace p370 := eq_true p370
                                                          replace q370 := eq_true q370
                                                          have p371 : 0 ≤ (x16_5 : Int) := of_decide_eq_true (by first | (with_reducible assumption) | assumption)
                                                          have q371 : x16_5 < (t356.length : Int) := of_decide_eq_true (by first | (with_reducible assumption) | assumption)
                                                          obtain ⟨ad371, e371, hx371_0, hx371_1, hx371_2, hx371_3, hx371_4⟩ := at_T32 (Kd.R_reads' HO_7.out).2.2 x16_5 p371 q371
                                                          obtain rfl : ad369 = ad371 := (by injection e371)
                                                          replace p371 := eq_true p371
                                                          replace q371 := eq_true q371
                                                          have p372 : 0 ≤ (x16_5 : Int) := of_decide_eq_true (by first | (with_reducible assumption) | assumption)
                                                          have q372 : x16_5 < (t363.length : Int) := of_decide_eq_true (by first | (with_reducible assumption) | assumption)
                                                          obtain ⟨ad372, e372, hx372_0, hx372_1, hx372_2, hx372_3, hx372_4⟩ := at_T32 (Kd.R_reads' HO_13.out).2.2 x16_5 p372 q372
                                                          obtain rfl : ad368 = ad372 := (by injection e372)
                                                          replace p372 := eq_true p372
                                                          replace q372 := eq_true q372
                                                          have p373 : 0 ≤ (x16_5 : Int) := of_decide_eq_true (by first | (with_reducible assumption) | assumption)
                                                          have q373 : x16_5 < (t356.length : Int) := of_decide_eq_true (by first | (with_reducible assumption) | assumption)
                                                          obtain ⟨ad373, e373, hx373_0, hx373_1, hx373_2, hx373_3, hx373_4⟩ := at_T32 (Kd.R_reads' HO_7.out).2.2 x16_5 p373 q373
                                                          obtain rfl : ad369 = ad373 := (by injection e373)
                                                          replace p373 := eq_true p373
                                                          replace q373 := eq_true q373
                                                          have p374 : 0 ≤ (x16_5 : Int) := of_decide_eq_true (by first | (with_reducible assumption) | assumption)
                                                          have q374 : x16_5 < (t363.length : Int) := of_decide_eq_true (by first | (with_reducible assumption) | assumption)
                                                          obtain ⟨ad374, e374, hx374_0, hx374_1, hx374_2, hx374_3, hx374_4⟩ := at_T32 (Kd.R_reads' HO_13.out).2.2 x16_5 p374 q374
                                                          obtain rfl : ad368 = ad374 := (by injection e374)
                                                          replace p374 := eq_true p374
                                                          replace q374 := eq_true q374
                                                          have p375 : 0 ≤ (x16_5 : Int) := of_decide_eq_true (by first | (with_reducible assumption) | assumption)
                                                          have q375 : x16_5 < (t363.length : Int) := of_decide_eq_true (by first | (with_reducible assumption) | assumption)
                                                          obtain ⟨ad375, e375, hx375_0, hx375_1, hx375_2, hx375_3, hx375_4⟩ := at_T32 (Kd.R_reads' HO_13.out).2.2 x16_5 p375 q375
                                                          obtain rfl : ad368 = ad375 := (by injection e375)
                                                          replace p375 := eq_true p375
                                                          replace q375 := eq_true q375
                                                          have p376 : 0 ≤ (x16_5 : Int) := of_decide_eq_true (by first | (with_reducible assumption) | assumption)
                                                          have q376 : x16_5 < (t356.length : Int) := of_decide_eq_true (by first | (with_reducible assumption) | assumption)
                                                          obtain ⟨ad376, e376, hx376_0, hx376_1, hx376_2, hx376_3, hx376_4⟩ := at_T32 (Kd.R_reads' HO_7.out).2.2 x16_5 p376 q376
                                                          obtain rfl : ad369 = ad376 := (by injection e376)
                                                          replace p376 := eq_true p376
                                                          replace q376 := eq_true q376
                                                          have p377 : 0 ≤ (x16_5 : Int) := of_decide_eq_true (by first | (with_reducible assumption) | assumption)
                                                          have q377 : x16_5 < (t356.length : Int) := of_decide_eq_true (by first | (with_reducible assumption) | assumption)
                                                          obtain ⟨ad377, e377, hx377_0, hx377_1, hx377_2, hx377_3, hx377_4⟩ := at_T32 (Kd.R_reads' HO_7.out).2.2 x16_5 p377 q377
                                                          obtain rfl : ad369 = ad377 := (by injection e377)
                                                          replace p377 := eq_true p377
                                                          replace q377 := eq_true q377
                                                          go_wp2
                                                          repeat (go_quiet (fail); try go_wp2)
                                                          go_ret
                                                          exact ⟨by first | rfl | (simp [errW_none, errW_some] <;> rfl) | (simp [*, errW_none, errW_some] <;> rfl), by repeat (first | (with_reducible first | exact HB.out | apply below_alloc | apply pw_below_drewN | apply below_drew1) | exact HB.out)⟩
                                                      · rw [if_neg c47] at H
                                                        have c47b0 : (((rd_T32 t363 x16_5).f2) == ((rd_T32 t356 x16_5).f2)) = false := beq_eq_false_iff_ne.mpr c47
                                                        have c47b1 : (((rd_T32 t363 x16_5).f2) != ((rd_T32 t356 x16_5).f2)) = true := bne_iff_ne.mpr c47
                                                        obtain rfl := Option.some.inj H
                                                        obtain ⟨Ao53, co53, eo53⟩ := Kd.R_slice HO_13.out
                                                        subst eo53
                                                        have p368 : 0 ≤ (x16_5 : Int) := of_decide_eq_true (by first | (with_reducible assumption) | assumption)
                                                        have q368 : x16_5 < (t363.length : Int) := of_decide_eq_true (by first | (with_reducible assumption) | assumption)
                                                        obtain ⟨ad368, e368, hx368_0, hx368_1, hx368_2, hx368_3, hx368_4⟩ := at_T32 (Kd.R_reads' HO_13.out).2.2 x16_5 p368 q368
                                                        cases e368
                                                        replace p368 := eq_true p368
                                                        replace q368 := eq_true q368
                                                        obtain ⟨Ao54, co54, eo54⟩ := Kd.R_slice HO_7.out
                                                        subst eo54
                                                        have p369 : 0 ≤ (x16_5 : Int) := of_decide_eq_true (by first | (with_reducible assumption) | assumption)
                                                        have q369 : x16_5 < (t356.length : Int) := of_decide_eq_true (by first | (with_reducible assumption) | assumption)
                                                        obtain ⟨ad369, e369, hx369_0, hx369_1, hx369_2, hx369_3, hx369_4⟩ := at_T32 (Kd.R_reads' HO_7.out).2.2 x16_5 p369 q369
                                                        cases e369
                                                        replace p369 := eq_true p369
                                                        replace q369 := eq_true q369
                                                        have p370 : 0 ≤ (x16_5 : Int) := of_decide_eq_true (by first | (with_reducible assumption) | assumption)
                                                        have q370 : x16_5 < (t363.length : Int) := of_decide_eq_true (by first | (with_reducible assumption) | assumption)
                                                        obtain ⟨ad370, e370, hx370_0, hx370_1, hx370_2, hx370_3, hx370_4⟩ := at_T32 (Kd.R_reads' HO_13.out).2.2 x16_5 p370 q370
                                                        obtain rfl : ad368 = ad370 := (by injection e370)
                                                        replace p370 := eq_true p370
                                                        replace q370 := eq_true q370
                                                        have p371 : 0 ≤ (x16_5 : Int) := of_decide_eq_true (by first | (with_reducible assumption) | assumption)
                                                        have q371 : x16_5 < (t356.length : Int) := of_decide_eq_true (by first | (with_reducible assumption) | assumption)
                                                        obtain ⟨ad371, e371, hx371_0, hx371_1, hx371_2, hx371_3, hx371_4⟩ := at_T32 (Kd.R_reads' HO_7.out).2.2 x16_5 p371 q371
                                                        obtain rfl : ad369 = ad371 := (by injection e371)
                                                        replace p371 := eq_true p371
                                                        replace q371 := eq_true q371
                                                        have p372 : 0 ≤ (x16_5 : Int) := of_decide_eq_true (by first | (with_reducible assumption) | assumption)
                                                        have q372 : x16_5 < (t363.length : Int) := of_decide_eq_true (by first | (with_reducible assumption) | assumption)
                                                        obtain ⟨ad372, e372, hx372_0, hx372_1, hx372_2, hx372_3, hx372_4⟩ := at_T32 (Kd.R_reads' HO_13.out).2.2 x16_5 p372 q372
                                                        obtain rfl : ad368 = ad372 := (by injection e372)
                                                        replace p372 := eq_true p372
                                                        replace q372 := eq_true q372
                                                        have p373 : 0 ≤ (x16_5 : Int) := of_decide_eq_true (by first | (with_reducible assumption) | assumption)
                                                        have q373 : x16_5 < (t356.length : Int) := of_decide_eq_true (by first | (with_reducible assumption) | assumption)
                                                        obtain ⟨ad373, e373, hx373_0, hx373_1, hx373_2, hx373_3, hx373_4⟩ := at_T32 (Kd.R_reads' HO_7.out).2.2 x16_5 p373 q373
                                                        obtain rfl : ad369 = ad373 := (by injection e373)
                                                        replace p373 := eq_true p373
                                                        replace q373 := eq_true q373
                                                        go_wp2
                                                        repeat (go_quiet (fail); try go_wp2)
                                                        go_ret
                                                        exact ⟨by first | rfl | (simp [errW_none, errW_some] <;> rfl) | (simp [*, errW_none, errW_some] <;> rfl), by repeat (first | (with_reducible first | exact HB.out | apply below_alloc | apply pw_below_drewN | apply below_drew1) | exact HB.out)⟩
                                                    · rw [if_neg c46] at H
                                                      have c46b0 : (((rd_T32 t363 x16_5).f1).toList == ((rd_T32 t356 x16_5).f1).toList) = false := beq_eq_false_iff_ne.mpr c46
                                                      have c46b1 : (((rd_T32 t363 x16_5).f1).toList != ((rd_T32 t356 x16_5).f1).toList) = true := bne_iff_ne.mpr c46
                                                      obtain rfl := Option.some.inj H
                                                      obtain ⟨Ao55, co55, eo55⟩ := Kd.R_slice HO_13.out
                                                      subst eo55
                                                      have p368 : 0 ≤ (x16_5 : Int) := of_decide_eq_true (by first | (with_reducible assumption) | assumption)
                                                      have q368 : x16_5 < (t363.length : Int) := of_decide_eq_true (by first | (with_reducible assumption) | assumption)
                                                      obtain ⟨ad368, e368, hx368_0, hx368_1, hx368_2, hx368_3, hx368_4⟩ := at_T32 (Kd.R_reads' HO_13.out).2.2 x16_5 p368 q368
                                                      cases e368
                                                      replace p368 := eq_true p368
                                                      replace q368 := eq_true q368
                                                      obtain ⟨Ao56, co56, eo56⟩ := Kd.R_slice HO_7.out
                                                      subst eo56
                                                      have p369 : 0 ≤ (x16_5 : Int) := of_decide_eq_true (by first | (with_reducible assumption) | assumption)
                                                      have q369 : x16_5 < (t356.length : Int) := of_decide_eq_true (by first | (with_reducible assumption) | assumption)
                                                      obtain ⟨ad369, e369, hx369_0, hx369_1, hx369_2, hx369_3, hx369_4⟩ := at_T32 (Kd.R_reads' HO_7.out).2.2 x16_5 p369 q369
                                                      cases e369
                                                      replace p369 := eq_true p369
                                                      replace q369 := eq_true q369
                                                      have p370 : 0 ≤ (x16_5 : Int) := of_decide_eq_true (by first | (with_reducible assumption) | assumption)
                                                      have q370 : x16_5 < (t363.length : Int) := of_decide_eq_true (by first | (with_reducible assumption) | assumption)
                                                      obtain ⟨ad370, e370, hx370_0, hx370_1, hx370_2, hx370_3, hx370_4⟩ := at_T32 (Kd.R_reads' HO_13.out).2.2 x16_5 p370 q370
                                                      obtain rfl : ad368 = ad370 := (by injection e370)
                                                      replace p370 := eq_true p370
                                                      replace q370 := eq_true q370
                                                      have p371 : 0 ≤ (x16_5 : Int) := of_decide_eq_true (by first | (with_reducible assumption) | assumption)
                                                      have q371 : x16_5 < (t356.length : Int) := of_decide_eq_true (by first | (with_reducible assumption) | assumption)
                                                      obtain ⟨ad371, e371, hx371_0, hx371_1, hx371_2, hx371_3, hx371_4⟩ := at_T32 (Kd.R_reads' HO_7.out).2.2 x16_5 p371 q371
                                                      obtain rfl : ad369 = ad371 := (by injection e371)
                                                      replace p371 := eq_true p371
                                                      replace q371 := eq_true q371
                                                      go_wp2
                                                      repeat (go_quiet (fail); try go_wp2)
                                                      go_ret
                                                      exact ⟨by first | rfl | (simp [errW_none, errW_some] <;> rfl) | (simp [*, errW_none, errW_some] <;> rfl), by repeat (first | (with_reducible first | exact HB.out | apply below_alloc | apply pw_below_drewN | apply below_drew1) | exact HB.out)⟩
                                                  · rw [if_neg c45] at H
                                                    have c45b0 : (((rd_T32 t363 x16_5).f0) == ((rd_T32 t356 x16_5).f0)) = false := beq_eq_false_iff_ne.mpr c45
                                                    have c45b1 : (((rd_T32 t363 x16_5).f0) != ((rd_T32 t356 x16_5).f0)) = true := bne_iff_ne.mpr c45
                                                    obtain rfl := Option.some.inj H
                                                    obtain ⟨Ao57, co57, eo57⟩ := Kd.R_slice HO_13.out
                                                    subst eo57
                                                    have p368 : 0 ≤ (x16_5 : Int) := of_decide_eq_true (by first | (with_reducible assumption) | assumption)
                                                    have q368 : x16_5 < (t363.length : Int) := of_decide_eq_true (by first | (with_reducible assumption) | assumption)
                                                    obtain ⟨ad368, e368, hx368_0, hx368_1, hx368_2, hx368_3, hx368_4⟩ := at_T32 (Kd.R_reads' HO_13.out).2.2 x16_5 p368 q368
                                                    cases e368
                                                    replace p368 := eq_true p368
                                                    replace q368 := eq_true q368
                                                    obtain ⟨Ao58, co58, eo58⟩ := Kd.R_slice HO_7.out
                                                    subst eo58
                                                    have p369 : 0 ≤ (x16_5 : Int) := of_decide_eq_true (by first | (with_reducible assumption) | assumption)
                                                    have q369 : x16_5 < (t356.length : Int) := of_decide_eq_true (by first | (with_reducible assumption) | assumption)
                                                    obtain ⟨ad369, e369, hx369_0, hx369_1, hx369_2, hx369_3, hx369_4⟩ := at_T32 (Kd.R_reads' HO_7.out).2.2 x16_5 p369 q369
                                                    cases e369
                                                    replace p369 := eq_true p369
                                                    replace q369 := eq_true q369
                                                    go_wp2
                                                    repeat (go_quiet (fail); try go_wp2)
                                                    go_ret
                                                    exact ⟨by first | rfl | (simp [errW_none, errW_some] <;> rfl) | (simp [*, errW_none, errW_some] <;> rfl), by repeat (first | (with_reducible first | exact HB.out | apply below_alloc | apply pw_below_drewN | apply below_drew1) | exact HB.out)⟩
                                                · rw [if_neg c44] at H
                                                  exact absurd H (by simp)
                                              · rw [if_neg c43] at H
                                                exact absurd H (by simp)
                                            · rw [if_neg c42] at H
                                              have c42b0 : decide (x16_5 < (t363.length : Int)) = false := decide_eq_false c42
                                              clear c42
                                              obtain rfl := Option.some.inj H
                                              obtain ⟨Ao59, co59, eo59⟩ := Kd.R_slice HO_13.out
                                              subst eo59
                                              go_wp2
                                              repeat (go_quiet (fail); try go_wp2)
                                              go_ret
                                              exact ⟨by first | rfl | (simp [errW_none, errW_some] <;> rfl) | (simp [*, errW_none, errW_some] <;> rfl), by repeat (first | (with_reducible first | exact HB.out | apply below_alloc | apply pw_below_drewN | apply below_drew1) | exact HB.out)⟩
                              · rw [if_neg c32] at H
                                exact absurd H (by simp)
                            · rw [if_neg c31] at H
                              exact absurd H (by simp)
                          · rw [if_neg c30] at H
                            exact absurd H (by simp)
                        · rw [if_neg c27] at H
                          exact absurd H (by simp)
                      · rw [if_neg c26] at H
                        exact absurd H (by simp)
                    · rw [if_neg c25] at H
                      exact absurd H (by simp)
                  · rw [if_neg c24] at H
                    exact absurd H (by simp)
  · replace c5 := Bool.eq_false_iff.mpr c5
    subst c5
    have H1 : (some false) = some r := by rw [if_neg (show ¬ (false = true) by decide)] at H; exact H
    clear H
    have H := H1
    clear H1
    obtain rfl := Option.some.inj H
    go_enter Try.func7, Try.ntmps7
    go_wp2_with (first | (go_at_call 10; (with_reducible refine (stratumlaw08_lives.calls k  false _ A4.out).mono ?_); rintro e w60 ⟨rfl, hb⟩; have n0_ := Aside0.mk (below_step (by repeat (first | (with_reducible first | exact HB.out | apply below_alloc | apply pw_below_drewN | apply below_drew1) | exact HB.out)) hb); clear HB; have HB := n0_; clear n0_; (try clear hb); (try clear hb2); (try clear hk); (try clear hi)))
    repeat (go_quiet (first | (go_at_call 10; (with_reducible refine (stratumlaw08_lives.calls k  false _ A4.out).mono ?_); rintro e w60 ⟨rfl, hb⟩; have n0_ := Aside0.mk (below_step (by repeat (first | (with_reducible first | exact HB.out | apply below_alloc | apply pw_below_drewN | apply below_drew1) | exact HB.out)) hb); clear HB; have HB := n0_; clear n0_; (try clear hb); (try clear hb2); (try clear hk); (try clear hi))); try go_wp2_with (first | (go_at_call 10; (with_reducible refine (stratumlaw08_lives.calls k  false _ A4.out).mono ?_); rintro e w60 ⟨rfl, hb⟩; have n0_ := Aside0.mk (below_step (by repeat (first | (with_reducible first | exact HB.out | apply below_alloc | apply pw_below_drewN | apply below_drew1) | exact HB.out)) hb); clear HB; have HB := n0_; clear n0_; (try clear hb); (try clear hb2); (try clear hk); (try clear hi))))
    go_ret
    exact ⟨by first | rfl | (simp [errW_none, errW_some] <;> rfl) | (simp [*, errW_none, errW_some] <;> rfl), by repeat (first | (with_reducible first | exact HB.out | apply below_alloc | apply pw_below_drewN | apply below_drew1) | exact HB.out)⟩

/-- THE ONE PURE STATEMENT of stratumlaw08_LexBlanks: yours. -/
def stratumlaw08_LexBlanks.Pure : Prop := ∀ (a0 : ByteArray) (a1 : Int) (a2 : Int), a0.size ≤ 140737488351232 → (Lit.int .i64 a1).wf = true → (Lit.int .i64 a2).wf = true → ∃ k, stratumlaw08_LexBlanks.f k a0 a1 a2 = some true
theorem stratumlaw08_LexBlanks.walk (P : stratumlaw08_LexBlanks.Pure) (a0 : ByteArray) (a1 : Int) (a2 : Int) (w : World) (w0 : a0.size ≤ 140737488351232) (w1 : (Lit.int .i64 a1).wf = true) (w2 : (Lit.int .i64 a2).wf = true) :
    Calls Try.prog 7 #[.string a0, .int .i64 a1, .int .i64 a2] w fun e w' => e = .returned (.bool true) ∧ Below w.heap.size w w' := by
  obtain ⟨k, h⟩ := P a0 a1 a2 w0 w1 w2
  refine (stratumlaw08_LexBlanks.calls k a0 a1 a2 true w h).mono ?_
  rintro e w' ⟨rfl, hd⟩
  exact ⟨rfl, hd⟩

end Go.Proofs.Ytedhkelochpdnaa.X
