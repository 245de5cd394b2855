/- The machine's side of the laws of this seat: for each Go function a Lean function of lists and numbers, and that the call answers what it answers. No condition but those in the theorems. -/
import Derived.Test.YthgkemkcepkkcaaX0
import Derived.Test.YthgkemkcepkkcaaX1
import Derived.Test.YthgkemkcepkkcaaX2
namespace Go.Proofs.Ythgkemkcepkkcaa.X
open Go.RowKit Go.Proofs.YthgkemkcepkkcaaW.PrintWords Go.Proofs.YthgkemkcepkkcaaW.PrintLast Go.Proofs.YthgkemkcepkkcaaW.PrintMore
attribute [local go_sem] max2_int min2_int max_two min_two max_three min_three max_four min_four   -- for this text's walks alone
set_option linter.unusedVariables false
set_option linter.unusedSimpArgs false

/-! ### stratumlaw07_PartHexes: function 8 -/
mutual
def stratumlaw07_PartHexes.l0 : Nat → ByteArray → Int → Int → List Int → List Int → Int → Option (Bool)
  | 0, _, _, _, _, _, _ => none
  | k + 1, x0, x1, x2, x9, x10, x11 => if x11 < (x0.size : Int) then (if 0 ≤ x11 then (if 0 ≤ ((Int.tdiv (bt x0 x11) 16) % 256) then (if ((Int.tdiv (bt x0 x11) 16) % 256) < 16 then (if 0 ≤ (Int.tmod (bt x0 x11) 16) then (if (Int.tmod (bt x0 x11) 16) < 16 then ((some (([bt (⟨#[48, 49, 50, 51, 52, 53, 54, 55, 56, 57, 97, 98, 99, 100, 101, 102]⟩ : ByteArray) ((Int.tdiv (bt x0 x11) 16) % 256), bt (⟨#[48, 49, 50, 51, 52, 53, 54, 55, 56, 57, 97, 98, 99, 100, 101, 102]⟩ : ByteArray) (Int.tmod (bt x0 x11) 16)] : List Int) : List Int)).bind fun y188 => (if x9.length + y188.length < 140737488355328 then ((some (([bt (⟨#[48, 49, 50, 51, 52, 53, 54, 55, 56, 57, 65, 66, 67, 68, 69, 70]⟩ : ByteArray) ((Int.tdiv (bt x0 x11) 16) % 256), bt (⟨#[48, 49, 50, 51, 52, 53, 54, 55, 56, 57, 65, 66, 67, 68, 69, 70]⟩ : ByteArray) (Int.tmod (bt x0 x11) 16)] : List Int) : List Int)).bind fun y194 => (if x10.length + y194.length < 140737488355328 then (stratumlaw07_PartHexes.l0 k x0 x1 x2 (x9 ++ y188) (x10 ++ y194) (wrap64 (x11 + 1))) else (none))) else (none))) else (none)) else (none)) else (none)) else (none)) else (none)) else ((part_Hex.f k (strOfNums x9)).bind fun bt200 => ((part_Hex.f k (strOfNums x10)).bind fun bt202 => (if (strOfNums x9).size + 1 ≤ 9223372036854775807 then ((part_Hex.f k ((strOfNums x9) ++ (⟨#[48]⟩ : ByteArray))).bind fun bt204 => (if bt200.1.toList = x0.toList then (if bt200.2 = 0 then (if bt202.1.toList = x0.toList then (if bt202.2 = 0 then (if bt204.1.toList = ([] : List UInt8) then (stratumlaw07_PartHexes.j1 k x1 x2 x9 (bt204.2 != 111)) else (stratumlaw07_PartHexes.j1 k x1 x2 x9 true)) else (stratumlaw07_PartHexes.j1 k x1 x2 x9 true)) else (stratumlaw07_PartHexes.j1 k x1 x2 x9 true)) else (stratumlaw07_PartHexes.j1 k x1 x2 x9 true)) else (stratumlaw07_PartHexes.j1 k x1 x2 x9 true))) else (none))))
def stratumlaw07_PartHexes.j1 : Nat → Int → Int → List Int → Bool → Option (Bool)
  | 0, _, _, _, _ => none
  | k + 1, x1, x2, x9, x99 => if x99 = true then (some false) else (if x2 ≥ 48 then (if x2 ≤ 57 then (if (x9.length : Int) = 0 then (some true) else (some true)) else (if x2 ≥ 97 then (if x2 ≤ 102 then (if (x9.length : Int) = 0 then (some true) else (some true)) else (if x2 ≥ 65 then (if (x9.length : Int) = 0 then (some true) else (if x2 ≤ 70 then (some true) else (if (IntKind.u64.wrap ((x9.length : Int))) = 0 then (none) else (if 0 ≤ (wrap64 (Int.tmod (IntKind.u64.wrap (x1)) (IntKind.u64.wrap ((x9.length : Int))))) then (if (wrap64 (Int.tmod (IntKind.u64.wrap (x1)) (IntKind.u64.wrap ((x9.length : Int))))) < (x9.length : Int) then ((part_Hex.f k (strOfNums (x9.set ((wrap64 (Int.tmod (IntKind.u64.wrap (x1)) (IntKind.u64.wrap ((x9.length : Int))))) : Int).toNat x2))).bind fun bt207 => (if bt207.1.toList = ([] : List UInt8) then (some (bt207.2 == 111)) else (some false))) else (none)) else (none))))) else (if (x9.length : Int) = 0 then (some true) else (if (IntKind.u64.wrap ((x9.length : Int))) = 0 then (none) else (if 0 ≤ (wrap64 (Int.tmod (IntKind.u64.wrap (x1)) (IntKind.u64.wrap ((x9.length : Int))))) then (if (wrap64 (Int.tmod (IntKind.u64.wrap (x1)) (IntKind.u64.wrap ((x9.length : Int))))) < (x9.length : Int) then ((part_Hex.f k (strOfNums (x9.set ((wrap64 (Int.tmod (IntKind.u64.wrap (x1)) (IntKind.u64.wrap ((x9.length : Int))))) : Int).toNat x2))).bind fun bt210 => (if bt210.1.toList = ([] : List UInt8) then (some (bt210.2 == 111)) else (some false))) else (none)) else (none)))))) else (if x2 ≥ 65 then (if (x9.length : Int) = 0 then (some true) else (if x2 ≤ 70 then (some true) else (if (IntKind.u64.wrap ((x9.length : Int))) = 0 then (none) else (if 0 ≤ (wrap64 (Int.tmod (IntKind.u64.wrap (x1)) (IntKind.u64.wrap ((x9.length : Int))))) then (if (wrap64 (Int.tmod (IntKind.u64.wrap (x1)) (IntKind.u64.wrap ((x9.length : Int))))) < (x9.length : Int) then ((part_Hex.f k (strOfNums (x9.set ((wrap64 (Int.tmod (IntKind.u64.wrap (x1)) (IntKind.u64.wrap ((x9.length : Int))))) : Int).toNat x2))).bind fun bt213 => (if bt213.1.toList = ([] : List UInt8) then (some (bt213.2 == 111)) else (some false))) else (none)) else (none))))) else (if (x9.length : Int) = 0 then (some true) else (if (IntKind.u64.wrap ((x9.length : Int))) = 0 then (none) else (if 0 ≤ (wrap64 (Int.tmod (IntKind.u64.wrap (x1)) (IntKind.u64.wrap ((x9.length : Int))))) then (if (wrap64 (Int.tmod (IntKind.u64.wrap (x1)) (IntKind.u64.wrap ((x9.length : Int))))) < (x9.length : Int) then ((part_Hex.f k (strOfNums (x9.set ((wrap64 (Int.tmod (IntKind.u64.wrap (x1)) (IntKind.u64.wrap ((x9.length : Int))))) : Int).toNat x2))).bind fun bt216 => (if bt216.1.toList = ([] : List UInt8) then (some (bt216.2 == 111)) else (some false))) else (none)) else (none))))))) else (if x2 ≥ 97 then (if x2 ≤ 102 then (if (x9.length : Int) = 0 then (some true) else (some true)) else (if x2 ≥ 65 then (if (x9.length : Int) = 0 then (some true) else (if x2 ≤ 70 then (some true) else (if (IntKind.u64.wrap ((x9.length : Int))) = 0 then (none) else (if 0 ≤ (wrap64 (Int.tmod (IntKind.u64.wrap (x1)) (IntKind.u64.wrap ((x9.length : Int))))) then (if (wrap64 (Int.tmod (IntKind.u64.wrap (x1)) (IntKind.u64.wrap ((x9.length : Int))))) < (x9.length : Int) then ((part_Hex.f k (strOfNums (x9.set ((wrap64 (Int.tmod (IntKind.u64.wrap (x1)) (IntKind.u64.wrap ((x9.length : Int))))) : Int).toNat x2))).bind fun bt219 => (if bt219.1.toList = ([] : List UInt8) then (some (bt219.2 == 111)) else (some false))) else (none)) else (none))))) else (if (x9.length : Int) = 0 then (some true) else (if (IntKind.u64.wrap ((x9.length : Int))) = 0 then (none) else (if 0 ≤ (wrap64 (Int.tmod (IntKind.u64.wrap (x1)) (IntKind.u64.wrap ((x9.length : Int))))) then (if (wrap64 (Int.tmod (IntKind.u64.wrap (x1)) (IntKind.u64.wrap ((x9.length : Int))))) < (x9.length : Int) then ((part_Hex.f k (strOfNums (x9.set ((wrap64 (Int.tmod (IntKind.u64.wrap (x1)) (IntKind.u64.wrap ((x9.length : Int))))) : Int).toNat x2))).bind fun bt222 => (if bt222.1.toList = ([] : List UInt8) then (some (bt222.2 == 111)) else (some false))) else (none)) else (none)))))) else (if x2 ≥ 65 then (if (x9.length : Int) = 0 then (some true) else (if x2 ≤ 70 then (some true) else (if (IntKind.u64.wrap ((x9.length : Int))) = 0 then (none) else (if 0 ≤ (wrap64 (Int.tmod (IntKind.u64.wrap (x1)) (IntKind.u64.wrap ((x9.length : Int))))) then (if (wrap64 (Int.tmod (IntKind.u64.wrap (x1)) (IntKind.u64.wrap ((x9.length : Int))))) < (x9.length : Int) then ((part_Hex.f k (strOfNums (x9.set ((wrap64 (Int.tmod (IntKind.u64.wrap (x1)) (IntKind.u64.wrap ((x9.length : Int))))) : Int).toNat x2))).bind fun bt225 => (if bt225.1.toList = ([] : List UInt8) then (some (bt225.2 == 111)) else (some false))) else (none)) else (none))))) else (if (x9.length : Int) = 0 then (some true) else (if (IntKind.u64.wrap ((x9.length : Int))) = 0 then (none) else (if 0 ≤ (wrap64 (Int.tmod (IntKind.u64.wrap (x1)) (IntKind.u64.wrap ((x9.length : Int))))) then (if (wrap64 (Int.tmod (IntKind.u64.wrap (x1)) (IntKind.u64.wrap ((x9.length : Int))))) < (x9.length : Int) then ((part_Hex.f k (strOfNums (x9.set ((wrap64 (Int.tmod (IntKind.u64.wrap (x1)) (IntKind.u64.wrap ((x9.length : Int))))) : Int).toNat x2))).bind fun bt228 => (if bt228.1.toList = ([] : List UInt8) then (some (bt228.2 == 111)) else (some false))) else (none)) else (none)))))))
end
def stratumlaw07_PartHexes.f (k : Nat) (a0 : ByteArray) (a1 : Int) (a2 : Int) (lG : List Int) : Option (Bool) := (stratumlaw07_awake.f k lG).bind fun t187 => (if t187 = true then (stratumlaw07_PartHexes.l0 k a0 a1 a2 ([] : List Int) ([] : List Int) 0) else (some false))
theorem stratumlaw07_PartHexes.mono_l : ∀ k, (∀ y0 y1 y2 y3 y4 y5, LeO (stratumlaw07_PartHexes.l0 k y0 y1 y2 y3 y4 y5) (stratumlaw07_PartHexes.l0 (k + 1) y0 y1 y2 y3 y4 y5)) ∧ (∀ y0 y1 y2 y3, LeO (stratumlaw07_PartHexes.j1 k y0 y1 y2 y3) (stratumlaw07_PartHexes.j1 (k + 1) y0 y1 y2 y3))
  | 0 => ⟨fun _ _ _ _ _ _ r h => by simp [stratumlaw07_PartHexes.l0] at h, fun _ _ _ _ r h => by simp [stratumlaw07_PartHexes.j1] at h⟩
  | k + 1 => by
    obtain ⟨ih0, ih1⟩ := stratumlaw07_PartHexes.mono_l k
    refine ⟨?_, ?_⟩
    · intro y0 y1 y2 y3 y4 y5
      unfold stratumlaw07_PartHexes.l0
      repeat' first
      | (with_reducible exact ih0 _ _ _ _ _ _)
      | (with_reducible exact ih1 _ _ _ _)
      | (with_reducible exact part_Hex.mono _ _)
      | (with_reducible exact stratumlaw07_awake.mono _ _)
      | (with_reducible exact LeO.refl _)
      | (with_reducible exact LeO.none _)
      | (with_reducible refine LeO.ite ?_ ?_)
      | (with_reducible refine LeO.bind ?_ (fun _ => ?_))
      | exact ih0 _ _ _ _ _ _
      | exact ih1 _ _ _ _
      | exact part_Hex.mono _ _
      | exact stratumlaw07_awake.mono _ _
      | exact LeO.none _
      | refine LeO.ite ?_ ?_
      | refine LeO.bind ?_ (fun _ => ?_)
    · intro y0 y1 y2 y3
      unfold stratumlaw07_PartHexes.j1
      repeat' first
      | (with_reducible exact ih0 _ _ _ _ _ _)
      | (with_reducible exact ih1 _ _ _ _)
      | (with_reducible exact part_Hex.mono _ _)
      | (with_reducible exact stratumlaw07_awake.mono _ _)
      | (with_reducible exact LeO.refl _)
      | (with_reducible exact LeO.none _)
      | (with_reducible refine LeO.ite ?_ ?_)
      | (with_reducible refine LeO.bind ?_ (fun _ => ?_))
      | exact ih0 _ _ _ _ _ _
      | exact ih1 _ _ _ _
      | exact part_Hex.mono _ _
      | exact stratumlaw07_awake.mono _ _
      | exact LeO.none _
      | refine LeO.ite ?_ ?_
      | refine LeO.bind ?_ (fun _ => ?_)
theorem stratumlaw07_PartHexes.mono : ∀ a0 a1 a2 a3 k, LeO (stratumlaw07_PartHexes.f k a0 a1 a2 a3) (stratumlaw07_PartHexes.f (k + 1) a0 a1 a2 a3) := by
  intro a0 a1 a2 a3 k
  obtain ⟨ih0, ih1⟩ := stratumlaw07_PartHexes.mono_l k
  unfold stratumlaw07_PartHexes.f
  repeat' first
      | (with_reducible exact ih0 _ _ _ _ _ _)
      | (with_reducible exact ih1 _ _ _ _)
      | (with_reducible exact part_Hex.mono _ _)
      | (with_reducible exact stratumlaw07_awake.mono _ _)
      | (with_reducible exact LeO.refl _)
      | (with_reducible exact LeO.none _)
      | (with_reducible refine LeO.ite ?_ ?_)
      | (with_reducible refine LeO.bind ?_ (fun _ => ?_))
      | exact ih0 _ _ _ _ _ _
      | exact ih1 _ _ _ _
      | exact part_Hex.mono _ _
      | exact stratumlaw07_awake.mono _ _
      | exact LeO.none _
      | refine LeO.ite ?_ ?_
      | refine LeO.bind ?_ (fun _ => ?_)
def stratumlaw07_PartHexes.T10 : Bool × List (List Nat × List Nat) := (true, [([], []), ([], []), ([], []), ([1, 2], [1, 2]), ([3], [3]), ([4], [4]), ([], []), ([], []), ([6, 7], [6, 7]), ([8], [8]), ([9], [9]), ([5, 10], [5, 10]), ([0, 11], [0, 11]), ([12, 12, 0, 1, 2, 3, 4, 5, 6, 7, 8, 9, 10, 11, 12], [0, 12])])
def stratumlaw07_PartHexes.B10 : List Nat := [0, 0, 0, 6, 14, 30, 0, 0, 192, 448, 960, 2046, 4095, 8191]
theorem stratumlaw07_PartHexes.tab10 : rtab .any (opsOf Try.f8 10) = stratumlaw07_PartHexes.T10 := by kernel_rfl
theorem stratumlaw07_PartHexes.bits10 : waitsOk stratumlaw07_PartHexes.T10.2 stratumlaw07_PartHexes.B10 = true := by kernel_rfl
def stratumlaw07_PartHexes.T11 : Bool × List (List Nat × List Nat) := (true, [([], []), ([], []), ([], []), ([1, 2], [1, 2]), ([3], [3]), ([4], [4]), ([], []), ([], []), ([6, 7], [6, 7]), ([8], [8]), ([9], [9]), ([5, 10], [5, 10]), ([0, 11], [0, 11]), ([12, 12, 0, 1, 2, 3, 4, 5, 6, 7, 8, 9, 10, 11, 12], [0, 12])])
def stratumlaw07_PartHexes.B11 : List Nat := [0, 0, 0, 6, 14, 30, 0, 0, 192, 448, 960, 2046, 4095, 8191]
theorem stratumlaw07_PartHexes.tab11 : rtab .any (opsOf Try.f8 11) = stratumlaw07_PartHexes.T11 := by kernel_rfl
theorem stratumlaw07_PartHexes.bits11 : waitsOk stratumlaw07_PartHexes.T11.2 stratumlaw07_PartHexes.B11 = true := by kernel_rfl
set_option maxHeartbeats 8000000 in
set_option maxRecDepth 100000 in
theorem stratumlaw07_PartHexes.calls (k : Nat) (a0 : ByteArray) (a1 : Int) (a2 : Int) (lG : List Int) (r : Bool) (w : World) (hrG : Kd.C (Kd.int .i64) w (some ⟨0, 0, none⟩) lG.length lG) (hcG : lG.length ≤ 1) (h : stratumlaw07_PartHexes.f k a0 a1 a2 lG = some r) :
    Calls Try.prog 8 #[.string a0, .int .i64 a1, .int .u8 a2] w fun e w' => e = .returned (.bool r) ∧ Below w.heap.size w w' := by
  have HRG := Aside0.mk hrG
  have HCG := Aside0.mk hcG
  clear hrG hcG
  have HB := Aside0.mk (Below.refl w.heap.size w)
  have H : ((stratumlaw07_awake.f k lG).bind fun t187 => (if t187 = true then (stratumlaw07_PartHexes.l0 k a0 a1 a2 ([] : List Int) ([] : List Int) 0) else (some false))) = some r := h
  clear h
  replace H := Option.bind_eq_some_iff.mp H
  obtain ⟨t187, A50, H⟩ := H
  replace H : (if t187 = true then (stratumlaw07_PartHexes.l0 k a0 a1 a2 ([] : List Int) ([] : List Int) 0) else (some false)) = some r := H
  have A5 := Aside0.mk A50
  clear A50
  by_cases c6 : t187 = true
  · subst c6
    have H1 : (stratumlaw07_PartHexes.l0 k a0 a1 a2 ([] : List Int) ([] : List Int) 0) = some r := by rw [if_pos rfl] at H; exact H
    clear H
    have H := H1
    clear H1
    have H' := Aside0.mk H
    clear H
    go_enter Try.func8, Try.ntmps8
    go_wp2_with (first | ((with_reducible refine gate_callee (f := 9) rfl ?_); refine goesL_ (some 22) rfl rfl Try.func9 (by kernel_rfl) rfl #[] rfl (by (try simp only [List.map_toArray, List.map_cons, List.map_nil]); first | done | rfl | (simp only [List.length_drop, List.length_take]; rfl)) ?_; (with_reducible refine (stratumlaw07_awake.calls k lG true _ ?side1 ?side2 A5.out).mono ?_); (case side1 => repeat (first | exact HRG.out | (with_reducible refine Kd.C_alloc ?_ _) | (with_reducible refine Kd.C_drewN ?_ _) | (with_reducible refine Kd.C_drew ?_))); (case side2 => exact HCG.out); rintro e w7 ⟨rfl, hb⟩; refine ⟨_, rfl, ?_⟩; have n0_ := Aside0.mk (below_step (by repeat (first | (with_reducible first | exact HB.out | apply below_alloc | apply pw_below_drewN | apply below_drew1) | exact HB.out)) hb); clear HB; have HB := n0_; clear n0_; (try clear hb); (try clear hb2); (try clear hk); (try clear hi)))
    go_loopg [9, 10, 11] k (fun kq v9 v10 v11 w' => ∃ (x9_1 : List Int) (x10_1 : List Int) (x11_1 : Int), v11 = .int .i64 x11_1 ∧ Aside0 (stratumlaw07_PartHexes.l0 kq a0 a1 a2 x9_1 x10_1 x11_1 = some r) ∧ Aside0 (kq ≤ k) ∧ Aside0 (Kd.R (Kd.int .u8) 5 w' w.heap.size (fun k_ => some k_ ≠ (v10 : Value).ownBlock) v9 x9_1) ∧ Aside0 (Kd.R (Kd.int .u8) 5 w' w.heap.size (fun k_ => some k_ ≠ (v9 : Value).ownBlock) v10 x10_1) ∧ Aside0 (Below w.heap.size w w'))
    case atStart => exact ⟨(([] : List Int)), (([] : List Int)), (0), (by first | rfl | (simp; done) | (simp [*]; done)), H', ⟨Nat.le_refl _⟩, ⟨by first | exact Kd.R_nil _ _ _ _ _ | exact Kd.N_nil _ _ _ _ _ | exact Kd.V_nil _ _ _ _ _ | exact Kd.Q_nil _ _ _ _ _ | exact Kd.S_nil _ _ _ _ _⟩, ⟨by first | exact Kd.R_nil _ _ _ _ _ | exact Kd.N_nil _ _ _ _ _ | exact Kd.V_nil _ _ _ _ _ | exact Kd.Q_nil _ _ _ _ _ | exact Kd.S_nil _ _ _ _ _⟩, ⟨by repeat (first | (with_reducible first | exact HB.out | apply below_alloc | apply pw_below_drewN | apply below_drew1) | exact HB.out)⟩⟩
    case round =>
      clear H'
      try clear p2
      try clear c6
      obtain ⟨x9_1, x10_1, x11_1, rfl, HA, HK1, HO_9, HO_10, HB⟩ := hrel
      cases gk with
      | zero => exact absurd HA.out (by simp [stratumlaw07_PartHexes.l0])
      | succ k1 =>
        have H := HA.out
        clear HA
        simp only [stratumlaw07_PartHexes.l0] at H
        by_cases c8 : x11_1 < (a0.size : Int)
        · rw [if_pos c8] at H
          have c8b0 : decide (x11_1 < (a0.size : Int)) = true := decide_eq_true c8
          clear c8
          by_cases c9 : 0 ≤ x11_1
          · rw [if_pos c9] at H
            have c9b0 : decide (0 ≤ x11_1) = true := decide_eq_true c9
            clear c9
            obtain ⟨ji11, hji11⟩ : ∃ j_ : Int, ((Int.tdiv (bt a0 x11_1) 16) % 256) = j_ := ⟨_, rfl⟩
            have jzji11 : IntKind.u8.wrap (Int.tdiv (bt a0 x11_1) 16) = ji11 := by rw [IntKind.wrap_u8]; exact hji11
            replace H : (if 0 ≤ (ji11) then (if (ji11) < 16 then (if 0 ≤ (Int.tmod (bt a0 x11_1) 16) then (if (Int.tmod (bt a0 x11_1) 16) < 16 then ((some (([bt (⟨#[48, 49, 50, 51, 52, 53, 54, 55, 56, 57, 97, 98, 99, 100, 101, 102]⟩ : ByteArray) (ji11), bt (⟨#[48, 49, 50, 51, 52, 53, 54, 55, 56, 57, 97, 98, 99, 100, 101, 102]⟩ : ByteArray) (Int.tmod (bt a0 x11_1) 16)] : List Int) : List Int)).bind fun y188 => (if x9_1.length + y188.length < 140737488355328 then ((some (([bt (⟨#[48, 49, 50, 51, 52, 53, 54, 55, 56, 57, 65, 66, 67, 68, 69, 70]⟩ : ByteArray) (ji11), bt (⟨#[48, 49, 50, 51, 52, 53, 54, 55, 56, 57, 65, 66, 67, 68, 69, 70]⟩ : ByteArray) (Int.tmod (bt a0 x11_1) 16)] : List Int) : List Int)).bind fun y194 => (if x10_1.length + y194.length < 140737488355328 then (stratumlaw07_PartHexes.l0 k1 a0 a1 a2 (x9_1 ++ y188) (x10_1 ++ y194) (wrap64 (x11_1 + 1))) else (none))) else (none))) else (none)) else (none)) else (none)) else (none)) = some r := by first | (rw [hji11] at H; exact H) | (simp only [hji11] at H ⊢; exact H)
            by_cases c12 : 0 ≤ (ji11)
            · rw [if_pos c12] at H
              have c12b0 : decide (0 ≤ (ji11)) = true := decide_eq_true c12
              clear c12
              by_cases c13 : (ji11) < 16
              · rw [if_pos c13] at H
                have c13b0 : decide ((ji11) < 16) = true := decide_eq_true c13
                clear c13
                obtain ⟨ji16, hji16⟩ : ∃ j_ : Int, (Int.tmod (bt a0 x11_1) 16) = j_ := ⟨_, rfl⟩
                replace H : (if 0 ≤ (ji16) then (if (ji16) < 16 then ((some (([bt (⟨#[48, 49, 50, 51, 52, 53, 54, 55, 56, 57, 97, 98, 99, 100, 101, 102]⟩ : ByteArray) (ji11), bt (⟨#[48, 49, 50, 51, 52, 53, 54, 55, 56, 57, 97, 98, 99, 100, 101, 102]⟩ : ByteArray) (ji16)] : List Int) : List Int)).bind fun y188 => (if x9_1.length + y188.length < 140737488355328 then ((some (([bt (⟨#[48, 49, 50, 51, 52, 53, 54, 55, 56, 57, 65, 66, 67, 68, 69, 70]⟩ : ByteArray) (ji11), bt (⟨#[48, 49, 50, 51, 52, 53, 54, 55, 56, 57, 65, 66, 67, 68, 69, 70]⟩ : ByteArray) (ji16)] : List Int) : List Int)).bind fun y194 => (if x10_1.length + y194.length < 140737488355328 then (stratumlaw07_PartHexes.l0 k1 a0 a1 a2 (x9_1 ++ y188) (x10_1 ++ y194) (wrap64 (x11_1 + 1))) else (none))) else (none))) else (none)) else (none)) = some r := by first | (rw [hji16] at H; exact H) | (simp only [hji16] at H ⊢; exact H)
                by_cases c17 : 0 ≤ (ji16)
                · rw [if_pos c17] at H
                  have c17b0 : decide (0 ≤ (ji16)) = true := decide_eq_true c17
                  clear c17
                  by_cases c18 : (ji16) < 16
                  · rw [if_pos c18] at H
                    have c18b0 : decide ((ji16) < 16) = true := decide_eq_true c18
                    clear c18
                    obtain ⟨y188, hy188⟩ : ∃ y_ : List Int, y_ = (([bt (⟨#[48, 49, 50, 51, 52, 53, 54, 55, 56, 57, 97, 98, 99, 100, 101, 102]⟩ : ByteArray) (ji11), bt (⟨#[48, 49, 50, 51, 52, 53, 54, 55, 56, 57, 97, 98, 99, 100, 101, 102]⟩ : ByteArray) (ji16)] : List Int)) := ⟨_, rfl⟩
                    replace H : (if x9_1.length + y188.length < 140737488355328 then ((some (([bt (⟨#[48, 49, 50, 51, 52, 53, 54, 55, 56, 57, 65, 66, 67, 68, 69, 70]⟩ : ByteArray) (ji11), bt (⟨#[48, 49, 50, 51, 52, 53, 54, 55, 56, 57, 65, 66, 67, 68, 69, 70]⟩ : ByteArray) (ji16)] : List Int) : List Int)).bind fun y194 => (if x10_1.length + y194.length < 140737488355328 then (stratumlaw07_PartHexes.l0 k1 a0 a1 a2 (x9_1 ++ y188) (x10_1 ++ y194) (wrap64 (x11_1 + 1))) else (none))) else (none)) = some r := by first | (rw [hy188]; with_reducible exact H) | (have H2_ := (Option.bind_some _ _).symm.trans H; rw [hy188]; with_reducible exact H2_) | (have H2_ := (Option.bind_some _ _).symm.trans H; with_reducible exact H2_) | with_reducible exact H | (rw [hy188]; exact H) | exact H
                    have Ny188 := Aside0.mk hy188
                    clear hy188
                    by_cases c20 : x9_1.length + y188.length < 140737488355328
                    · rw [if_pos c20] at H
                      have LMc20 := Aside0.mk c20
                      clear c20
                      obtain ⟨y191, hy191⟩ : ∃ y_ : List Int, y_ = (x9_1 ++ y188) := ⟨_, rfl⟩
                      replace H : ((some (([bt (⟨#[48, 49, 50, 51, 52, 53, 54, 55, 56, 57, 65, 66, 67, 68, 69, 70]⟩ : ByteArray) (ji11), bt (⟨#[48, 49, 50, 51, 52, 53, 54, 55, 56, 57, 65, 66, 67, 68, 69, 70]⟩ : ByteArray) (ji16)] : List Int) : List Int)).bind fun y194 => (if x10_1.length + y194.length < 140737488355328 then (stratumlaw07_PartHexes.l0 k1 a0 a1 a2 y191 (x10_1 ++ y194) (wrap64 (x11_1 + 1))) else (none))) = some r := by first | (rw [hy191]; with_reducible exact H) | (have H2_ := (Option.bind_some _ _).symm.trans H; rw [hy191]; with_reducible exact H2_) | (have H2_ := (Option.bind_some _ _).symm.trans H; with_reducible exact H2_) | with_reducible exact H | (rw [hy191]; exact H) | exact H
                      have Ny191 := Aside0.mk hy191
                      clear hy191
                      obtain ⟨y194, hy194⟩ : ∃ y_ : List Int, y_ = (([bt (⟨#[48, 49, 50, 51, 52, 53, 54, 55, 56, 57, 65, 66, 67, 68, 69, 70]⟩ : ByteArray) (ji11), bt (⟨#[48, 49, 50, 51, 52, 53, 54, 55, 56, 57, 65, 66, 67, 68, 69, 70]⟩ : ByteArray) (ji16)] : List Int)) := ⟨_, rfl⟩
                      replace H : (if x10_1.length + y194.length < 140737488355328 then (stratumlaw07_PartHexes.l0 k1 a0 a1 a2 y191 (x10_1 ++ y194) (wrap64 (x11_1 + 1))) else (none)) = some r := by first | (rw [hy194]; with_reducible exact H) | (have H2_ := (Option.bind_some _ _).symm.trans H; rw [hy194]; with_reducible exact H2_) | (have H2_ := (Option.bind_some _ _).symm.trans H; with_reducible exact H2_) | with_reducible exact H | (rw [hy194]; exact H) | exact H
                      have Ny194 := Aside0.mk hy194
                      clear hy194
                      by_cases c25 : x10_1.length + y194.length < 140737488355328
                      · rw [if_pos c25] at H
                        have LMc25 := Aside0.mk c25
                        clear c25
                        obtain ⟨y197, hy197⟩ : ∃ y_ : List Int, y_ = (x10_1 ++ y194) := ⟨_, rfl⟩
                        replace H : (stratumlaw07_PartHexes.l0 k1 a0 a1 a2 y191 y197 (wrap64 (x11_1 + 1))) = some r := by first | (rw [hy197]; with_reducible exact H) | (have H2_ := (Option.bind_some _ _).symm.trans H; rw [hy197]; with_reducible exact H2_) | (have H2_ := (Option.bind_some _ _).symm.trans H; with_reducible exact H2_) | with_reducible exact H | (rw [hy197]; exact H) | exact H
                        have Ny197 := Aside0.mk hy197
                        clear hy197
                        have H' := Aside0.mk H
                        clear H
                        try go_wp2
                        have n0_ := Aside0.mk (Kd.R_drew HO_9.out)
                        have n1_ := Aside0.mk (Kd.R_drew HO_10.out)
                        have n2_ := Aside0.mk (below_drew1 HB.out)
                        clear HO_9
                        clear HO_10
                        clear HB
                        have HO_9 := n0_
                        have HO_10 := n1_
                        have HB := n2_
                        clear n0_ n1_ n2_
                        have p10 : 0 ≤ (x11_1 : Int) := of_decide_eq_true (by first | (with_reducible assumption) | assumption)
                        have q10 : x11_1 < (a0.size : Int) := of_decide_eq_true (by first | (with_reducible assumption) | assumption)
                        have hx10 := bt_at a0 x11_1
                        replace p10 := eq_true p10
                        replace q10 := eq_true q10
                        have p14 : 0 ≤ ((ji11) : Int) := of_decide_eq_true (by first | (with_reducible assumption) | assumption)
                        have q14 : (ji11) < (16 : Int) := of_decide_eq_true (by first | (with_reducible assumption) | assumption)
                        have hx14 := bt_at (⟨#[48, 49, 50, 51, 52, 53, 54, 55, 56, 57, 97, 98, 99, 100, 101, 102]⟩ : ByteArray) (ji11)
                        replace p14 := eq_true p14
                        replace q14 := eq_true q14
                        have p15 : 0 ≤ (x11_1 : Int) := of_decide_eq_true (by first | (with_reducible assumption) | assumption)
                        have q15 : x11_1 < (a0.size : Int) := of_decide_eq_true (by first | (with_reducible assumption) | assumption)
                        have hx15 := bt_at a0 x11_1
                        replace p15 := eq_true p15
                        replace q15 := eq_true q15
                        have p19 : 0 ≤ ((ji16) : Int) := of_decide_eq_true (by first | (with_reducible assumption) | assumption)
                        have q19 : (ji16) < (16 : Int) := of_decide_eq_true (by first | (with_reducible assumption) | assumption)
                        have hx19 := bt_at (⟨#[48, 49, 50, 51, 52, 53, 54, 55, 56, 57, 97, 98, 99, 100, 101, 102]⟩ : ByteArray) (ji16)
                        replace p19 := eq_true p19
                        replace q19 := eq_true q19
                        refine start_ (n := 14) (S := fun w' => True) (ds := []) #[false, false, false, false, false, false, false, false, false, false, false, false, false, false] (by kernel_rfl) rfl rfl trivial (fun hHeld => ?_); refine with_tabW stratumlaw07_PartHexes.tab10 stratumlaw07_PartHexes.bits10 (fun HT_ HW_ => ?_)
                        generalize wr.drew = w26 at HO_9 HO_10 HB hHeld ⊢
                        refine pure_ (i := 0) (N := some 30) (v := ?_) (a' := ?_) #[true, false, false, false, false, false, false, false, false, false, false, false, false, false] rfl rfl (any_of HT_.out (by kernel_rfl)) (fun _ _ _ h => h) (Or.inl ⟨by rfl, ?_⟩) ?_ ?_
                        rotate_left
                        · intro w'
                          go_simp
                          with_reducible rfl
                        rotate_left
                        · simp only [Act.put, List.setIfInBounds_toArray, List.set_cons_zero, List.set_cons_succ, i64_w, i32_w]
                          rfl
                        refine pure_ (i := 1) (N := some 31) (v := ?_) (a' := ?_) #[true, true, false, false, false, false, false, false, false, false, false, false, false, false] rfl rfl (any_of HT_.out (by kernel_rfl)) (fun _ _ _ h => h) (Or.inl ⟨by rfl, ?_⟩) ?_ ?_
                        rotate_left
                        · intro w'
                          go_simp
                          with_reducible rfl
                        rotate_left
                        · simp only [Act.put, List.setIfInBounds_toArray, List.set_cons_zero, List.set_cons_succ, i64_w, i32_w]
                          rfl
                        refine pure_ (i := 2) (N := some 32) (v := ?_) (a' := ?_) #[true, true, true, false, false, false, false, false, false, false, false, false, false, false] rfl rfl (any_of HT_.out (by kernel_rfl)) (fun _ _ _ h => h) (Or.inl ⟨by rfl, ?_⟩) ?_ ?_
                        rotate_left
                        · intro w'
                          go_simp
                          with_reducible rfl
                        rotate_left
                        · simp only [Act.put, List.setIfInBounds_toArray, List.set_cons_zero, List.set_cons_succ, i64_w, i32_w]
                          rfl
                        refine pure_ (i := 6) (N := some 36) (v := ?_) (a' := ?_) #[true, true, true, false, false, false, true, false, false, false, false, false, false, false] rfl rfl (any_of HT_.out (by kernel_rfl)) (fun _ _ _ h => h) (Or.inl ⟨by rfl, ?_⟩) ?_ ?_
                        rotate_left
                        · intro w'
                          go_simp
                          with_reducible rfl
                        rotate_left
                        · simp only [Act.put, List.setIfInBounds_toArray, List.set_cons_zero, List.set_cons_succ, i64_w, i32_w]
                          rfl
                        refine pure_ (i := 7) (N := some 37) (v := ?_) (a' := ?_) #[true, true, true, false, false, false, true, true, false, false, false, false, false, false] rfl rfl (any_of HT_.out (by kernel_rfl)) (fun _ _ _ h => h) (Or.inl ⟨by rfl, ?_⟩) ?_ ?_
                        rotate_left
                        · intro w'
                          go_simp
                          with_reducible rfl
                        rotate_left
                        · simp only [Act.put, List.setIfInBounds_toArray, List.set_cons_zero, List.set_cons_succ, i64_w, i32_w]
                          rfl
                        refine take_ (i := 3) (N := some 33) (v := ?_) (a' := ?_) #[true, true, true, true, false, false, true, true, false, false, false, false, false, false] rfl rfl (take_ofW HT_.out HW_.out (by kernel_rfl)) (fun _ _ _ h => h) (Or.inl ⟨by rfl, ?_⟩) hHeld ?_ ?_
                        rotate_left
                        · intro w' _
                          go_simp
                          with_reducible rfl
                        rotate_left
                        · simp only [Act.put, List.setIfInBounds_toArray, List.set_cons_zero, List.set_cons_succ, i64_w, i32_w]
                          rfl
                        refine pure_ (i := 4) (N := some 34) (v := ?_) (a' := ?_) #[true, true, true, true, true, false, true, true, false, false, false, false, false, false] rfl rfl (any_of HT_.out (by kernel_rfl)) (fun _ _ _ h => h) (Or.inl ⟨by rfl, ?_⟩) ?_ ?_
                        rotate_left
                        · intro w'
                          go_simp
                          with_reducible rfl
                        rotate_left
                        · simp only [Act.put, List.setIfInBounds_toArray, List.set_cons_zero, List.set_cons_succ, i64_w, i32_w]
                          rfl
                        refine take_ (i := 5) (N := some 35) (v := ?_) (a' := ?_) #[true, true, true, true, true, true, true, true, false, false, false, false, false, false] rfl rfl (take_ofW HT_.out HW_.out (by kernel_rfl)) (fun _ _ _ h => h) (Or.inl ⟨by rfl, ?_⟩) hHeld ?_ ?_
                        rotate_left
                        · intro w' _
                          go_simp
                          with_reducible rfl
                        rotate_left
                        · simp only [Act.put, List.setIfInBounds_toArray, List.set_cons_zero, List.set_cons_succ, i64_w, i32_w]
                          rfl
                        refine take_ (i := 8) (N := some 38) (v := ?_) (a' := ?_) #[true, true, true, true, true, true, true, true, true, false, false, false, false, false] rfl rfl (take_ofW HT_.out HW_.out (by kernel_rfl)) (fun _ _ _ h => h) (Or.inl ⟨by rfl, ?_⟩) hHeld ?_ ?_
                        rotate_left
                        · intro w' _
                          go_simp
                          with_reducible rfl
                        rotate_left
                        · simp only [Act.put, List.setIfInBounds_toArray, List.set_cons_zero, List.set_cons_succ, i64_w, i32_w]
                          rfl
                        refine pure_ (i := 9) (N := some 39) (v := ?_) (a' := ?_) #[true, true, true, true, true, true, true, true, true, true, false, false, false, false] rfl rfl (any_of HT_.out (by kernel_rfl)) (fun _ _ _ h => h) (Or.inl ⟨by rfl, ?_⟩) ?_ ?_
                        rotate_left
                        · intro w'
                          go_simp
                          with_reducible rfl
                        rotate_left
                        · simp only [Act.put, List.setIfInBounds_toArray, List.set_cons_zero, List.set_cons_succ, i64_w, i32_w]
                          rfl
                        refine take_ (i := 10) (N := some 40) (v := ?_) (a' := ?_) #[true, true, true, true, true, true, true, true, true, true, true, false, false, false] rfl rfl (take_ofW HT_.out HW_.out (by kernel_rfl)) (fun _ _ _ h => h) (Or.inl ⟨by rfl, ?_⟩) hHeld ?_ ?_
                        rotate_left
                        · intro w' _
                          go_simp
                          with_reducible rfl
                        rotate_left
                        · simp only [Act.put, List.setIfInBounds_toArray, List.set_cons_zero, List.set_cons_succ, i64_w, i32_w]
                          rfl
                        refine one_ (i := 11) (N := some 41) #[true, true, true, true, true, true, true, true, true, true, true, true, false, false] rfl rfl (one_of HT_.out (by kernel_rfl)) (by decide) (fun K hK => ?_)
                        refine Kd.R_lit_step (Kd.int .u8) _ 5 ?hg (N := 41) ?hd (xs := ([bt (⟨#[48, 49, 50, 51, 52, 53, 54, 55, 56, 57, 97, 98, 99, 100, 101, 102]⟩ : ByteArray) (ji11), bt (⟨#[48, 49, 50, 51, 52, 53, 54, 55, 56, 57, 97, 98, 99, 100, 101, 102]⟩ : ByteArray) (ji16)] : List Int)) (inner := [.int .u8 (bt (⟨#[48, 49, 50, 51, 52, 53, 54, 55, 56, 57, 97, 98, 99, 100, 101, 102]⟩ : ByteArray) (ji11)), .int .u8 (bt (⟨#[48, 49, 50, 51, 52, 53, 54, 55, 56, 57, 97, 98, 99, 100, 101, 102]⟩ : ByteArray) (ji16))]) (ok := fun _ => True) (okp := fun _ => True) ?hr ?hp (fun _ hk => hk) trivial (Below.refl _ _) (Nat.le_refl _) (by simp) ?_; (case hd => rfl); (case hg => rfl); (case hr => first | (go_simp; done) | (go_simp; rfl)); (case hp => exact (Reps.one (show Kd.M (Kd.int .u8) _ _ _ (bt (⟨#[48, 49, 50, 51, 52, 53, 54, 55, 56, 57, 97, 98, 99, 100, 101, 102]⟩ : ByteArray) (ji11)) [.int .u8 (bt (⟨#[48, 49, 50, 51, 52, 53, 54, 55, 56, 57, 97, 98, 99, 100, 101, 102]⟩ : ByteArray) (ji11))] from rfl) (Reps.one (show Kd.M (Kd.int .u8) _ _ _ (bt (⟨#[48, 49, 50, 51, 52, 53, 54, 55, 56, 57, 97, 98, 99, 100, 101, 102]⟩ : ByteArray) (ji16)) [.int .u8 (bt (⟨#[48, 49, 50, 51, 52, 53, 54, 55, 56, 57, 97, 98, 99, 100, 101, 102]⟩ : ByteArray) (ji16))] from rfl) (Reps.none _ _))))
                        intro v189 w27 ho28 hb hg_ hnew_
                        clear hg_ hnew_
                        (first | rw [← Ny188.out] at ho28 | (simp only [Int.reduceToNat] at ho28; rw [← Ny188.out] at ho28))
                        have n0_ := Aside0.mk (Kd.R_elder' (by (with_reducible repeat (first | apply Kd.R_alloc | apply Kd.R_drewN | apply Kd.R_drew)); exact HO_9.out) (Kd.R_base ho28) hb)
                        have n1_ := Aside0.mk (Kd.R_elder' (by (with_reducible repeat (first | apply Kd.R_alloc | apply Kd.R_drewN | apply Kd.R_drew)); exact HO_10.out) (Kd.R_base ho28) hb)
                        have n2_ := Aside0.mk (Kd.R_lower (Kd.R_new' (Kd.R_new' ho28 (Kd.R_lt (by (with_reducible repeat (first | apply Kd.R_alloc | apply Kd.R_drewN | apply Kd.R_drew)); exact HO_9.out))) (Kd.R_lt (by (with_reducible repeat (first | apply Kd.R_alloc | apply Kd.R_drewN | apply Kd.R_drew)); exact HO_10.out))) (below_size (by repeat (first | (with_reducible first | exact HB.out | apply below_alloc | apply pw_below_drewN | apply below_drew1) | exact HB.out))))
                        have n3_ := Aside0.mk (below_step (by repeat (first | (with_reducible first | exact HB.out | apply below_alloc | apply pw_below_drewN | apply below_drew1) | exact HB.out)) hb)
                        clear HO_9
                        clear HO_10
                        clear HB
                        have HO_9 := n0_
                        have HO_10 := n1_
                        have HO190 := n2_
                        have HB := n3_
                        clear n0_ n1_ n2_ n3_
                        clear hb ho28
                        obtain ⟨Ao30, co30, eo30⟩ := Kd.R_slice HO190.out
                        (first | subst eo30 | (injection eo30 with f1_ f2_ f3_; have f4_ := f1_.symm; have f5_ := f3_.symm; clear f1_ f2_ f3_; subst f4_; subst f5_))
                        refine hK.out _ _ trivial (fun hHeld => ?_)
                        clear hK K
                        refine norm_ (a' := ?_) ?_ ?_
                        rotate_left
                        · show Act.put _ (some 41) _ = _
                          simp only [Act.put, List.setIfInBounds_toArray, List.set_cons_zero, List.set_cons_succ, i64_w, i32_w]
                          rfl
                        refine one_ (i := 12) (N := some 42) #[true, true, true, true, true, true, true, true, true, true, true, true, true, false] rfl rfl (one_of HT_.out (by kernel_rfl)) (by decide) (fun K hK => ?_)
                        refine Kd.R_append_rows_step (Kd.int .u8) (w0 := w) w.heap.size (by rfl) (.tmp 30) (.tmp 41) 39 5 (.int .u8 0) 1 rfl Try.underlying39 info5 rfl (by decide) (by omega) u9 x9_1 y188 _ _ _ (fun k_ => some k_ ≠ (u10 : Value).ownBlock ∧ some k_ ≠ (.slice Ao30 y188.length co30 : Value).ownBlock) (fun _ => False) rfl rfl ?aO ?aR (fun _ _ h => h) (fun _ h => h.elim) ?aF ?aB ?aS ?aL ?_
                        (case aR => repeat (first | exact (Kd.R_reads' HO190.out).2.2 | (with_reducible refine Kd.C_alloc ?_ _) | (with_reducible refine Kd.C_drewN ?_ _) | (with_reducible refine Kd.C_drew ?_)))
                        (case aB => exact (by repeat (first | (with_reducible first | exact HB.out | apply below_alloc | apply pw_below_drewN | apply below_drew1) | exact HB.out)))
                        (case aF => exact (fun k_ hk => ⟨Kd.fresh' (Kd.R_lt (by (with_reducible repeat (first | apply Kd.R_alloc | apply Kd.R_drewN | apply Kd.R_drew)); exact HO_10.out)) k_ hk, Kd.fresh' (Kd.R_lt (by (with_reducible repeat (first | apply Kd.R_alloc | apply Kd.R_drewN | apply Kd.R_drew)); exact HO190.out)) k_ hk⟩))
                        (case aO => exact (by (with_reducible repeat (first | apply Kd.R_alloc | apply Kd.R_drewN | apply Kd.R_drew)); exact HO_9.out))
                        (case aS => exact (below_size (by repeat (first | (with_reducible first | exact HB.out | apply below_alloc | apply pw_below_drewN | apply below_drew1) | exact HB.out))))
                        (case aL => have := LMc20.out; omega)
                        intro v192 w29 ho hb hg hat
                        rw [← Ny191.out] at ho
                        have n0_ := Aside0.mk (Kd.R_after (ok := (fun k_ => some k_ ≠ (.slice Ao30 y188.length co30 : Value).ownBlock)) (by (with_reducible repeat (first | apply Kd.R_alloc | apply Kd.R_drewN | apply Kd.R_drew)); exact Kd.R_mono HO_10.out (fun _ hk => ⟨hk.2, hk.1⟩)) hg hat)
                        have n1_ := Aside0.mk (Kd.R_after (ok := (fun k_ => some k_ ≠ (u10 : Value).ownBlock)) (by (with_reducible repeat (first | apply Kd.R_alloc | apply Kd.R_drewN | apply Kd.R_drew)); exact Kd.R_mono HO190.out (fun _ hk => ⟨hk.2, hk.1.2⟩)) hg hat)
                        have n2_ := Aside0.mk (hb)
                        have n3_ := Aside0.mk (ho)
                        clear HO_10
                        clear HO190
                        clear HB
                        clear HO_9
                        have HO_10 := n0_
                        have HO190 := n1_
                        have HB := n2_
                        have HO193 := n3_
                        clear n0_ n1_ n2_ n3_
                        clear ho hb hg hat
                        refine hK.out _ _ trivial (fun hHeld => ?_)
                        clear hK K
                        refine norm_ (a' := ?_) ?_ ?_
                        rotate_left
                        · show Act.put _ (some 42) _ = _
                          simp only [Act.put, List.setIfInBounds_toArray, List.set_cons_zero, List.set_cons_succ, i64_w, i32_w]
                          rfl
                        refine pure_ (i := 13) (N := some 9) (v := ?_) (a' := ?_) #[true, true, true, true, true, true, true, true, true, true, true, true, true, true] rfl rfl (any_of HT_.out (by kernel_rfl)) (fun _ _ _ h => h) (Or.inl ⟨by rfl, ?_⟩) ?_ ?_
                        rotate_left
                        · intro w'
                          go_simp
                          with_reducible rfl
                        rotate_left
                        · simp only [Act.put, List.setIfInBounds_toArray, List.set_cons_zero, List.set_cons_succ, i64_w, i32_w]
                          rfl
                        refine done_ (done_of HT_.out (by kernel_rfl)) ?_
                        try go_wp2
                        have n0_ := Aside0.mk (Kd.R_drew HO_10.out)
                        have n1_ := Aside0.mk (Kd.R_drew HO190.out)
                        have n2_ := Aside0.mk (Kd.R_drew HO193.out)
                        have n3_ := Aside0.mk (below_drew1 HB.out)
                        clear HO_10
                        clear HO190
                        clear HO193
                        clear HB
                        have HO_10 := n0_
                        have HO190 := n1_
                        have HO193 := n2_
                        have HB := n3_
                        clear n0_ n1_ n2_ n3_
                        have p21 : 0 ≤ (x11_1 : Int) := of_decide_eq_true (by first | (with_reducible assumption) | assumption)
                        have q21 : x11_1 < (a0.size : Int) := of_decide_eq_true (by first | (with_reducible assumption) | assumption)
                        have hx21 := bt_at a0 x11_1
                        replace p21 := eq_true p21
                        replace q21 := eq_true q21
                        have p22 : 0 ≤ ((ji11) : Int) := of_decide_eq_true (by first | (with_reducible assumption) | assumption)
                        have q22 : (ji11) < (16 : Int) := of_decide_eq_true (by first | (with_reducible assumption) | assumption)
                        have hx22 := bt_at (⟨#[48, 49, 50, 51, 52, 53, 54, 55, 56, 57, 65, 66, 67, 68, 69, 70]⟩ : ByteArray) (ji11)
                        replace p22 := eq_true p22
                        replace q22 := eq_true q22
                        have p23 : 0 ≤ (x11_1 : Int) := of_decide_eq_true (by first | (with_reducible assumption) | assumption)
                        have q23 : x11_1 < (a0.size : Int) := of_decide_eq_true (by first | (with_reducible assumption) | assumption)
                        have hx23 := bt_at a0 x11_1
                        replace p23 := eq_true p23
                        replace q23 := eq_true q23
                        have p24 : 0 ≤ ((ji16) : Int) := of_decide_eq_true (by first | (with_reducible assumption) | assumption)
                        have q24 : (ji16) < (16 : Int) := of_decide_eq_true (by first | (with_reducible assumption) | assumption)
                        have hx24 := bt_at (⟨#[48, 49, 50, 51, 52, 53, 54, 55, 56, 57, 65, 66, 67, 68, 69, 70]⟩ : ByteArray) (ji16)
                        replace p24 := eq_true p24
                        replace q24 := eq_true q24
                        refine start_ (n := 14) (S := fun w' => True) (ds := []) #[false, false, false, false, false, false, false, false, false, false, false, false, false, false] (by kernel_rfl) rfl rfl trivial (fun hHeld => ?_); refine with_tabW stratumlaw07_PartHexes.tab11 stratumlaw07_PartHexes.bits11 (fun HT_ HW_ => ?_)
                        generalize w29.drew = w31 at HO_10 HO190 HO193 HB hHeld ⊢
                        refine pure_ (i := 0) (N := some 43) (v := ?_) (a' := ?_) #[true, false, false, false, false, false, false, false, false, false, false, false, false, false] rfl rfl (any_of HT_.out (by kernel_rfl)) (fun _ _ _ h => h) (Or.inl ⟨by rfl, ?_⟩) ?_ ?_
                        rotate_left
                        · intro w'
                          go_simp
                          with_reducible rfl
                        rotate_left
                        · simp only [Act.put, List.setIfInBounds_toArray, List.set_cons_zero, List.set_cons_succ, i64_w, i32_w]
                          rfl
                        refine pure_ (i := 1) (N := some 44) (v := ?_) (a' := ?_) #[true, true, false, false, false, false, false, false, false, false, false, false, false, false] rfl rfl (any_of HT_.out (by kernel_rfl)) (fun _ _ _ h => h) (Or.inl ⟨by rfl, ?_⟩) ?_ ?_
                        rotate_left
                        · intro w'
                          go_simp
                          with_reducible rfl
                        rotate_left
                        · simp only [Act.put, List.setIfInBounds_toArray, List.set_cons_zero, List.set_cons_succ, i64_w, i32_w]
                          rfl
                        refine pure_ (i := 2) (N := some 45) (v := ?_) (a' := ?_) #[true, true, true, false, false, false, false, false, false, false, false, false, false, false] rfl rfl (any_of HT_.out (by kernel_rfl)) (fun _ _ _ h => h) (Or.inl ⟨by rfl, ?_⟩) ?_ ?_
                        rotate_left
                        · intro w'
                          go_simp
                          with_reducible rfl
                        rotate_left
                        · simp only [Act.put, List.setIfInBounds_toArray, List.set_cons_zero, List.set_cons_succ, i64_w, i32_w]
                          rfl
                        refine pure_ (i := 6) (N := some 49) (v := ?_) (a' := ?_) #[true, true, true, false, false, false, true, false, false, false, false, false, false, false] rfl rfl (any_of HT_.out (by kernel_rfl)) (fun _ _ _ h => h) (Or.inl ⟨by rfl, ?_⟩) ?_ ?_
                        rotate_left
                        · intro w'
                          go_simp
                          with_reducible rfl
                        rotate_left
                        · simp only [Act.put, List.setIfInBounds_toArray, List.set_cons_zero, List.set_cons_succ, i64_w, i32_w]
                          rfl
                        refine pure_ (i := 7) (N := some 50) (v := ?_) (a' := ?_) #[true, true, true, false, false, false, true, true, false, false, false, false, false, false] rfl rfl (any_of HT_.out (by kernel_rfl)) (fun _ _ _ h => h) (Or.inl ⟨by rfl, ?_⟩) ?_ ?_
                        rotate_left
                        · intro w'
                          go_simp
                          with_reducible rfl
                        rotate_left
                        · simp only [Act.put, List.setIfInBounds_toArray, List.set_cons_zero, List.set_cons_succ, i64_w, i32_w]
                          rfl
                        refine take_ (i := 3) (N := some 46) (v := ?_) (a' := ?_) #[true, true, true, true, false, false, true, true, false, false, false, false, false, false] rfl rfl (take_ofW HT_.out HW_.out (by kernel_rfl)) (fun _ _ _ h => h) (Or.inl ⟨by rfl, ?_⟩) hHeld ?_ ?_
                        rotate_left
                        · intro w' _
                          go_simp
                          with_reducible rfl
                        rotate_left
                        · simp only [Act.put, List.setIfInBounds_toArray, List.set_cons_zero, List.set_cons_succ, i64_w, i32_w]
                          rfl
                        refine pure_ (i := 4) (N := some 47) (v := ?_) (a' := ?_) #[true, true, true, true, true, false, true, true, false, false, false, false, false, false] rfl rfl (any_of HT_.out (by kernel_rfl)) (fun _ _ _ h => h) (Or.inl ⟨by rfl, ?_⟩) ?_ ?_
                        rotate_left
                        · intro w'
                          go_simp
                          with_reducible rfl
                        rotate_left
                        · simp only [Act.put, List.setIfInBounds_toArray, List.set_cons_zero, List.set_cons_succ, i64_w, i32_w]
                          rfl
                        refine take_ (i := 5) (N := some 48) (v := ?_) (a' := ?_) #[true, true, true, true, true, true, true, true, false, false, false, false, false, false] rfl rfl (take_ofW HT_.out HW_.out (by kernel_rfl)) (fun _ _ _ h => h) (Or.inl ⟨by rfl, ?_⟩) hHeld ?_ ?_
                        rotate_left
                        · intro w' _
                          go_simp
                          with_reducible rfl
                        rotate_left
                        · simp only [Act.put, List.setIfInBounds_toArray, List.set_cons_zero, List.set_cons_succ, i64_w, i32_w]
                          rfl
                        refine take_ (i := 8) (N := some 51) (v := ?_) (a' := ?_) #[true, true, true, true, true, true, true, true, true, false, false, false, false, false] rfl rfl (take_ofW HT_.out HW_.out (by kernel_rfl)) (fun _ _ _ h => h) (Or.inl ⟨by rfl, ?_⟩) hHeld ?_ ?_
                        rotate_left
                        · intro w' _
                          go_simp
                          with_reducible rfl
                        rotate_left
                        · simp only [Act.put, List.setIfInBounds_toArray, List.set_cons_zero, List.set_cons_succ, i64_w, i32_w]
                          rfl
                        refine pure_ (i := 9) (N := some 52) (v := ?_) (a' := ?_) #[true, true, true, true, true, true, true, true, true, true, false, false, false, false] rfl rfl (any_of HT_.out (by kernel_rfl)) (fun _ _ _ h => h) (Or.inl ⟨by rfl, ?_⟩) ?_ ?_
                        rotate_left
                        · intro w'
                          go_simp
                          with_reducible rfl
                        rotate_left
                        · simp only [Act.put, List.setIfInBounds_toArray, List.set_cons_zero, List.set_cons_succ, i64_w, i32_w]
                          rfl
                        refine take_ (i := 10) (N := some 53) (v := ?_) (a' := ?_) #[true, true, true, true, true, true, true, true, true, true, true, false, false, false] rfl rfl (take_ofW HT_.out HW_.out (by kernel_rfl)) (fun _ _ _ h => h) (Or.inl ⟨by rfl, ?_⟩) hHeld ?_ ?_
                        rotate_left
                        · intro w' _
                          go_simp
                          with_reducible rfl
                        rotate_left
                        · simp only [Act.put, List.setIfInBounds_toArray, List.set_cons_zero, List.set_cons_succ, i64_w, i32_w]
                          rfl
                        refine one_ (i := 11) (N := some 54) #[true, true, true, true, true, true, true, true, true, true, true, true, false, false] rfl rfl (one_of HT_.out (by kernel_rfl)) (by decide) (fun K hK => ?_)
                        refine Kd.R_lit_step (Kd.int .u8) _ 5 ?hg (N := 54) ?hd (xs := ([bt (⟨#[48, 49, 50, 51, 52, 53, 54, 55, 56, 57, 65, 66, 67, 68, 69, 70]⟩ : ByteArray) (ji11), bt (⟨#[48, 49, 50, 51, 52, 53, 54, 55, 56, 57, 65, 66, 67, 68, 69, 70]⟩ : ByteArray) (ji16)] : List Int)) (inner := [.int .u8 (bt (⟨#[48, 49, 50, 51, 52, 53, 54, 55, 56, 57, 65, 66, 67, 68, 69, 70]⟩ : ByteArray) (ji11)), .int .u8 (bt (⟨#[48, 49, 50, 51, 52, 53, 54, 55, 56, 57, 65, 66, 67, 68, 69, 70]⟩ : ByteArray) (ji16))]) (ok := fun _ => True) (okp := fun _ => True) ?hr ?hp (fun _ hk => hk) trivial (Below.refl _ _) (Nat.le_refl _) (by simp) ?_; (case hd => rfl); (case hg => rfl); (case hr => first | (go_simp; done) | (go_simp; rfl)); (case hp => exact (Reps.one (show Kd.M (Kd.int .u8) _ _ _ (bt (⟨#[48, 49, 50, 51, 52, 53, 54, 55, 56, 57, 65, 66, 67, 68, 69, 70]⟩ : ByteArray) (ji11)) [.int .u8 (bt (⟨#[48, 49, 50, 51, 52, 53, 54, 55, 56, 57, 65, 66, 67, 68, 69, 70]⟩ : ByteArray) (ji11))] from rfl) (Reps.one (show Kd.M (Kd.int .u8) _ _ _ (bt (⟨#[48, 49, 50, 51, 52, 53, 54, 55, 56, 57, 65, 66, 67, 68, 69, 70]⟩ : ByteArray) (ji16)) [.int .u8 (bt (⟨#[48, 49, 50, 51, 52, 53, 54, 55, 56, 57, 65, 66, 67, 68, 69, 70]⟩ : ByteArray) (ji16))] from rfl) (Reps.none _ _))))
                        intro v195 w32 ho33 hb hg_ hnew_
                        clear hg_ hnew_
                        (first | rw [← Ny194.out] at ho33 | (simp only [Int.reduceToNat] at ho33; rw [← Ny194.out] at ho33))
                        have n0_ := Aside0.mk (Kd.R_elder' (by (with_reducible repeat (first | apply Kd.R_alloc | apply Kd.R_drewN | apply Kd.R_drew)); exact HO_10.out) (Kd.R_base ho33) hb)
                        have n1_ := Aside0.mk (Kd.R_elder' (by (with_reducible repeat (first | apply Kd.R_alloc | apply Kd.R_drewN | apply Kd.R_drew)); exact HO190.out) (Kd.R_base ho33) hb)
                        have n2_ := Aside0.mk (Kd.R_elder' (by (with_reducible repeat (first | apply Kd.R_alloc | apply Kd.R_drewN | apply Kd.R_drew)); exact HO193.out) (Kd.R_base ho33) hb)
                        have n3_ := Aside0.mk (Kd.R_lower (Kd.R_new' (Kd.R_new' (Kd.R_new' ho33 (Kd.R_lt (by (with_reducible repeat (first | apply Kd.R_alloc | apply Kd.R_drewN | apply Kd.R_drew)); exact HO_10.out))) (Kd.R_lt (by (with_reducible repeat (first | apply Kd.R_alloc | apply Kd.R_drewN | apply Kd.R_drew)); exact HO190.out))) (Kd.R_lt (by (with_reducible repeat (first | apply Kd.R_alloc | apply Kd.R_drewN | apply Kd.R_drew)); exact HO193.out))) (below_size (by repeat (first | (with_reducible first | exact HB.out | apply below_alloc | apply pw_below_drewN | apply below_drew1) | exact HB.out))))
                        have n4_ := Aside0.mk (below_step (by repeat (first | (with_reducible first | exact HB.out | apply below_alloc | apply pw_below_drewN | apply below_drew1) | exact HB.out)) hb)
                        clear HO_10
                        clear HO190
                        clear HO193
                        clear HB
                        have HO_10 := n0_
                        have HO190 := n1_
                        have HO193 := n2_
                        have HO196 := n3_
                        have HB := n4_
                        clear n0_ n1_ n2_ n3_ n4_
                        clear hb ho33
                        obtain ⟨Ao35, co35, eo35⟩ := Kd.R_slice HO196.out
                        (first | subst eo35 | (injection eo35 with f1_ f2_ f3_; have f4_ := f1_.symm; have f5_ := f3_.symm; clear f1_ f2_ f3_; subst f4_; subst f5_))
                        refine hK.out _ _ trivial (fun hHeld => ?_)
                        clear hK K
                        refine norm_ (a' := ?_) ?_ ?_
                        rotate_left
                        · show Act.put _ (some 54) _ = _
                          simp only [Act.put, List.setIfInBounds_toArray, List.set_cons_zero, List.set_cons_succ, i64_w, i32_w]
                          rfl
                        refine one_ (i := 12) (N := some 55) #[true, true, true, true, true, true, true, true, true, true, true, true, true, false] rfl rfl (one_of HT_.out (by kernel_rfl)) (by decide) (fun K hK => ?_)
                        refine Kd.R_append_rows_step (Kd.int .u8) (w0 := w) w.heap.size (by rfl) (.tmp 43) (.tmp 54) 39 5 (.int .u8 0) 1 rfl Try.underlying39 info5 rfl (by decide) (by omega) u10 x10_1 y194 _ _ _ (fun k_ => some k_ ≠ (.slice Ao30 y188.length co30 : Value).ownBlock ∧ some k_ ≠ (v192 : Value).ownBlock ∧ some k_ ≠ (.slice Ao35 y194.length co35 : Value).ownBlock) (fun _ => False) rfl rfl ?aO ?aR (fun _ _ h => h) (fun _ h => h.elim) ?aF ?aB ?aS ?aL ?_
                        (case aR => repeat (first | exact (Kd.R_reads' HO196.out).2.2 | (with_reducible refine Kd.C_alloc ?_ _) | (with_reducible refine Kd.C_drewN ?_ _) | (with_reducible refine Kd.C_drew ?_)))
                        (case aB => exact (by repeat (first | (with_reducible first | exact HB.out | apply below_alloc | apply pw_below_drewN | apply below_drew1) | exact HB.out)))
                        (case aF => exact (fun k_ hk => ⟨Kd.fresh' (Kd.R_lt (by (with_reducible repeat (first | apply Kd.R_alloc | apply Kd.R_drewN | apply Kd.R_drew)); exact HO190.out)) k_ hk, Kd.fresh' (Kd.R_lt (by (with_reducible repeat (first | apply Kd.R_alloc | apply Kd.R_drewN | apply Kd.R_drew)); exact HO193.out)) k_ hk, Kd.fresh' (Kd.R_lt (by (with_reducible repeat (first | apply Kd.R_alloc | apply Kd.R_drewN | apply Kd.R_drew)); exact HO196.out)) k_ hk⟩))
                        (case aO => exact (by (with_reducible repeat (first | apply Kd.R_alloc | apply Kd.R_drewN | apply Kd.R_drew)); exact Kd.R_mono HO_10.out (fun _ hk => ⟨hk.1.1, ⟨hk.1.2, hk.2⟩⟩)))
                        (case aS => exact (below_size (by repeat (first | (with_reducible first | exact HB.out | apply below_alloc | apply pw_below_drewN | apply below_drew1) | exact HB.out))))
                        (case aL => have := LMc25.out; omega)
                        intro v198 w34 ho hb hg hat
                        rw [← Ny197.out] at ho
                        have n0_ := Aside0.mk (Kd.R_after (ok := (fun k_ => some k_ ≠ (v192 : Value).ownBlock ∧ some k_ ≠ (.slice Ao35 y194.length co35 : Value).ownBlock)) (by (with_reducible repeat (first | apply Kd.R_alloc | apply Kd.R_drewN | apply Kd.R_drew)); exact Kd.R_mono HO190.out (fun _ hk => ⟨⟨hk.1.2, hk.2⟩, hk.1.1⟩)) hg hat)
                        have n1_ := Aside0.mk (Kd.R_after (ok := (fun k_ => some k_ ≠ (.slice Ao30 y188.length co30 : Value).ownBlock ∧ some k_ ≠ (.slice Ao35 y194.length co35 : Value).ownBlock)) (by (with_reducible repeat (first | apply Kd.R_alloc | apply Kd.R_drewN | apply Kd.R_drew)); exact Kd.R_mono HO193.out (fun _ hk => ⟨⟨hk.1.2, hk.2⟩, hk.1.1⟩)) hg hat)
                        have n2_ := Aside0.mk (Kd.R_after (ok := (fun k_ => some k_ ≠ (.slice Ao30 y188.length co30 : Value).ownBlock ∧ some k_ ≠ (v192 : Value).ownBlock)) (by (with_reducible repeat (first | apply Kd.R_alloc | apply Kd.R_drewN | apply Kd.R_drew)); exact Kd.R_mono HO196.out (fun _ hk => ⟨⟨hk.1.2, hk.2⟩, hk.1.1.2⟩)) hg hat)
                        have n3_ := Aside0.mk (hb)
                        have n4_ := Aside0.mk (ho)
                        clear HO190
                        clear HO193
                        clear HO196
                        clear HB
                        clear HO_10
                        have HO190 := n0_
                        have HO193 := n1_
                        have HO196 := n2_
                        have HB := n3_
                        have HO199 := n4_
                        clear n0_ n1_ n2_ n3_ n4_
                        clear ho hb hg hat
                        refine hK.out _ _ trivial (fun hHeld => ?_)
                        clear hK K
                        refine norm_ (a' := ?_) ?_ ?_
                        rotate_left
                        · show Act.put _ (some 55) _ = _
                          simp only [Act.put, List.setIfInBounds_toArray, List.set_cons_zero, List.set_cons_succ, i64_w, i32_w]
                          rfl
                        refine pure_ (i := 13) (N := some 10) (v := ?_) (a' := ?_) #[true, true, true, true, true, true, true, true, true, true, true, true, true, true] rfl rfl (any_of HT_.out (by kernel_rfl)) (fun _ _ _ h => h) (Or.inl ⟨by rfl, ?_⟩) ?_ ?_
                        rotate_left
                        · intro w'
                          go_simp
                          with_reducible rfl
                        rotate_left
                        · simp only [Act.put, List.setIfInBounds_toArray, List.set_cons_zero, List.set_cons_succ, i64_w, i32_w]
                          rfl
                        refine done_ (done_of HT_.out (by kernel_rfl)) ?_
                        try go_wp2
                        go_roundg k1
                        case measure => have := HK1.out; omega
                        case rel => exact ⟨(y191), (y197), (wrap64 (x11_1 + 1)), (by first | rfl | (simp; done) | (simp [*]; done)), H', ⟨by have := HK1.out; omega⟩, ⟨by (with_reducible repeat (first | apply Kd.R_alloc | apply Kd.R_drewN | apply Kd.R_drew)); exact Kd.R_mono HO193.out (fun _ hk => hk.2)⟩, ⟨by (with_reducible repeat (first | apply Kd.R_alloc | apply Kd.R_drewN | apply Kd.R_drew)); exact Kd.R_mono HO199.out (fun _ hk => hk.2.1)⟩, ⟨by repeat (first | (with_reducible first | exact HB.out | apply below_alloc | apply pw_below_drewN | apply below_drew1) | exact HB.out)⟩⟩
                      · rw [if_neg c25] at H
                        exact absurd H (by simp)
                    · rw [if_neg c20] at H
                      exact absurd H (by simp)
                  · rw [if_neg c18] at H
                    exact absurd H (by simp)
                · rw [if_neg c17] at H
                  exact absurd H (by simp)
              · rw [if_neg c13] at H
                exact absurd H (by simp)
            · rw [if_neg c12] at H
              exact absurd H (by simp)
          · rw [if_neg c9] at H
            exact absurd H (by simp)
        · rw [if_neg c8] at H
          have c8b0 : decide (x11_1 < (a0.size : Int)) = false := decide_eq_false c8
          clear c8
          replace H := Option.bind_eq_some_iff.mp H
          obtain ⟨⟨t200, t201⟩, A360, H⟩ := H
          replace H : ((part_Hex.f k1 (strOfNums x10_1)).bind fun bt202 => (if (strOfNums x9_1).size + 1 ≤ 9223372036854775807 then ((part_Hex.f k1 ((strOfNums x9_1) ++ (⟨#[48]⟩ : ByteArray))).bind fun bt204 => (if t200.toList = a0.toList then (if t201 = 0 then (if bt202.1.toList = a0.toList then (if bt202.2 = 0 then (if bt204.1.toList = ([] : List UInt8) then (stratumlaw07_PartHexes.j1 k1 a1 a2 x9_1 (bt204.2 != 111)) else (stratumlaw07_PartHexes.j1 k1 a1 a2 x9_1 true)) else (stratumlaw07_PartHexes.j1 k1 a1 a2 x9_1 true)) else (stratumlaw07_PartHexes.j1 k1 a1 a2 x9_1 true)) else (stratumlaw07_PartHexes.j1 k1 a1 a2 x9_1 true)) else (stratumlaw07_PartHexes.j1 k1 a1 a2 x9_1 true))) else (none))) = some r := H
          have A36 := Aside0.mk A360
          clear A360
          replace H := Option.bind_eq_some_iff.mp H
          obtain ⟨⟨t202, t203⟩, A370, H⟩ := H
          replace H : (if (strOfNums x9_1).size + 1 ≤ 9223372036854775807 then ((part_Hex.f k1 ((strOfNums x9_1) ++ (⟨#[48]⟩ : ByteArray))).bind fun bt204 => (if t200.toList = a0.toList then (if t201 = 0 then (if t202.toList = a0.toList then (if t203 = 0 then (if bt204.1.toList = ([] : List UInt8) then (stratumlaw07_PartHexes.j1 k1 a1 a2 x9_1 (bt204.2 != 111)) else (stratumlaw07_PartHexes.j1 k1 a1 a2 x9_1 true)) else (stratumlaw07_PartHexes.j1 k1 a1 a2 x9_1 true)) else (stratumlaw07_PartHexes.j1 k1 a1 a2 x9_1 true)) else (stratumlaw07_PartHexes.j1 k1 a1 a2 x9_1 true)) else (stratumlaw07_PartHexes.j1 k1 a1 a2 x9_1 true))) else (none)) = some r := H
          have A37 := Aside0.mk A370
          clear A370
          by_cases c38 : (strOfNums x9_1).size + 1 ≤ 9223372036854775807
          · rw [if_pos c38] at H
            have c38b0 := eq_true c38
            have c38b1 : decide ((strOfNums x9_1).size + 1 ≤ 9223372036854775807) = true := decide_eq_true c38
            try have c38b2 : (9223372036854775807 < (strOfNums x9_1).size + 1) = False := eq_false (Nat.not_lt.2 c38)
            replace H := Option.bind_eq_some_iff.mp H
            obtain ⟨⟨t204, t205⟩, A390, H⟩ := H
            replace H : (if t200.toList = a0.toList then (if t201 = 0 then (if t202.toList = a0.toList then (if t203 = 0 then (if t204.toList = ([] : List UInt8) then (stratumlaw07_PartHexes.j1 k1 a1 a2 x9_1 (t205 != 111)) else (stratumlaw07_PartHexes.j1 k1 a1 a2 x9_1 true)) else (stratumlaw07_PartHexes.j1 k1 a1 a2 x9_1 true)) else (stratumlaw07_PartHexes.j1 k1 a1 a2 x9_1 true)) else (stratumlaw07_PartHexes.j1 k1 a1 a2 x9_1 true)) else (stratumlaw07_PartHexes.j1 k1 a1 a2 x9_1 true)) = some r := H
            have A39 := Aside0.mk A390
            clear A390
            have HC40 := Aside0.mk H
            clear H
            have hcv41 := own_string (P := Try.prog) Try.underlying39 Try.underlying5 Try.underlying9 (Kd.own_of_R HO_9.out)
            have hcv42 := own_string (P := Try.prog) Try.underlying39 Try.underlying5 Try.underlying9 (Kd.own_of_R HO_10.out)
            go_upto_region 17 with (first | ((with_reducible refine gate_callee (f := 20) rfl ?_); refine goesL_ (some 62) rfl rfl Try.func20 (by kernel_rfl) rfl #[.string (strOfNums x9_1)] rfl (by (try simp only [List.map_toArray, List.map_cons, List.map_nil]); first | done | rfl | (simp only [List.length_drop, List.length_take]; rfl)) ?_; (with_reducible refine (part_Hex.calls k1 (strOfNums x9_1) t200 t201 _ A36.out).mono ?_); rintro e w43 ⟨rfl, hb⟩; refine ⟨_, rfl, ?_⟩; have n0_ := Aside0.mk (Kd.R_below (by (with_reducible repeat (first | apply Kd.R_alloc | apply Kd.R_drewN | apply Kd.R_drew)); exact HO_9.out) hb); have n1_ := Aside0.mk (Kd.R_below (by (with_reducible repeat (first | apply Kd.R_alloc | apply Kd.R_drewN | apply Kd.R_drew)); exact HO_10.out) hb); have n2_ := Aside0.mk (below_step (by repeat (first | (with_reducible first | exact HB.out | apply below_alloc | apply pw_below_drewN | apply below_drew1) | exact HB.out)) hb); clear HO_9; clear HO_10; clear HB; have HO_9 := n0_; have HO_10 := n1_; have HB := n2_; clear n0_ n1_ n2_; (try clear hb); (try clear hb2); (try clear hk); (try clear hi)) | ((with_reducible refine gate_callee (f := 20) rfl ?_); refine goesL_ (some 67) rfl rfl Try.func20 (by kernel_rfl) rfl #[.string (strOfNums x10_1)] rfl (by (try simp only [List.map_toArray, List.map_cons, List.map_nil]); first | done | rfl | (simp only [List.length_drop, List.length_take]; rfl)) ?_; (with_reducible refine (part_Hex.calls k1 (strOfNums x10_1) t202 t203 _ A37.out).mono ?_); rintro e w44 ⟨rfl, hb⟩; refine ⟨_, rfl, ?_⟩; have n0_ := Aside0.mk (Kd.R_below (by (with_reducible repeat (first | apply Kd.R_alloc | apply Kd.R_drewN | apply Kd.R_drew)); exact HO_9.out) hb); have n1_ := Aside0.mk (Kd.R_below (by (with_reducible repeat (first | apply Kd.R_alloc | apply Kd.R_drewN | apply Kd.R_drew)); exact HO_10.out) hb); have n2_ := Aside0.mk (below_step (by repeat (first | (with_reducible first | exact HB.out | apply below_alloc | apply pw_below_drewN | apply below_drew1) | exact HB.out)) hb); clear HO_9; clear HO_10; clear HB; have HO_9 := n0_; have HO_10 := n1_; have HB := n2_; clear n0_ n1_ n2_; (try clear hb); (try clear hb2); (try clear hk); (try clear hi)) | ((with_reducible refine gate_callee (f := 20) rfl ?_); refine goesL_ (some 73) rfl rfl Try.func20 (by kernel_rfl) rfl #[.string ((strOfNums x9_1) ++ (⟨#[48]⟩ : ByteArray))] rfl (by (try simp only [List.map_toArray, List.map_cons, List.map_nil]); first | done | rfl | (simp only [List.length_drop, List.length_take]; rfl)) ?_; (with_reducible refine (part_Hex.calls k1 ((strOfNums x9_1) ++ (⟨#[48]⟩ : ByteArray)) t204 t205 _ A39.out).mono ?_); rintro e w45 ⟨rfl, hb⟩; refine ⟨_, rfl, ?_⟩; have n0_ := Aside0.mk (Kd.R_below (by (with_reducible repeat (first | apply Kd.R_alloc | apply Kd.R_drewN | apply Kd.R_drew)); exact HO_9.out) hb); have n1_ := Aside0.mk (Kd.R_below (by (with_reducible repeat (first | apply Kd.R_alloc | apply Kd.R_drewN | apply Kd.R_drew)); exact HO_10.out) hb); have n2_ := Aside0.mk (below_step (by repeat (first | (with_reducible first | exact HB.out | apply below_alloc | apply pw_below_drewN | apply below_drew1) | exact HB.out)) hb); clear HO_9; clear HO_10; clear HB; have HO_9 := n0_; have HO_10 := n1_; have HB := n2_; clear n0_ n1_ n2_; (try clear hb); (try clear hb2); (try clear hk); (try clear hi)))
            (try simp only [Act.put, List.setIfInBounds_toArray, List.set_cons_zero, List.set_cons_succ])
            go_cut [99] (fun v99 wc => ∃ (kq : Nat) (x99_39 : Bool), v99 = .bool x99_39 ∧ Aside0 (stratumlaw07_PartHexes.j1 kq a1 a2 x9_1 x99_39 = some r) ∧ Aside0 (kq ≤ k1) ∧ Aside0 (Kd.R (Kd.int .u8) 5 wc w.heap.size (fun _ => True) u9 x9_1) ∧ Aside0 (Below w.heap.size w wc))
            case first =>
              have H := HC40.out
              clear HC40
              by_cases c46 : t200.toList = a0.toList
              · rw [if_pos c46] at H
                have c46b0 : (t200.toList == a0.toList) = true := beq_iff_eq.mpr c46
                have c46b1 : (t200.toList != a0.toList) = false := bne_eq_false_iff_eq.mpr c46
                clear c46
                (first | rw [c46b0] | (simp only [i64_w, i32_w]; rw [c46b0]) | skip)
                by_cases c47 : t201 = 0
                · rw [if_pos c47] at H
                  have c47b0 : (t201 == 0) = true := beq_iff_eq.mpr c47
                  have c47b1 : (t201 != 0) = false := bne_eq_false_iff_eq.mpr c47
                  clear c47
                  by_cases c48 : t202.toList = a0.toList
                  · rw [if_pos c48] at H
                    have c48b0 : (t202.toList == a0.toList) = true := beq_iff_eq.mpr c48
                    have c48b1 : (t202.toList != a0.toList) = false := bne_eq_false_iff_eq.mpr c48
                    clear c48
                    by_cases c49 : t203 = 0
                    · rw [if_pos c49] at H
                      have c49b0 : (t203 == 0) = true := beq_iff_eq.mpr c49
                      have c49b1 : (t203 != 0) = false := bne_eq_false_iff_eq.mpr c49
                      clear c49
                      by_cases c50 : t204.toList = ([] : List UInt8)
                      · rw [if_pos c50] at H
                        have c50b0 : (t204.toList == ([] : List UInt8)) = true := beq_iff_eq.mpr c50
                        have c50b1 : (t204.toList != ([] : List UInt8)) = false := bne_eq_false_iff_eq.mpr c50
                        clear c50
                        have H' := Aside0.mk H
                        clear H
                        go_wp2
                        go_meet
                        case rel => exact ⟨_, ((t205 != 111)), (by first | rfl | (simp; done) | (simp [*]; done)), H', ⟨by have := HK1.out; first | omega | exact Nat.le_refl _⟩, ⟨by (with_reducible repeat (first | apply Kd.R_alloc | apply Kd.R_drewN | apply Kd.R_drew)); exact Kd.R_mono HO_9.out (fun _ hk => trivial)⟩, ⟨by repeat (first | (with_reducible first | exact HB.out | apply below_alloc | apply pw_below_drewN | apply below_drew1) | exact HB.out)⟩⟩
                      · rw [if_neg c50] at H
                        have c50b0 : (t204.toList == ([] : List UInt8)) = false := beq_eq_false_iff_ne.mpr c50
                        have c50b1 : (t204.toList != ([] : List UInt8)) = true := bne_iff_ne.mpr c50
                        have H' := Aside0.mk H
                        clear H
                        go_wp2
                        go_meet
                        case rel => exact ⟨_, (true), (by first | rfl | (simp; done) | (simp [*]; done)), H', ⟨by have := HK1.out; first | omega | exact Nat.le_refl _⟩, ⟨by (with_reducible repeat (first | apply Kd.R_alloc | apply Kd.R_drewN | apply Kd.R_drew)); exact Kd.R_mono HO_9.out (fun _ hk => trivial)⟩, ⟨by repeat (first | (with_reducible first | exact HB.out | apply below_alloc | apply pw_below_drewN | apply below_drew1) | exact HB.out)⟩⟩
                    · rw [if_neg c49] at H
                      have c49b0 : (t203 == 0) = false := beq_eq_false_iff_ne.mpr c49
                      have c49b1 : (t203 != 0) = true := bne_iff_ne.mpr c49
                      have H' := Aside0.mk H
                      clear H
                      go_wp2
                      go_meet
                      case rel => exact ⟨_, (true), (by first | rfl | (simp; done) | (simp [*]; done)), H', ⟨by have := HK1.out; first | omega | exact Nat.le_refl _⟩, ⟨by (with_reducible repeat (first | apply Kd.R_alloc | apply Kd.R_drewN | apply Kd.R_drew)); exact Kd.R_mono HO_9.out (fun _ hk => trivial)⟩, ⟨by repeat (first | (with_reducible first | exact HB.out | apply below_alloc | apply pw_below_drewN | apply below_drew1) | exact HB.out)⟩⟩
                  · rw [if_neg c48] at H
                    have c48b0 : (t202.toList == a0.toList) = false := beq_eq_false_iff_ne.mpr c48
                    have c48b1 : (t202.toList != a0.toList) = true := bne_iff_ne.mpr c48
                    have H' := Aside0.mk H
                    clear H
                    go_wp2
                    go_meet
                    case rel => exact ⟨_, (true), (by first | rfl | (simp; done) | (simp [*]; done)), H', ⟨by have := HK1.out; first | omega | exact Nat.le_refl _⟩, ⟨by (with_reducible repeat (first | apply Kd.R_alloc | apply Kd.R_drewN | apply Kd.R_drew)); exact Kd.R_mono HO_9.out (fun _ hk => trivial)⟩, ⟨by repeat (first | (with_reducible first | exact HB.out | apply below_alloc | apply pw_below_drewN | apply below_drew1) | exact HB.out)⟩⟩
                · rw [if_neg c47] at H
                  have c47b0 : (t201 == 0) = false := beq_eq_false_iff_ne.mpr c47
                  have c47b1 : (t201 != 0) = true := bne_iff_ne.mpr c47
                  have H' := Aside0.mk H
                  clear H
                  go_wp2
                  go_meet
                  case rel => exact ⟨_, (true), (by first | rfl | (simp; done) | (simp [*]; done)), H', ⟨by have := HK1.out; first | omega | exact Nat.le_refl _⟩, ⟨by (with_reducible repeat (first | apply Kd.R_alloc | apply Kd.R_drewN | apply Kd.R_drew)); exact Kd.R_mono HO_9.out (fun _ hk => trivial)⟩, ⟨by repeat (first | (with_reducible first | exact HB.out | apply below_alloc | apply pw_below_drewN | apply below_drew1) | exact HB.out)⟩⟩
              · rw [if_neg c46] at H
                have c46b0 : (t200.toList == a0.toList) = false := beq_eq_false_iff_ne.mpr c46
                have c46b1 : (t200.toList != a0.toList) = true := bne_iff_ne.mpr c46
                (first | rw [c46b0] | (simp only [i64_w, i32_w]; rw [c46b0]) | skip)
                have H' := Aside0.mk H
                clear H
                go_wp2
                go_meet
                case rel => exact ⟨_, (true), (by first | rfl | (simp; done) | (simp [*]; done)), H', ⟨by have := HK1.out; first | omega | exact Nat.le_refl _⟩, ⟨by (with_reducible repeat (first | apply Kd.R_alloc | apply Kd.R_drewN | apply Kd.R_drew)); exact Kd.R_mono HO_9.out (fun _ hk => trivial)⟩, ⟨by repeat (first | (with_reducible first | exact HB.out | apply below_alloc | apply pw_below_drewN | apply below_drew1) | exact HB.out)⟩⟩
            case rest =>
              clear HC40
              try clear c1
              try clear p1
              try clear q1
              try clear hx1
              try clear c2
              try clear p2
              try clear q2
              try clear hx2
              try clear c3
              try clear c4
              try clear hcv4
              try clear c5
              try clear c6
              try clear p6
              try clear c8
              try clear c8b0
              try clear c9
              try clear c9b0
              try clear p10
              try clear q10
              try clear hx10
              try clear c12
              try clear c12b0
              try clear c13
              try clear c13b0
              try clear p14
              try clear q14
              try clear hx14
              try clear p15
              try clear q15
              try clear hx15
              try clear c17
              try clear c17b0
              try clear c18
              try clear c18b0
              try clear p19
              try clear q19
              try clear hx19
              try clear c20
              try clear p21
              try clear q21
              try clear hx21
              try clear p22
              try clear q22
              try clear hx22
              try clear p23
              try clear q23
              try clear hx23
              try clear p24
              try clear q24
              try clear hx24
              try clear c25
              try clear c38
              try clear c38b0
              try clear c38b1
              try clear c38b2
              try clear hcv41
              try clear hcv42
              try clear c46
              try clear c46b0
              try clear c46b1
              try clear c47
              try clear c47b0
              try clear c47b1
              try clear c48
              try clear c48b0
              try clear c48b1
              try clear c49
              try clear c49b0
              try clear c49b1
              try clear c50
              try clear c50b0
              try clear c50b1
              try clear p10
              try clear p14
              try clear p15
              try clear p19
              try clear p2
              try clear p21
              try clear p22
              try clear p23
              try clear p24
              try clear q10
              try clear q14
              try clear q15
              try clear q19
              try clear q21
              try clear q22
              try clear q23
              try clear q24
              obtain ⟨kq, x99_39, rfl, HA, HJ39, HO_9, HB⟩ := hcut
              cases kq with
              | zero => exact absurd HA.out (by simp [stratumlaw07_PartHexes.j1])
              | succ kj39 =>
                have H := HA.out
                clear HA
                simp only [stratumlaw07_PartHexes.j1] at H
                by_cases c51 : x99_39 = true
                · subst c51
                  have H1 : (some false) = some r := by rw [if_pos rfl] at H; exact H
                  clear H
                  have H := H1
                  clear H1
                  obtain rfl := Option.some.inj H
                  go_wp2
                  go_ret
                  exact ⟨by first | rfl | (simp [errW_none, errW_some] <;> rfl) | (simp [*, errW_none, errW_some] <;> rfl), by repeat (first | (with_reducible first | exact HB.out | apply below_alloc | apply pw_below_drewN | apply below_drew1) | exact HB.out)⟩
                · replace c51 := Bool.eq_false_iff.mpr c51
                  subst c51
                  have H1 : (if a2 ≥ 48 then (if a2 ≤ 57 then (if (x9_1.length : Int) = 0 then (some true) else (some true)) else (if a2 ≥ 97 then (if a2 ≤ 102 then (if (x9_1.length : Int) = 0 then (some true) else (some true)) else (if a2 ≥ 65 then (if (x9_1.length : Int) = 0 then (some true) else (if a2 ≤ 70 then (some true) else (if (IntKind.u64.wrap ((x9_1.length : Int))) = 0 then (none) else (if 0 ≤ (wrap64 (Int.tmod (IntKind.u64.wrap (a1)) (IntKind.u64.wrap ((x9_1.length : Int))))) then (if (wrap64 (Int.tmod (IntKind.u64.wrap (a1)) (IntKind.u64.wrap ((x9_1.length : Int))))) < (x9_1.length : Int) then ((part_Hex.f kj39 (strOfNums (x9_1.set ((wrap64 (Int.tmod (IntKind.u64.wrap (a1)) (IntKind.u64.wrap ((x9_1.length : Int))))) : Int).toNat a2))).bind fun bt207 => (if bt207.1.toList = ([] : List UInt8) then (some (bt207.2 == 111)) else (some false))) else (none)) else (none))))) else (if (x9_1.length : Int) = 0 then (some true) else (if (IntKind.u64.wrap ((x9_1.length : Int))) = 0 then (none) else (if 0 ≤ (wrap64 (Int.tmod (IntKind.u64.wrap (a1)) (IntKind.u64.wrap ((x9_1.length : Int))))) then (if (wrap64 (Int.tmod (IntKind.u64.wrap (a1)) (IntKind.u64.wrap ((x9_1.length : Int))))) < (x9_1.length : Int) then ((part_Hex.f kj39 (strOfNums (x9_1.set ((wrap64 (Int.tmod (IntKind.u64.wrap (a1)) (IntKind.u64.wrap ((x9_1.length : Int))))) : Int).toNat a2))).bind fun bt210 => (if bt210.1.toList = ([] : List UInt8) then (some (bt210.2 == 111)) else (some false))) else (none)) else (none)))))) else (if a2 ≥ 65 then (if (x9_1.length : Int) = 0 then (some true) else (if a2 ≤ 70 then (some true) else (if (IntKind.u64.wrap ((x9_1.length : Int))) = 0 then (none) else (if 0 ≤ (wrap64 (Int.tmod (IntKind.u64.wrap (a1)) (IntKind.u64.wrap ((x9_1.length : Int))))) then (if (wrap64 (Int.tmod (IntKind.u64.wrap (a1)) (IntKind.u64.wrap ((x9_1.length : Int))))) < (x9_1.length : Int) then ((part_Hex.f kj39 (strOfNums (x9_1.set ((wrap64 (Int.tmod (IntKind.u64.wrap (a1)) (IntKind.u64.wrap ((x9_1.length : Int))))) : Int).toNat a2))).bind fun bt213 => (if bt213.1.toList = ([] : List UInt8) then (some (bt213.2 == 111)) else (some false))) else (none)) else (none))))) else (if (x9_1.length : Int) = 0 then (some true) else (if (IntKind.u64.wrap ((x9_1.length : Int))) = 0 then (none) else (if 0 ≤ (wrap64 (Int.tmod (IntKind.u64.wrap (a1)) (IntKind.u64.wrap ((x9_1.length : Int))))) then (if (wrap64 (Int.tmod (IntKind.u64.wrap (a1)) (IntKind.u64.wrap ((x9_1.length : Int))))) < (x9_1.length : Int) then ((part_Hex.f kj39 (strOfNums (x9_1.set ((wrap64 (Int.tmod (IntKind.u64.wrap (a1)) (IntKind.u64.wrap ((x9_1.length : Int))))) : Int).toNat a2))).bind fun bt216 => (if bt216.1.toList = ([] : List UInt8) then (some (bt216.2 == 111)) else (some false))) else (none)) else (none))))))) else (if a2 ≥ 97 then (if a2 ≤ 102 then (if (x9_1.length : Int) = 0 then (some true) else (some true)) else (if a2 ≥ 65 then (if (x9_1.length : Int) = 0 then (some true) else (if a2 ≤ 70 then (some true) else (if (IntKind.u64.wrap ((x9_1.length : Int))) = 0 then (none) else (if 0 ≤ (wrap64 (Int.tmod (IntKind.u64.wrap (a1)) (IntKind.u64.wrap ((x9_1.length : Int))))) then (if (wrap64 (Int.tmod (IntKind.u64.wrap (a1)) (IntKind.u64.wrap ((x9_1.length : Int))))) < (x9_1.length : Int) then ((part_Hex.f kj39 (strOfNums (x9_1.set ((wrap64 (Int.tmod (IntKind.u64.wrap (a1)) (IntKind.u64.wrap ((x9_1.length : Int))))) : Int).toNat a2))).bind fun bt219 => (if bt219.1.toList = ([] : List UInt8) then (some (bt219.2 == 111)) else (some false))) else (none)) else (none))))) else (if (x9_1.length : Int) = 0 then (some true) else (if (IntKind.u64.wrap ((x9_1.length : Int))) = 0 then (none) else (if 0 ≤ (wrap64 (Int.tmod (IntKind.u64.wrap (a1)) (IntKind.u64.wrap ((x9_1.length : Int))))) then (if (wrap64 (Int.tmod (IntKind.u64.wrap (a1)) (IntKind.u64.wrap ((x9_1.length : Int))))) < (x9_1.length : Int) then ((part_Hex.f kj39 (strOfNums (x9_1.set ((wrap64 (Int.tmod (IntKind.u64.wrap (a1)) (IntKind.u64.wrap ((x9_1.length : Int))))) : Int).toNat a2))).bind fun bt222 => (if bt222.1.toList = ([] : List UInt8) then (some (bt222.2 == 111)) else (some false))) else (none)) else (none)))))) else (if a2 ≥ 65 then (if (x9_1.length : Int) = 0 then (some true) else (if a2 ≤ 70 then (some true) else (if (IntKind.u64.wrap ((x9_1.length : Int))) = 0 then (none) else (if 0 ≤ (wrap64 (Int.tmod (IntKind.u64.wrap (a1)) (IntKind.u64.wrap ((x9_1.length : Int))))) then (if (wrap64 (Int.tmod (IntKind.u64.wrap (a1)) (IntKind.u64.wrap ((x9_1.length : Int))))) < (x9_1.length : Int) then ((part_Hex.f kj39 (strOfNums (x9_1.set ((wrap64 (Int.tmod (IntKind.u64.wrap (a1)) (IntKind.u64.wrap ((x9_1.length : Int))))) : Int).toNat a2))).bind fun bt225 => (if bt225.1.toList = ([] : List UInt8) then (some (bt225.2 == 111)) else (some false))) else (none)) else (none))))) else (if (x9_1.length : Int) = 0 then (some true) else (if (IntKind.u64.wrap ((x9_1.length : Int))) = 0 then (none) else (if 0 ≤ (wrap64 (Int.tmod (IntKind.u64.wrap (a1)) (IntKind.u64.wrap ((x9_1.length : Int))))) then (if (wrap64 (Int.tmod (IntKind.u64.wrap (a1)) (IntKind.u64.wrap ((x9_1.length : Int))))) < (x9_1.length : Int) then ((part_Hex.f kj39 (strOfNums (x9_1.set ((wrap64 (Int.tmod (IntKind.u64.wrap (a1)) (IntKind.u64.wrap ((x9_1.length : Int))))) : Int).toNat a2))).bind fun bt228 => (if bt228.1.toList = ([] : List UInt8) then (some (bt228.2 == 111)) else (some false))) else (none)) else (none))))))) = some r := by rw [if_neg (show ¬ (false = true) by decide)] at H; exact H
                  clear H
                  have H := H1
                  clear H1
                  by_cases c52 : a2 ≥ 48
                  · rw [if_pos c52] at H
                    have c52b0 : decide (48 ≤ a2) = true := decide_eq_true c52
                    clear c52
                    by_cases c53 : a2 ≤ 57
                    · rw [if_pos c53] at H
                      have c53b0 : decide (a2 ≤ 57) = true := decide_eq_true c53
                      clear c53
                      by_cases c54 : (x9_1.length : Int) = 0
                      · rw [if_pos c54] at H
                        have c54b0 : ((x9_1.length : Int) == 0) = true := beq_iff_eq.mpr c54
                        have c54b1 : ((x9_1.length : Int) != 0) = false := bne_eq_false_iff_eq.mpr c54
                        clear c54
                        obtain rfl := Option.some.inj H
                        obtain ⟨Ao55, co55, eo55⟩ := Kd.R_slice HO_9.out
                        subst eo55
                        go_wp2
                        go_ret
                        exact ⟨by first | rfl | (simp [errW_none, errW_some] <;> rfl) | (simp [*, errW_none, errW_some] <;> rfl), by repeat (first | (with_reducible first | exact HB.out | apply below_alloc | apply pw_below_drewN | apply below_drew1) | exact HB.out)⟩
                      · rw [if_neg c54] at H
                        have c54b0 : ((x9_1.length : Int) == 0) = false := beq_eq_false_iff_ne.mpr c54
                        have c54b1 : ((x9_1.length : Int) != 0) = true := bne_iff_ne.mpr c54
                        have c54b2 : ¬ (x9_1 = []) := fun h_ => c54 (by rw [h_]; rfl)
                        obtain rfl := Option.some.inj H
                        obtain ⟨Ao56, co56, eo56⟩ := Kd.R_slice HO_9.out
                        subst eo56
                        go_wp2
                        go_ret
                        exact ⟨by first | rfl | (simp [errW_none, errW_some] <;> rfl) | (simp [*, errW_none, errW_some] <;> rfl), by repeat (first | (with_reducible first | exact HB.out | apply below_alloc | apply pw_below_drewN | apply below_drew1) | exact HB.out)⟩
                    · rw [if_neg c53] at H
                      have c53b0 : decide (a2 ≤ 57) = false := decide_eq_false c53
                      clear c53
                      by_cases c57 : a2 ≥ 97
                      · rw [if_pos c57] at H
                        have c57b0 : decide (97 ≤ a2) = true := decide_eq_true c57
                        clear c57
                        by_cases c58 : a2 ≤ 102
                        · rw [if_pos c58] at H
                          have c58b0 : decide (a2 ≤ 102) = true := decide_eq_true c58
                          clear c58
                          by_cases c59 : (x9_1.length : Int) = 0
                          · rw [if_pos c59] at H
                            have c59b0 : ((x9_1.length : Int) == 0) = true := beq_iff_eq.mpr c59
                            have c59b1 : ((x9_1.length : Int) != 0) = false := bne_eq_false_iff_eq.mpr c59
                            clear c59
                            obtain rfl := Option.some.inj H
                            obtain ⟨Ao60, co60, eo60⟩ := Kd.R_slice HO_9.out
                            subst eo60
                            go_wp2
                            go_ret
                            exact ⟨by first | rfl | (simp [errW_none, errW_some] <;> rfl) | (simp [*, errW_none, errW_some] <;> rfl), by repeat (first | (with_reducible first | exact HB.out | apply below_alloc | apply pw_below_drewN | apply below_drew1) | exact HB.out)⟩
                          · rw [if_neg c59] at H
                            have c59b0 : ((x9_1.length : Int) == 0) = false := beq_eq_false_iff_ne.mpr c59
                            have c59b1 : ((x9_1.length : Int) != 0) = true := bne_iff_ne.mpr c59
                            have c59b2 : ¬ (x9_1 = []) := fun h_ => c59 (by rw [h_]; rfl)
                            obtain rfl := Option.some.inj H
                            obtain ⟨Ao61, co61, eo61⟩ := Kd.R_slice HO_9.out
                            subst eo61
                            go_wp2
                            go_ret
                            exact ⟨by first | rfl | (simp [errW_none, errW_some] <;> rfl) | (simp [*, errW_none, errW_some] <;> rfl), by repeat (first | (with_reducible first | exact HB.out | apply below_alloc | apply pw_below_drewN | apply below_drew1) | exact HB.out)⟩
                        · rw [if_neg c58] at H
                          have c58b0 : decide (a2 ≤ 102) = false := decide_eq_false c58
                          clear c58
                          by_cases c62 : a2 ≥ 65
                          · rw [if_pos c62] at H
                            have c62b0 : decide (65 ≤ a2) = true := decide_eq_true c62
                            clear c62
                            by_cases c63 : (x9_1.length : Int) = 0
                            · rw [if_pos c63] at H
                              have c63b0 : ((x9_1.length : Int) == 0) = true := beq_iff_eq.mpr c63
                              have c63b1 : ((x9_1.length : Int) != 0) = false := bne_eq_false_iff_eq.mpr c63
                              clear c63
                              obtain rfl := Option.some.inj H
                              obtain ⟨Ao64, co64, eo64⟩ := Kd.R_slice HO_9.out
                              subst eo64
                              go_wp2
                              go_ret
                              exact ⟨by first | rfl | (simp [errW_none, errW_some] <;> rfl) | (simp [*, errW_none, errW_some] <;> rfl), by repeat (first | (with_reducible first | exact HB.out | apply below_alloc | apply pw_below_drewN | apply below_drew1) | exact HB.out)⟩
                            · rw [if_neg c63] at H
                              have c63b0 : ((x9_1.length : Int) == 0) = false := beq_eq_false_iff_ne.mpr c63
                              have c63b1 : ((x9_1.length : Int) != 0) = true := bne_iff_ne.mpr c63
                              have c63b2 : ¬ (x9_1 = []) := fun h_ => c63 (by rw [h_]; rfl)
                              by_cases c65 : a2 ≤ 70
                              · rw [if_pos c65] at H
                                have c65b0 : decide (a2 ≤ 70) = true := decide_eq_true c65
                                clear c65
                                obtain rfl := Option.some.inj H
                                obtain ⟨Ao66, co66, eo66⟩ := Kd.R_slice HO_9.out
                                subst eo66
                                go_wp2
                                go_ret
                                exact ⟨by first | rfl | (simp [errW_none, errW_some] <;> rfl) | (simp [*, errW_none, errW_some] <;> rfl), by repeat (first | (with_reducible first | exact HB.out | apply below_alloc | apply pw_below_drewN | apply below_drew1) | exact HB.out)⟩
                              · rw [if_neg c65] at H
                                have c65b0 : decide (a2 ≤ 70) = false := decide_eq_false c65
                                clear c65
                                by_cases c67 : (IntKind.u64.wrap ((x9_1.length : Int))) = 0
                                · rw [if_pos c67] at H
                                  exact absurd H (by simp)
                                · rw [if_neg c67] at H
                                  have c67b0 : ((IntKind.u64.wrap ((x9_1.length : Int))) == 0) = false := beq_eq_false_iff_ne.mpr c67
                                  have c67b1 : ((IntKind.u64.wrap ((x9_1.length : Int))) != 0) = true := bne_iff_ne.mpr c67
                                  obtain ⟨ji68, hji68⟩ : ∃ j_ : Int, (wrap64 (Int.tmod (IntKind.u64.wrap (a1)) (IntKind.u64.wrap ((x9_1.length : Int))))) = j_ := ⟨_, rfl⟩
                                  replace H : (if 0 ≤ (ji68) then (if (ji68) < (x9_1.length : Int) then ((part_Hex.f kj39 (strOfNums (x9_1.set ((ji68) : Int).toNat a2))).bind fun bt207 => (if bt207.1.toList = ([] : List UInt8) then (some (bt207.2 == 111)) else (some false))) else (none)) else (none)) = some r := by first | (rw [hji68] at H; exact H) | (simp only [hji68] at H ⊢; exact H)
                                  have hji68w : (IntKind.i64.wrap (Int.tmod (IntKind.u64.wrap (a1)) (IntKind.u64.wrap ((x9_1.length : Int))))) = ji68 := (i64_w _).trans hji68
                                  by_cases c69 : 0 ≤ (ji68)
                                  · rw [if_pos c69] at H
                                    have c69b0 : decide (0 ≤ (ji68)) = true := decide_eq_true c69
                                    clear c69
                                    by_cases c70 : (ji68) < (x9_1.length : Int)
                                    · rw [if_pos c70] at H
                                      have c70b0 : decide ((ji68) < (x9_1.length : Int)) = true := decide_eq_true c70
                                      clear c70
                                      obtain ⟨y206, hy206⟩ : ∃ y_ : List Int, y_ = (x9_1.set ((ji68) : Int).toNat a2) := ⟨_, rfl⟩
                                      replace H : ((part_Hex.f kj39 (strOfNums y206)).bind fun bt207 => (if bt207.1.toList = ([] : List UInt8) then (some (bt207.2 == 111)) else (some false))) = some r := by first | (rw [hy206]; with_reducible exact H) | (have H2_ := (Option.bind_some _ _).symm.trans H; rw [hy206]; with_reducible exact H2_) | (have H2_ := (Option.bind_some _ _).symm.trans H; with_reducible exact H2_) | with_reducible exact H | (rw [hy206]; exact H) | exact H
                                      have Ny206 := Aside0.mk hy206
                                      clear hy206
                                      replace H := Option.bind_eq_some_iff.mp H
                                      obtain ⟨⟨t207, t208⟩, A720, H⟩ := H
                                      replace H : (if t207.toList = ([] : List UInt8) then (some (t208 == 111)) else (some false)) = some r := H
                                      have A72 := Aside0.mk A720
                                      clear A720
                                      by_cases c73 : t207.toList = ([] : List UInt8)
                                      · rw [if_pos c73] at H
                                        have c73b0 : (t207.toList == ([] : List UInt8)) = true := beq_iff_eq.mpr c73
                                        have c73b1 : (t207.toList != ([] : List UInt8)) = false := bne_eq_false_iff_eq.mpr c73
                                        clear c73
                                        obtain rfl := Option.some.inj H
                                        obtain ⟨Ao74, co74, eo74⟩ := Kd.R_slice HO_9.out
                                        subst eo74
                                        have p71 : 0 ≤ ((ji68) : Int) := of_decide_eq_true (by first | (with_reducible assumption) | assumption)
                                        have q71 : ((ji68) : Int) < ((x9_1.length : Int) : Int) := of_decide_eq_true (by first | (with_reducible assumption) | assumption)
                                        obtain ⟨go71, co71, eo71, gb71, gl71, cl71, HG71⟩ := Kd.R_form HO_9.out (by omega)
                                        (first | cases eo71 | (injection eo71 with ea_ en_ ec_; (first | subst ea_ | (injection ea_ with ea_; subst ea_)); subst ec_; clear en_))
                                        have GB71 := Aside0.mk gb71
                                        have GG71 := Aside0.mk HG71
                                        clear gb71 gl71 HG71
                                        obtain ⟨hx71_0, hf71_0⟩ := Kd.R_celln 0 HO_9.out ((ji68) : Int) p71 q71
                                        replace p71 := eq_true p71
                                        replace q71 := eq_true q71
                                        have HP75 := Kd.R_putg HO_9.out ((ji68) : Int) a2
                                        go_wp2_with (first | ((with_reducible refine gate_store (t := 5) (p := 138) rfl ?_); refine store_event (t := 5) (p := 138) (v := ?vo_w76) (w1 := (wc.setCell ⟨go71, ((ji68) : Int).toNat, none⟩ (.int .u8 a2))) ?hg ?ho ?hn ?hr ?_; (case ho => rfl); (case hg => rfl); (case hn => rfl); (case hr => first | (go_simp; done) | (go_simp; rfl)); intro w76 hw; have hg : wc.grownBy w76 (some go71) := (by rw [hw]; exact HP75.2); have hp_ : Kd.R (Kd.int .u8) 5 w76 w.heap.size (fun _ => True) (.slice (some ⟨go71, 0, none⟩) x9_1.length co74) y206 := (by rw [hw, Ny206.out]; exact HP75.1); clear HP75; have n0_ := Aside0.mk (hp_); have n1_ := Aside0.mk ((by rw [hw]; exact below_set (HB.out) GB71.out : Below w.heap.size w w76)); clear HO_9; clear HB; have HO_9 := n0_; have HB := n1_; clear n0_ n1_; clear hg hw hp_; have hcv77 := own_string (P := Try.prog) Try.underlying39 Try.underlying5 Try.underlying9 (Kd.own_of_R HO_9.out)) | ((with_reducible refine gate_callee (f := 20) rfl ?_); refine goesL_ (some 142) rfl rfl Try.func20 (by kernel_rfl) rfl #[.string (strOfNums y206)] rfl (by (try simp only [List.map_toArray, List.map_cons, List.map_nil]); first | done | rfl | (simp only [List.length_drop, List.length_take]; rfl)) ?_; (with_reducible refine (part_Hex.calls kj39 (strOfNums y206) t207 t208 _ A72.out).mono ?_); rintro e w78 ⟨rfl, hb⟩; refine ⟨_, rfl, ?_⟩; have n0_ := Aside0.mk (Kd.R_below (by (with_reducible repeat (first | apply Kd.R_alloc | apply Kd.R_drewN | apply Kd.R_drew)); exact HO_9.out) hb); have n1_ := Aside0.mk (below_step (by repeat (first | (with_reducible first | exact HB.out | apply below_alloc | apply pw_below_drewN | apply below_drew1) | exact HB.out)) hb); clear HO_9; clear HB; have HO_9 := n0_; have HB := n1_; clear n0_ n1_; (try clear hb); (try clear hb2); (try clear hk); (try clear hi)))
                                        go_ret
                                        exact ⟨by first | rfl | (simp [errW_none, errW_some] <;> rfl) | (simp only [← hji68]; first | rfl | (simp [errW_none, errW_some] <;> rfl)) | (simp [*, errW_none, errW_some] <;> rfl), by repeat (first | (with_reducible first | exact HB.out | apply below_alloc | apply pw_below_drewN | apply below_drew1) | exact HB.out)⟩
                                      · rw [if_neg c73] at H
                                        have c73b0 : (t207.toList == ([] : List UInt8)) = false := beq_eq_false_iff_ne.mpr c73
                                        have c73b1 : (t207.toList != ([] : List UInt8)) = true := bne_iff_ne.mpr c73
                                        obtain rfl := Option.some.inj H
                                        obtain ⟨Ao79, co79, eo79⟩ := Kd.R_slice HO_9.out
                                        subst eo79
                                        have p71 : 0 ≤ ((ji68) : Int) := of_decide_eq_true (by first | (with_reducible assumption) | assumption)
                                        have q71 : ((ji68) : Int) < ((x9_1.length : Int) : Int) := of_decide_eq_true (by first | (with_reducible assumption) | assumption)
                                        obtain ⟨go71, co71, eo71, gb71, gl71, cl71, HG71⟩ := Kd.R_form HO_9.out (by omega)
                                        (first | cases eo71 | (injection eo71 with ea_ en_ ec_; (first | subst ea_ | (injection ea_ with ea_; subst ea_)); subst ec_; clear en_))
                                        have GB71 := Aside0.mk gb71
                                        have GG71 := Aside0.mk HG71
                                        clear gb71 gl71 HG71
                                        obtain ⟨hx71_0, hf71_0⟩ := Kd.R_celln 0 HO_9.out ((ji68) : Int) p71 q71
                                        replace p71 := eq_true p71
                                        replace q71 := eq_true q71
                                        have HP80 := Kd.R_putg HO_9.out ((ji68) : Int) a2
                                        go_wp2_with (first | ((with_reducible refine gate_store (t := 5) (p := 138) rfl ?_); refine store_event (t := 5) (p := 138) (v := ?vo_w81) (w1 := (wc.setCell ⟨go71, ((ji68) : Int).toNat, none⟩ (.int .u8 a2))) ?hg ?ho ?hn ?hr ?_; (case ho => rfl); (case hg => rfl); (case hn => rfl); (case hr => first | (go_simp; done) | (go_simp; rfl)); intro w81 hw; have hg : wc.grownBy w81 (some go71) := (by rw [hw]; exact HP80.2); have hp_ : Kd.R (Kd.int .u8) 5 w81 w.heap.size (fun _ => True) (.slice (some ⟨go71, 0, none⟩) x9_1.length co79) y206 := (by rw [hw, Ny206.out]; exact HP80.1); clear HP80; have n0_ := Aside0.mk (hp_); have n1_ := Aside0.mk ((by rw [hw]; exact below_set (HB.out) GB71.out : Below w.heap.size w w81)); clear HO_9; clear HB; have HO_9 := n0_; have HB := n1_; clear n0_ n1_; clear hg hw hp_; have hcv82 := own_string (P := Try.prog) Try.underlying39 Try.underlying5 Try.underlying9 (Kd.own_of_R HO_9.out)) | ((with_reducible refine gate_callee (f := 20) rfl ?_); refine goesL_ (some 142) rfl rfl Try.func20 (by kernel_rfl) rfl #[.string (strOfNums y206)] rfl (by (try simp only [List.map_toArray, List.map_cons, List.map_nil]); first | done | rfl | (simp only [List.length_drop, List.length_take]; rfl)) ?_; (with_reducible refine (part_Hex.calls kj39 (strOfNums y206) t207 t208 _ A72.out).mono ?_); rintro e w83 ⟨rfl, hb⟩; refine ⟨_, rfl, ?_⟩; have n0_ := Aside0.mk (Kd.R_below (by (with_reducible repeat (first | apply Kd.R_alloc | apply Kd.R_drewN | apply Kd.R_drew)); exact HO_9.out) hb); have n1_ := Aside0.mk (below_step (by repeat (first | (with_reducible first | exact HB.out | apply below_alloc | apply pw_below_drewN | apply below_drew1) | exact HB.out)) hb); clear HO_9; clear HB; have HO_9 := n0_; have HB := n1_; clear n0_ n1_; (try clear hb); (try clear hb2); (try clear hk); (try clear hi)))
                                        go_ret
                                        exact ⟨by first | rfl | (simp [errW_none, errW_some] <;> rfl) | (simp only [← hji68]; first | rfl | (simp [errW_none, errW_some] <;> rfl)) | (simp [*, errW_none, errW_some] <;> rfl), by repeat (first | (with_reducible first | exact HB.out | apply below_alloc | apply pw_below_drewN | apply below_drew1) | exact HB.out)⟩
                                    · rw [if_neg c70] at H
                                      exact absurd H (by simp)
                                  · rw [if_neg c69] at H
                                    exact absurd H (by simp)
                          · rw [if_neg c62] at H
                            have c62b0 : decide (65 ≤ a2) = false := decide_eq_false c62
                            clear c62
                            by_cases c84 : (x9_1.length : Int) = 0
                            · rw [if_pos c84] at H
                              have c84b0 : ((x9_1.length : Int) == 0) = true := beq_iff_eq.mpr c84
                              have c84b1 : ((x9_1.length : Int) != 0) = false := bne_eq_false_iff_eq.mpr c84
                              clear c84
                              obtain rfl := Option.some.inj H
                              obtain ⟨Ao85, co85, eo85⟩ := Kd.R_slice HO_9.out
                              subst eo85
                              go_wp2
                              go_ret
                              exact ⟨by first | rfl | (simp [errW_none, errW_some] <;> rfl) | (simp [*, errW_none, errW_some] <;> rfl), by repeat (first | (with_reducible first | exact HB.out | apply below_alloc | apply pw_below_drewN | apply below_drew1) | exact HB.out)⟩
                            · rw [if_neg c84] at H
                              have c84b0 : ((x9_1.length : Int) == 0) = false := beq_eq_false_iff_ne.mpr c84
                              have c84b1 : ((x9_1.length : Int) != 0) = true := bne_iff_ne.mpr c84
                              have c84b2 : ¬ (x9_1 = []) := fun h_ => c84 (by rw [h_]; rfl)
                              by_cases c86 : (IntKind.u64.wrap ((x9_1.length : Int))) = 0
                              · rw [if_pos c86] at H
                                exact absurd H (by simp)
                              · rw [if_neg c86] at H
                                have c86b0 : ((IntKind.u64.wrap ((x9_1.length : Int))) == 0) = false := beq_eq_false_iff_ne.mpr c86
                                have c86b1 : ((IntKind.u64.wrap ((x9_1.length : Int))) != 0) = true := bne_iff_ne.mpr c86
                                obtain ⟨ji87, hji87⟩ : ∃ j_ : Int, (wrap64 (Int.tmod (IntKind.u64.wrap (a1)) (IntKind.u64.wrap ((x9_1.length : Int))))) = j_ := ⟨_, rfl⟩
                                replace H : (if 0 ≤ (ji87) then (if (ji87) < (x9_1.length : Int) then ((part_Hex.f kj39 (strOfNums (x9_1.set ((ji87) : Int).toNat a2))).bind fun bt210 => (if bt210.1.toList = ([] : List UInt8) then (some (bt210.2 == 111)) else (some false))) else (none)) else (none)) = some r := by first | (rw [hji87] at H; exact H) | (simp only [hji87] at H ⊢; exact H)
                                have hji87w : (IntKind.i64.wrap (Int.tmod (IntKind.u64.wrap (a1)) (IntKind.u64.wrap ((x9_1.length : Int))))) = ji87 := (i64_w _).trans hji87
                                by_cases c88 : 0 ≤ (ji87)
                                · rw [if_pos c88] at H
                                  have c88b0 : decide (0 ≤ (ji87)) = true := decide_eq_true c88
                                  clear c88
                                  by_cases c89 : (ji87) < (x9_1.length : Int)
                                  · rw [if_pos c89] at H
                                    have c89b0 : decide ((ji87) < (x9_1.length : Int)) = true := decide_eq_true c89
                                    clear c89
                                    obtain ⟨y209, hy209⟩ : ∃ y_ : List Int, y_ = (x9_1.set ((ji87) : Int).toNat a2) := ⟨_, rfl⟩
                                    replace H : ((part_Hex.f kj39 (strOfNums y209)).bind fun bt210 => (if bt210.1.toList = ([] : List UInt8) then (some (bt210.2 == 111)) else (some false))) = some r := by first | (rw [hy209]; with_reducible exact H) | (have H2_ := (Option.bind_some _ _).symm.trans H; rw [hy209]; with_reducible exact H2_) | (have H2_ := (Option.bind_some _ _).symm.trans H; with_reducible exact H2_) | with_reducible exact H | (rw [hy209]; exact H) | exact H
                                    have Ny209 := Aside0.mk hy209
                                    clear hy209
                                    replace H := Option.bind_eq_some_iff.mp H
                                    obtain ⟨⟨t210, t211⟩, A910, H⟩ := H
                                    replace H : (if t210.toList = ([] : List UInt8) then (some (t211 == 111)) else (some false)) = some r := H
                                    have A91 := Aside0.mk A910
                                    clear A910
                                    by_cases c92 : t210.toList = ([] : List UInt8)
                                    · rw [if_pos c92] at H
                                      have c92b0 : (t210.toList == ([] : List UInt8)) = true := beq_iff_eq.mpr c92
                                      have c92b1 : (t210.toList != ([] : List UInt8)) = false := bne_eq_false_iff_eq.mpr c92
                                      clear c92
                                      obtain rfl := Option.some.inj H
                                      obtain ⟨Ao93, co93, eo93⟩ := Kd.R_slice HO_9.out
                                      subst eo93
                                      have p90 : 0 ≤ ((ji87) : Int) := of_decide_eq_true (by first | (with_reducible assumption) | assumption)
                                      have q90 : ((ji87) : Int) < ((x9_1.length : Int) : Int) := of_decide_eq_true (by first | (with_reducible assumption) | assumption)
                                      obtain ⟨go90, co90, eo90, gb90, gl90, cl90, HG90⟩ := Kd.R_form HO_9.out (by omega)
                                      (first | cases eo90 | (injection eo90 with ea_ en_ ec_; (first | subst ea_ | (injection ea_ with ea_; subst ea_)); subst ec_; clear en_))
                                      have GB90 := Aside0.mk gb90
                                      have GG90 := Aside0.mk HG90
                                      clear gb90 gl90 HG90
                                      obtain ⟨hx90_0, hf90_0⟩ := Kd.R_celln 0 HO_9.out ((ji87) : Int) p90 q90
                                      replace p90 := eq_true p90
                                      replace q90 := eq_true q90
                                      have HP94 := Kd.R_putg HO_9.out ((ji87) : Int) a2
                                      go_wp2_with (first | ((with_reducible refine gate_store (t := 5) (p := 138) rfl ?_); refine store_event (t := 5) (p := 138) (v := ?vo_w95) (w1 := (wc.setCell ⟨go90, ((ji87) : Int).toNat, none⟩ (.int .u8 a2))) ?hg ?ho ?hn ?hr ?_; (case ho => rfl); (case hg => rfl); (case hn => rfl); (case hr => first | (go_simp; done) | (go_simp; rfl)); intro w95 hw; have hg : wc.grownBy w95 (some go90) := (by rw [hw]; exact HP94.2); have hp_ : Kd.R (Kd.int .u8) 5 w95 w.heap.size (fun _ => True) (.slice (some ⟨go90, 0, none⟩) x9_1.length co93) y209 := (by rw [hw, Ny209.out]; exact HP94.1); clear HP94; have n0_ := Aside0.mk (hp_); have n1_ := Aside0.mk ((by rw [hw]; exact below_set (HB.out) GB90.out : Below w.heap.size w w95)); clear HO_9; clear HB; have HO_9 := n0_; have HB := n1_; clear n0_ n1_; clear hg hw hp_; have hcv96 := own_string (P := Try.prog) Try.underlying39 Try.underlying5 Try.underlying9 (Kd.own_of_R HO_9.out)) | ((with_reducible refine gate_callee (f := 20) rfl ?_); refine goesL_ (some 142) rfl rfl Try.func20 (by kernel_rfl) rfl #[.string (strOfNums y209)] rfl (by (try simp only [List.map_toArray, List.map_cons, List.map_nil]); first | done | rfl | (simp only [List.length_drop, List.length_take]; rfl)) ?_; (with_reducible refine (part_Hex.calls kj39 (strOfNums y209) t210 t211 _ A91.out).mono ?_); rintro e w97 ⟨rfl, hb⟩; refine ⟨_, rfl, ?_⟩; have n0_ := Aside0.mk (Kd.R_below (by (with_reducible repeat (first | apply Kd.R_alloc | apply Kd.R_drewN | apply Kd.R_drew)); exact HO_9.out) hb); have n1_ := Aside0.mk (below_step (by repeat (first | (with_reducible first | exact HB.out | apply below_alloc | apply pw_below_drewN | apply below_drew1) | exact HB.out)) hb); clear HO_9; clear HB; have HO_9 := n0_; have HB := n1_; clear n0_ n1_; (try clear hb); (try clear hb2); (try clear hk); (try clear hi)))
                                      go_ret
                                      exact ⟨by first | rfl | (simp [errW_none, errW_some] <;> rfl) | (simp only [← hji87]; first | rfl | (simp [errW_none, errW_some] <;> rfl)) | (simp [*, errW_none, errW_some] <;> rfl), by repeat (first | (with_reducible first | exact HB.out | apply below_alloc | apply pw_below_drewN | apply below_drew1) | exact HB.out)⟩
                                    · rw [if_neg c92] at H
                                      have c92b0 : (t210.toList == ([] : List UInt8)) = false := beq_eq_false_iff_ne.mpr c92
                                      have c92b1 : (t210.toList != ([] : List UInt8)) = true := bne_iff_ne.mpr c92
                                      obtain rfl := Option.some.inj H
                                      obtain ⟨Ao98, co98, eo98⟩ := Kd.R_slice HO_9.out
                                      subst eo98
                                      have p90 : 0 ≤ ((ji87) : Int) := of_decide_eq_true (by first | (with_reducible assumption) | assumption)
                                      have q90 : ((ji87) : Int) < ((x9_1.length : Int) : Int) := of_decide_eq_true (by first | (with_reducible assumption) | assumption)
                                      obtain ⟨go90, co90, eo90, gb90, gl90, cl90, HG90⟩ := Kd.R_form HO_9.out (by omega)
                                      (first | cases eo90 | (injection eo90 with ea_ en_ ec_; (first | subst ea_ | (injection ea_ with ea_; subst ea_)); subst ec_; clear en_))
                                      have GB90 := Aside0.mk gb90
                                      have GG90 := Aside0.mk HG90
                                      clear gb90 gl90 HG90
                                      obtain ⟨hx90_0, hf90_0⟩ := Kd.R_celln 0 HO_9.out ((ji87) : Int) p90 q90
                                      replace p90 := eq_true p90
                                      replace q90 := eq_true q90
                                      have HP99 := Kd.R_putg HO_9.out ((ji87) : Int) a2
                                      go_wp2_with (first | ((with_reducible refine gate_store (t := 5) (p := 138) rfl ?_); refine store_event (t := 5) (p := 138) (v := ?vo_w100) (w1 := (wc.setCell ⟨go90, ((ji87) : Int).toNat, none⟩ (.int .u8 a2))) ?hg ?ho ?hn ?hr ?_; (case ho => rfl); (case hg => rfl); (case hn => rfl); (case hr => first | (go_simp; done) | (go_simp; rfl)); intro w100 hw; have hg : wc.grownBy w100 (some go90) := (by rw [hw]; exact HP99.2); have hp_ : Kd.R (Kd.int .u8) 5 w100 w.heap.size (fun _ => True) (.slice (some ⟨go90, 0, none⟩) x9_1.length co98) y209 := (by rw [hw, Ny209.out]; exact HP99.1); clear HP99; have n0_ := Aside0.mk (hp_); have n1_ := Aside0.mk ((by rw [hw]; exact below_set (HB.out) GB90.out : Below w.heap.size w w100)); clear HO_9; clear HB; have HO_9 := n0_; have HB := n1_; clear n0_ n1_; clear hg hw hp_; have hcv101 := own_string (P := Try.prog) Try.underlying39 Try.underlying5 Try.underlying9 (Kd.own_of_R HO_9.out)) | ((with_reducible refine gate_callee (f := 20) rfl ?_); refine goesL_ (some 142) rfl rfl Try.func20 (by kernel_rfl) rfl #[.string (strOfNums y209)] rfl (by (try simp only [List.map_toArray, List.map_cons, List.map_nil]); first | done | rfl | (simp only [List.length_drop, List.length_take]; rfl)) ?_; (with_reducible refine (part_Hex.calls kj39 (strOfNums y209) t210 t211 _ A91.out).mono ?_); rintro e w102 ⟨rfl, hb⟩; refine ⟨_, rfl, ?_⟩; have n0_ := Aside0.mk (Kd.R_below (by (with_reducible repeat (first | apply Kd.R_alloc | apply Kd.R_drewN | apply Kd.R_drew)); exact HO_9.out) hb); have n1_ := Aside0.mk (below_step (by repeat (first | (with_reducible first | exact HB.out | apply below_alloc | apply pw_below_drewN | apply below_drew1) | exact HB.out)) hb); clear HO_9; clear HB; have HO_9 := n0_; have HB := n1_; clear n0_ n1_; (try clear hb); (try clear hb2); (try clear hk); (try clear hi)))
                                      go_ret
                                      exact ⟨by first | rfl | (simp [errW_none, errW_some] <;> rfl) | (simp only [← hji87]; first | rfl | (simp [errW_none, errW_some] <;> rfl)) | (simp [*, errW_none, errW_some] <;> rfl), by repeat (first | (with_reducible first | exact HB.out | apply below_alloc | apply pw_below_drewN | apply below_drew1) | exact HB.out)⟩
                                  · rw [if_neg c89] at H
                                    exact absurd H (by simp)
                                · rw [if_neg c88] at H
                                  exact absurd H (by simp)
                      · rw [if_neg c57] at H
                        have c57b0 : decide (97 ≤ a2) = false := decide_eq_false c57
                        clear c57
                        by_cases c103 : a2 ≥ 65
                        · rw [if_pos c103] at H
                          have c103b0 : decide (65 ≤ a2) = true := decide_eq_true c103
                          clear c103
                          by_cases c104 : (x9_1.length : Int) = 0
                          · rw [if_pos c104] at H
                            have c104b0 : ((x9_1.length : Int) == 0) = true := beq_iff_eq.mpr c104
                            have c104b1 : ((x9_1.length : Int) != 0) = false := bne_eq_false_iff_eq.mpr c104
                            clear c104
                            obtain rfl := Option.some.inj H
                            obtain ⟨Ao105, co105, eo105⟩ := Kd.R_slice HO_9.out
                            subst eo105
                            go_wp2
                            go_ret
                            exact ⟨by first | rfl | (simp [errW_none, errW_some] <;> rfl) | (simp [*, errW_none, errW_some] <;> rfl), by repeat (first | (with_reducible first | exact HB.out | apply below_alloc | apply pw_below_drewN | apply below_drew1) | exact HB.out)⟩
                          · rw [if_neg c104] at H
                            have c104b0 : ((x9_1.length : Int) == 0) = false := beq_eq_false_iff_ne.mpr c104
                            have c104b1 : ((x9_1.length : Int) != 0) = true := bne_iff_ne.mpr c104
                            have c104b2 : ¬ (x9_1 = []) := fun h_ => c104 (by rw [h_]; rfl)
                            by_cases c106 : a2 ≤ 70
                            · rw [if_pos c106] at H
                              have c106b0 : decide (a2 ≤ 70) = true := decide_eq_true c106
                              clear c106
                              obtain rfl := Option.some.inj H
                              obtain ⟨Ao107, co107, eo107⟩ := Kd.R_slice HO_9.out
                              subst eo107
                              go_wp2
                              go_ret
                              exact ⟨by first | rfl | (simp [errW_none, errW_some] <;> rfl) | (simp [*, errW_none, errW_some] <;> rfl), by repeat (first | (with_reducible first | exact HB.out | apply below_alloc | apply pw_below_drewN | apply below_drew1) | exact HB.out)⟩
                            · rw [if_neg c106] at H
                              have c106b0 : decide (a2 ≤ 70) = false := decide_eq_false c106
                              clear c106
                              by_cases c108 : (IntKind.u64.wrap ((x9_1.length : Int))) = 0
                              · rw [if_pos c108] at H
                                exact absurd H (by simp)
                              · rw [if_neg c108] at H
                                have c108b0 : ((IntKind.u64.wrap ((x9_1.length : Int))) == 0) = false := beq_eq_false_iff_ne.mpr c108
                                have c108b1 : ((IntKind.u64.wrap ((x9_1.length : Int))) != 0) = true := bne_iff_ne.mpr c108
                                obtain ⟨ji109, hji109⟩ : ∃ j_ : Int, (wrap64 (Int.tmod (IntKind.u64.wrap (a1)) (IntKind.u64.wrap ((x9_1.length : Int))))) = j_ := ⟨_, rfl⟩
                                replace H : (if 0 ≤ (ji109) then (if (ji109) < (x9_1.length : Int) then ((part_Hex.f kj39 (strOfNums (x9_1.set ((ji109) : Int).toNat a2))).bind fun bt213 => (if bt213.1.toList = ([] : List UInt8) then (some (bt213.2 == 111)) else (some false))) else (none)) else (none)) = some r := by first | (rw [hji109] at H; exact H) | (simp only [hji109] at H ⊢; exact H)
                                have hji109w : (IntKind.i64.wrap (Int.tmod (IntKind.u64.wrap (a1)) (IntKind.u64.wrap ((x9_1.length : Int))))) = ji109 := (i64_w _).trans hji109
                                by_cases c110 : 0 ≤ (ji109)
                                · rw [if_pos c110] at H
                                  have c110b0 : decide (0 ≤ (ji109)) = true := decide_eq_true c110
                                  clear c110
                                  by_cases c111 : (ji109) < (x9_1.length : Int)
                                  · rw [if_pos c111] at H
                                    have c111b0 : decide ((ji109) < (x9_1.length : Int)) = true := decide_eq_true c111
                                    clear c111
                                    obtain ⟨y212, hy212⟩ : ∃ y_ : List Int, y_ = (x9_1.set ((ji109) : Int).toNat a2) := ⟨_, rfl⟩
                                    replace H : ((part_Hex.f kj39 (strOfNums y212)).bind fun bt213 => (if bt213.1.toList = ([] : List UInt8) then (some (bt213.2 == 111)) else (some false))) = some r := by first | (rw [hy212]; with_reducible exact H) | (have H2_ := (Option.bind_some _ _).symm.trans H; rw [hy212]; with_reducible exact H2_) | (have H2_ := (Option.bind_some _ _).symm.trans H; with_reducible exact H2_) | with_reducible exact H | (rw [hy212]; exact H) | exact H
                                    have Ny212 := Aside0.mk hy212
                                    clear hy212
                                    replace H := Option.bind_eq_some_iff.mp H
                                    obtain ⟨⟨t213, t214⟩, A1130, H⟩ := H
                                    replace H : (if t213.toList = ([] : List UInt8) then (some (t214 == 111)) else (some false)) = some r := H
                                    have A113 := Aside0.mk A1130
                                    clear A1130
                                    by_cases c114 : t213.toList = ([] : List UInt8)
                                    · rw [if_pos c114] at H
                                      have c114b0 : (t213.toList == ([] : List UInt8)) = true := beq_iff_eq.mpr c114
                                      have c114b1 : (t213.toList != ([] : List UInt8)) = false := bne_eq_false_iff_eq.mpr c114
                                      clear c114
                                      obtain rfl := Option.some.inj H
                                      obtain ⟨Ao115, co115, eo115⟩ := Kd.R_slice HO_9.out
                                      subst eo115
                                      have p112 : 0 ≤ ((ji109) : Int) := of_decide_eq_true (by first | (with_reducible assumption) | assumption)
                                      have q112 : ((ji109) : Int) < ((x9_1.length : Int) : Int) := of_decide_eq_true (by first | (with_reducible assumption) | assumption)
                                      obtain ⟨go112, co112, eo112, gb112, gl112, cl112, HG112⟩ := Kd.R_form HO_9.out (by omega)
                                      (first | cases eo112 | (injection eo112 with ea_ en_ ec_; (first | subst ea_ | (injection ea_ with ea_; subst ea_)); subst ec_; clear en_))
                                      have GB112 := Aside0.mk gb112
                                      have GG112 := Aside0.mk HG112
                                      clear gb112 gl112 HG112
                                      obtain ⟨hx112_0, hf112_0⟩ := Kd.R_celln 0 HO_9.out ((ji109) : Int) p112 q112
                                      replace p112 := eq_true p112
                                      replace q112 := eq_true q112
                                      have HP116 := Kd.R_putg HO_9.out ((ji109) : Int) a2
                                      go_wp2_with (first | ((with_reducible refine gate_store (t := 5) (p := 138) rfl ?_); refine store_event (t := 5) (p := 138) (v := ?vo_w117) (w1 := (wc.setCell ⟨go112, ((ji109) : Int).toNat, none⟩ (.int .u8 a2))) ?hg ?ho ?hn ?hr ?_; (case ho => rfl); (case hg => rfl); (case hn => rfl); (case hr => first | (go_simp; done) | (go_simp; rfl)); intro w117 hw; have hg : wc.grownBy w117 (some go112) := (by rw [hw]; exact HP116.2); have hp_ : Kd.R (Kd.int .u8) 5 w117 w.heap.size (fun _ => True) (.slice (some ⟨go112, 0, none⟩) x9_1.length co115) y212 := (by rw [hw, Ny212.out]; exact HP116.1); clear HP116; have n0_ := Aside0.mk (hp_); have n1_ := Aside0.mk ((by rw [hw]; exact below_set (HB.out) GB112.out : Below w.heap.size w w117)); clear HO_9; clear HB; have HO_9 := n0_; have HB := n1_; clear n0_ n1_; clear hg hw hp_; have hcv118 := own_string (P := Try.prog) Try.underlying39 Try.underlying5 Try.underlying9 (Kd.own_of_R HO_9.out)) | ((with_reducible refine gate_callee (f := 20) rfl ?_); refine goesL_ (some 142) rfl rfl Try.func20 (by kernel_rfl) rfl #[.string (strOfNums y212)] rfl (by (try simp only [List.map_toArray, List.map_cons, List.map_nil]); first | done | rfl | (simp only [List.length_drop, List.length_take]; rfl)) ?_; (with_reducible refine (part_Hex.calls kj39 (strOfNums y212) t213 t214 _ A113.out).mono ?_); rintro e w119 ⟨rfl, hb⟩; refine ⟨_, rfl, ?_⟩; have n0_ := Aside0.mk (Kd.R_below (by (with_reducible repeat (first | apply Kd.R_alloc | apply Kd.R_drewN | apply Kd.R_drew)); exact HO_9.out) hb); have n1_ := Aside0.mk (below_step (by repeat (first | (with_reducible first | exact HB.out | apply below_alloc | apply pw_below_drewN | apply below_drew1) | exact HB.out)) hb); clear HO_9; clear HB; have HO_9 := n0_; have HB := n1_; clear n0_ n1_; (try clear hb); (try clear hb2); (try clear hk); (try clear hi)))
                                      go_ret
                                      exact ⟨by first | rfl | (simp [errW_none, errW_some] <;> rfl) | (simp only [← hji109]; first | rfl | (simp [errW_none, errW_some] <;> rfl)) | (simp [*, errW_none, errW_some] <;> rfl), by repeat (first | (with_reducible first | exact HB.out | apply below_alloc | apply pw_below_drewN | apply below_drew1) | exact HB.out)⟩
                                    · rw [if_neg c114] at H
                                      have c114b0 : (t213.toList == ([] : List UInt8)) = false := beq_eq_false_iff_ne.mpr c114
                                      have c114b1 : (t213.toList != ([] : List UInt8)) = true := bne_iff_ne.mpr c114
                                      obtain rfl := Option.some.inj H
                                      obtain ⟨Ao120, co120, eo120⟩ := Kd.R_slice HO_9.out
                                      subst eo120
                                      have p112 : 0 ≤ ((ji109) : Int) := of_decide_eq_true (by first | (with_reducible assumption) | assumption)
                                      have q112 : ((ji109) : Int) < ((x9_1.length : Int) : Int) := of_decide_eq_true (by first | (with_reducible assumption) | assumption)
                                      obtain ⟨go112, co112, eo112, gb112, gl112, cl112, HG112⟩ := Kd.R_form HO_9.out (by omega)
                                      (first | cases eo112 | (injection eo112 with ea_ en_ ec_; (first | subst ea_ | (injection ea_ with ea_; subst ea_)); subst ec_; clear en_))
                                      have GB112 := Aside0.mk gb112
                                      have GG112 := Aside0.mk HG112
                                      clear gb112 gl112 HG112
                                      obtain ⟨hx112_0, hf112_0⟩ := Kd.R_celln 0 HO_9.out ((ji109) : Int) p112 q112
                                      replace p112 := eq_true p112
                                      replace q112 := eq_true q112
                                      have HP121 := Kd.R_putg HO_9.out ((ji109) : Int) a2
                                      go_wp2_with (first | ((with_reducible refine gate_store (t := 5) (p := 138) rfl ?_); refine store_event (t := 5) (p := 138) (v := ?vo_w122) (w1 := (wc.setCell ⟨go112, ((ji109) : Int).toNat, none⟩ (.int .u8 a2))) ?hg ?ho ?hn ?hr ?_; (case ho => rfl); (case hg => rfl); (case hn => rfl); (case hr => first | (go_simp; done) | (go_simp; rfl)); intro w122 hw; have hg : wc.grownBy w122 (some go112) := (by rw [hw]; exact HP121.2); have hp_ : Kd.R (Kd.int .u8) 5 w122 w.heap.size (fun _ => True) (.slice (some ⟨go112, 0, none⟩) x9_1.length co120) y212 := (by rw [hw, Ny212.out]; exact HP121.1); clear HP121; have n0_ := Aside0.mk (hp_); have n1_ := Aside0.mk ((by rw [hw]; exact below_set (HB.out) GB112.out : Below w.heap.size w w122)); clear HO_9; clear HB; have HO_9 := n0_; have HB := n1_; clear n0_ n1_; clear hg hw hp_; have hcv123 := own_string (P := Try.prog) Try.underlying39 Try.underlying5 Try.underlying9 (Kd.own_of_R HO_9.out)) | ((with_reducible refine gate_callee (f := 20) rfl ?_); refine goesL_ (some 142) rfl rfl Try.func20 (by kernel_rfl) rfl #[.string (strOfNums y212)] rfl (by (try simp only [List.map_toArray, List.map_cons, List.map_nil]); first | done | rfl | (simp only [List.length_drop, List.length_take]; rfl)) ?_; (with_reducible refine (part_Hex.calls kj39 (strOfNums y212) t213 t214 _ A113.out).mono ?_); rintro e w124 ⟨rfl, hb⟩; refine ⟨_, rfl, ?_⟩; have n0_ := Aside0.mk (Kd.R_below (by (with_reducible repeat (first | apply Kd.R_alloc | apply Kd.R_drewN | apply Kd.R_drew)); exact HO_9.out) hb); have n1_ := Aside0.mk (below_step (by repeat (first | (with_reducible first | exact HB.out | apply below_alloc | apply pw_below_drewN | apply below_drew1) | exact HB.out)) hb); clear HO_9; clear HB; have HO_9 := n0_; have HB := n1_; clear n0_ n1_; (try clear hb); (try clear hb2); (try clear hk); (try clear hi)))
                                      go_ret
                                      exact ⟨by first | rfl | (simp [errW_none, errW_some] <;> rfl) | (simp only [← hji109]; first | rfl | (simp [errW_none, errW_some] <;> rfl)) | (simp [*, errW_none, errW_some] <;> rfl), by repeat (first | (with_reducible first | exact HB.out | apply below_alloc | apply pw_below_drewN | apply below_drew1) | exact HB.out)⟩
                                  · rw [if_neg c111] at H
                                    exact absurd H (by simp)
                                · rw [if_neg c110] at H
                                  exact absurd H (by simp)
                        · rw [if_neg c103] at H
                          have c103b0 : decide (65 ≤ a2) = false := decide_eq_false c103
                          clear c103
                          by_cases c125 : (x9_1.length : Int) = 0
                          · rw [if_pos c125] at H
                            have c125b0 : ((x9_1.length : Int) == 0) = true := beq_iff_eq.mpr c125
                            have c125b1 : ((x9_1.length : Int) != 0) = false := bne_eq_false_iff_eq.mpr c125
                            clear c125
                            obtain rfl := Option.some.inj H
                            obtain ⟨Ao126, co126, eo126⟩ := Kd.R_slice HO_9.out
                            subst eo126
                            go_wp2
                            go_ret
                            exact ⟨by first | rfl | (simp [errW_none, errW_some] <;> rfl) | (simp [*, errW_none, errW_some] <;> rfl), by repeat (first | (with_reducible first | exact HB.out | apply below_alloc | apply pw_below_drewN | apply below_drew1) | exact HB.out)⟩
                          · rw [if_neg c125] at H
                            have c125b0 : ((x9_1.length : Int) == 0) = false := beq_eq_false_iff_ne.mpr c125
                            have c125b1 : ((x9_1.length : Int) != 0) = true := bne_iff_ne.mpr c125
                            have c125b2 : ¬ (x9_1 = []) := fun h_ => c125 (by rw [h_]; rfl)
                            by_cases c127 : (IntKind.u64.wrap ((x9_1.length : Int))) = 0
                            · rw [if_pos c127] at H
                              exact absurd H (by simp)
                            · rw [if_neg c127] at H
                              have c127b0 : ((IntKind.u64.wrap ((x9_1.length : Int))) == 0) = false := beq_eq_false_iff_ne.mpr c127
                              have c127b1 : ((IntKind.u64.wrap ((x9_1.length : Int))) != 0) = true := bne_iff_ne.mpr c127
                              obtain ⟨ji128, hji128⟩ : ∃ j_ : Int, (wrap64 (Int.tmod (IntKind.u64.wrap (a1)) (IntKind.u64.wrap ((x9_1.length : Int))))) = j_ := ⟨_, rfl⟩
                              replace H : (if 0 ≤ (ji128) then (if (ji128) < (x9_1.length : Int) then ((part_Hex.f kj39 (strOfNums (x9_1.set ((ji128) : Int).toNat a2))).bind fun bt216 => (if bt216.1.toList = ([] : List UInt8) then (some (bt216.2 == 111)) else (some false))) else (none)) else (none)) = some r := by first | (rw [hji128] at H; exact H) | (simp only [hji128] at H ⊢; exact H)
                              have hji128w : (IntKind.i64.wrap (Int.tmod (IntKind.u64.wrap (a1)) (IntKind.u64.wrap ((x9_1.length : Int))))) = ji128 := (i64_w _).trans hji128
                              by_cases c129 : 0 ≤ (ji128)
                              · rw [if_pos c129] at H
                                have c129b0 : decide (0 ≤ (ji128)) = true := decide_eq_true c129
                                clear c129
                                by_cases c130 : (ji128) < (x9_1.length : Int)
                                · rw [if_pos c130] at H
                                  have c130b0 : decide ((ji128) < (x9_1.length : Int)) = true := decide_eq_true c130
                                  clear c130
                                  obtain ⟨y215, hy215⟩ : ∃ y_ : List Int, y_ = (x9_1.set ((ji128) : Int).toNat a2) := ⟨_, rfl⟩
                                  replace H : ((part_Hex.f kj39 (strOfNums y215)).bind fun bt216 => (if bt216.1.toList = ([] : List UInt8) then (some (bt216.2 == 111)) else (some false))) = some r := by first | (rw [hy215]; with_reducible exact H) | (have H2_ := (Option.bind_some _ _).symm.trans H; rw [hy215]; with_reducible exact H2_) | (have H2_ := (Option.bind_some _ _).symm.trans H; with_reducible exact H2_) | with_reducible exact H | (rw [hy215]; exact H) | exact H
                                  have Ny215 := Aside0.mk hy215
                                  clear hy215
                                  replace H := Option.bind_eq_some_iff.mp H
                                  obtain ⟨⟨t216, t217⟩, A1320, H⟩ := H
                                  replace H : (if t216.toList = ([] : List UInt8) then (some (t217 == 111)) else (some false)) = some r := H
                                  have A132 := Aside0.mk A1320
                                  clear A1320
                                  by_cases c133 : t216.toList = ([] : List UInt8)
                                  · rw [if_pos c133] at H
                                    have c133b0 : (t216.toList == ([] : List UInt8)) = true := beq_iff_eq.mpr c133
                                    have c133b1 : (t216.toList != ([] : List UInt8)) = false := bne_eq_false_iff_eq.mpr c133
                                    clear c133
                                    obtain rfl := Option.some.inj H
                                    obtain ⟨Ao134, co134, eo134⟩ := Kd.R_slice HO_9.out
                                    subst eo134
                                    have p131 : 0 ≤ ((ji128) : Int) := of_decide_eq_true (by first | (with_reducible assumption) | assumption)
                                    have q131 : ((ji128) : Int) < ((x9_1.length : Int) : Int) := of_decide_eq_true (by first | (with_reducible assumption) | assumption)
                                    obtain ⟨go131, co131, eo131, gb131, gl131, cl131, HG131⟩ := Kd.R_form HO_9.out (by omega)
                                    (first | cases eo131 | (injection eo131 with ea_ en_ ec_; (first | subst ea_ | (injection ea_ with ea_; subst ea_)); subst ec_; clear en_))
                                    have GB131 := Aside0.mk gb131
                                    have GG131 := Aside0.mk HG131
                                    clear gb131 gl131 HG131
                                    obtain ⟨hx131_0, hf131_0⟩ := Kd.R_celln 0 HO_9.out ((ji128) : Int) p131 q131
                                    replace p131 := eq_true p131
                                    replace q131 := eq_true q131
                                    have HP135 := Kd.R_putg HO_9.out ((ji128) : Int) a2
                                    go_wp2_with (first | ((with_reducible refine gate_store (t := 5) (p := 138) rfl ?_); refine store_event (t := 5) (p := 138) (v := ?vo_w136) (w1 := (wc.setCell ⟨go131, ((ji128) : Int).toNat, none⟩ (.int .u8 a2))) ?hg ?ho ?hn ?hr ?_; (case ho => rfl); (case hg => rfl); (case hn => rfl); (case hr => first | (go_simp; done) | (go_simp; rfl)); intro w136 hw; have hg : wc.grownBy w136 (some go131) := (by rw [hw]; exact HP135.2); have hp_ : Kd.R (Kd.int .u8) 5 w136 w.heap.size (fun _ => True) (.slice (some ⟨go131, 0, none⟩) x9_1.length co134) y215 := (by rw [hw, Ny215.out]; exact HP135.1); clear HP135; have n0_ := Aside0.mk (hp_); have n1_ := Aside0.mk ((by rw [hw]; exact below_set (HB.out) GB131.out : Below w.heap.size w w136)); clear HO_9; clear HB; have HO_9 := n0_; have HB := n1_; clear n0_ n1_; clear hg hw hp_; have hcv137 := own_string (P := Try.prog) Try.underlying39 Try.underlying5 Try.underlying9 (Kd.own_of_R HO_9.out)) | ((with_reducible refine gate_callee (f := 20) rfl ?_); refine goesL_ (some 142) rfl rfl Try.func20 (by kernel_rfl) rfl #[.string (strOfNums y215)] rfl (by (try simp only [List.map_toArray, List.map_cons, List.map_nil]); first | done | rfl | (simp only [List.length_drop, List.length_take]; rfl)) ?_; (with_reducible refine (part_Hex.calls kj39 (strOfNums y215) t216 t217 _ A132.out).mono ?_); rintro e w138 ⟨rfl, hb⟩; refine ⟨_, rfl, ?_⟩; have n0_ := Aside0.mk (Kd.R_below (by (with_reducible repeat (first | apply Kd.R_alloc | apply Kd.R_drewN | apply Kd.R_drew)); exact HO_9.out) hb); have n1_ := Aside0.mk (below_step (by repeat (first | (with_reducible first | exact HB.out | apply below_alloc | apply pw_below_drewN | apply below_drew1) | exact HB.out)) hb); clear HO_9; clear HB; have HO_9 := n0_; have HB := n1_; clear n0_ n1_; (try clear hb); (try clear hb2); (try clear hk); (try clear hi)))
                                    go_ret
                                    exact ⟨by first | rfl | (simp [errW_none, errW_some] <;> rfl) | (simp only [← hji128]; first | rfl | (simp [errW_none, errW_some] <;> rfl)) | (simp [*, errW_none, errW_some] <;> rfl), by repeat (first | (with_reducible first | exact HB.out | apply below_alloc | apply pw_below_drewN | apply below_drew1) | exact HB.out)⟩
                                  · rw [if_neg c133] at H
                                    have c133b0 : (t216.toList == ([] : List UInt8)) = false := beq_eq_false_iff_ne.mpr c133
                                    have c133b1 : (t216.toList != ([] : List UInt8)) = true := bne_iff_ne.mpr c133
                                    obtain rfl := Option.some.inj H
                                    obtain ⟨Ao139, co139, eo139⟩ := Kd.R_slice HO_9.out
                                    subst eo139
                                    have p131 : 0 ≤ ((ji128) : Int) := of_decide_eq_true (by first | (with_reducible assumption) | assumption)
                                    have q131 : ((ji128) : Int) < ((x9_1.length : Int) : Int) := of_decide_eq_true (by first | (with_reducible assumption) | assumption)
                                    obtain ⟨go131, co131, eo131, gb131, gl131, cl131, HG131⟩ := Kd.R_form HO_9.out (by omega)
                                    (first | cases eo131 | (injection eo131 with ea_ en_ ec_; (first | subst ea_ | (injection ea_ with ea_; subst ea_)); subst ec_; clear en_))
                                    have GB131 := Aside0.mk gb131
                                    have GG131 := Aside0.mk HG131
                                    clear gb131 gl131 HG131
                                    obtain ⟨hx131_0, hf131_0⟩ := Kd.R_celln 0 HO_9.out ((ji128) : Int) p131 q131
                                    replace p131 := eq_true p131
                                    replace q131 := eq_true q131
                                    have HP140 := Kd.R_putg HO_9.out ((ji128) : Int) a2
                                    go_wp2_with (first | ((with_reducible refine gate_store (t := 5) (p := 138) rfl ?_); refine store_event (t := 5) (p := 138) (v := ?vo_w141) (w1 := (wc.setCell ⟨go131, ((ji128) : Int).toNat, none⟩ (.int .u8 a2))) ?hg ?ho ?hn ?hr ?_; (case ho => rfl); (case hg => rfl); (case hn => rfl); (case hr => first | (go_simp; done) | (go_simp; rfl)); intro w141 hw; have hg : wc.grownBy w141 (some go131) := (by rw [hw]; exact HP140.2); have hp_ : Kd.R (Kd.int .u8) 5 w141 w.heap.size (fun _ => True) (.slice (some ⟨go131, 0, none⟩) x9_1.length co139) y215 := (by rw [hw, Ny215.out]; exact HP140.1); clear HP140; have n0_ := Aside0.mk (hp_); have n1_ := Aside0.mk ((by rw [hw]; exact below_set (HB.out) GB131.out : Below w.heap.size w w141)); clear HO_9; clear HB; have HO_9 := n0_; have HB := n1_; clear n0_ n1_; clear hg hw hp_; have hcv142 := own_string (P := Try.prog) Try.underlying39 Try.underlying5 Try.underlying9 (Kd.own_of_R HO_9.out)) | ((with_reducible refine gate_callee (f := 20) rfl ?_); refine goesL_ (some 142) rfl rfl Try.func20 (by kernel_rfl) rfl #[.string (strOfNums y215)] rfl (by (try simp only [List.map_toArray, List.map_cons, List.map_nil]); first | done | rfl | (simp only [List.length_drop, List.length_take]; rfl)) ?_; (with_reducible refine (part_Hex.calls kj39 (strOfNums y215) t216 t217 _ A132.out).mono ?_); rintro e w143 ⟨rfl, hb⟩; refine ⟨_, rfl, ?_⟩; have n0_ := Aside0.mk (Kd.R_below (by (with_reducible repeat (first | apply Kd.R_alloc | apply Kd.R_drewN | apply Kd.R_drew)); exact HO_9.out) hb); have n1_ := Aside0.mk (below_step (by repeat (first | (with_reducible first | exact HB.out | apply below_alloc | apply pw_below_drewN | apply below_drew1) | exact HB.out)) hb); clear HO_9; clear HB; have HO_9 := n0_; have HB := n1_; clear n0_ n1_; (try clear hb); (try clear hb2); (try clear hk); (try clear hi)))
                                    go_ret
                                    exact ⟨by first | rfl | (simp [errW_none, errW_some] <;> rfl) | (simp only [← hji128]; first | rfl | (simp [errW_none, errW_some] <;> rfl)) | (simp [*, errW_none, errW_some] <;> rfl), by repeat (first | (with_reducible first | exact HB.out | apply below_alloc | apply pw_below_drewN | apply below_drew1) | exact HB.out)⟩
                                · rw [if_neg c130] at H
                                  exact absurd H (by simp)
                              · rw [if_neg c129] at H
                                exact absurd H (by simp)
                  · rw [if_neg c52] at H
                    have c52b0 : decide (48 ≤ a2) = false := decide_eq_false c52
                    clear c52
                    by_cases c144 : a2 ≥ 97
                    · rw [if_pos c144] at H
                      have c144b0 : decide (97 ≤ a2) = true := decide_eq_true c144
                      clear c144
                      by_cases c145 : a2 ≤ 102
                      · rw [if_pos c145] at H
                        have c145b0 : decide (a2 ≤ 102) = true := decide_eq_true c145
                        clear c145
                        by_cases c146 : (x9_1.length : Int) = 0
                        · rw [if_pos c146] at H
                          have c146b0 : ((x9_1.length : Int) == 0) = true := beq_iff_eq.mpr c146
                          have c146b1 : ((x9_1.length : Int) != 0) = false := bne_eq_false_iff_eq.mpr c146
                          clear c146
                          obtain rfl := Option.some.inj H
                          obtain ⟨Ao147, co147, eo147⟩ := Kd.R_slice HO_9.out
                          subst eo147
                          go_wp2
                          go_ret
                          exact ⟨by first | rfl | (simp [errW_none, errW_some] <;> rfl) | (simp [*, errW_none, errW_some] <;> rfl), by repeat (first | (with_reducible first | exact HB.out | apply below_alloc | apply pw_below_drewN | apply below_drew1) | exact HB.out)⟩
                        · rw [if_neg c146] at H
                          have c146b0 : ((x9_1.length : Int) == 0) = false := beq_eq_false_iff_ne.mpr c146
                          have c146b1 : ((x9_1.length : Int) != 0) = true := bne_iff_ne.mpr c146
                          have c146b2 : ¬ (x9_1 = []) := fun h_ => c146 (by rw [h_]; rfl)
                          obtain rfl := Option.some.inj H
                          obtain ⟨Ao148, co148, eo148⟩ := Kd.R_slice HO_9.out
                          subst eo148
                          go_wp2
                          go_ret
                          exact ⟨by first | rfl | (simp [errW_none, errW_some] <;> rfl) | (simp [*, errW_none, errW_some] <;> rfl), by repeat (first | (with_reducible first | exact HB.out | apply below_alloc | apply pw_below_drewN | apply below_drew1) | exact HB.out)⟩
                      · rw [if_neg c145] at H
                        have c145b0 : decide (a2 ≤ 102) = false := decide_eq_false c145
                        clear c145
                        by_cases c149 : a2 ≥ 65
                        · rw [if_pos c149] at H
                          have c149b0 : decide (65 ≤ a2) = true := decide_eq_true c149
                          clear c149
                          by_cases c150 : (x9_1.length : Int) = 0
                          · rw [if_pos c150] at H
                            have c150b0 : ((x9_1.length : Int) == 0) = true := beq_iff_eq.mpr c150
                            have c150b1 : ((x9_1.length : Int) != 0) = false := bne_eq_false_iff_eq.mpr c150
                            clear c150
                            obtain rfl := Option.some.inj H
                            obtain ⟨Ao151, co151, eo151⟩ := Kd.R_slice HO_9.out
                            subst eo151
                            go_wp2
                            go_ret
                            exact ⟨by first | rfl | (simp [errW_none, errW_some] <;> rfl) | (simp [*, errW_none, errW_some] <;> rfl), by repeat (first | (with_reducible first | exact HB.out | apply below_alloc | apply pw_below_drewN | apply below_drew1) | exact HB.out)⟩
                          · rw [if_neg c150] at H
                            have c150b0 : ((x9_1.length : Int) == 0) = false := beq_eq_false_iff_ne.mpr c150
                            have c150b1 : ((x9_1.length : Int) != 0) = true := bne_iff_ne.mpr c150
                            have c150b2 : ¬ (x9_1 = []) := fun h_ => c150 (by rw [h_]; rfl)
                            by_cases c152 : a2 ≤ 70
                            · rw [if_pos c152] at H
                              have c152b0 : decide (a2 ≤ 70) = true := decide_eq_true c152
                              clear c152
                              obtain rfl := Option.some.inj H
                              obtain ⟨Ao153, co153, eo153⟩ := Kd.R_slice HO_9.out
                              subst eo153
                              go_wp2
                              go_ret
                              exact ⟨by first | rfl | (simp [errW_none, errW_some] <;> rfl) | (simp [*, errW_none, errW_some] <;> rfl), by repeat (first | (with_reducible first | exact HB.out | apply below_alloc | apply pw_below_drewN | apply below_drew1) | exact HB.out)⟩
                            · rw [if_neg c152] at H
                              have c152b0 : decide (a2 ≤ 70) = false := decide_eq_false c152
                              clear c152
                              by_cases c154 : (IntKind.u64.wrap ((x9_1.length : Int))) = 0
                              · rw [if_pos c154] at H
                                exact absurd H (by simp)
                              · rw [if_neg c154] at H
                                have c154b0 : ((IntKind.u64.wrap ((x9_1.length : Int))) == 0) = false := beq_eq_false_iff_ne.mpr c154
                                have c154b1 : ((IntKind.u64.wrap ((x9_1.length : Int))) != 0) = true := bne_iff_ne.mpr c154
                                obtain ⟨ji155, hji155⟩ : ∃ j_ : Int, (wrap64 (Int.tmod (IntKind.u64.wrap (a1)) (IntKind.u64.wrap ((x9_1.length : Int))))) = j_ := ⟨_, rfl⟩
                                replace H : (if 0 ≤ (ji155) then (if (ji155) < (x9_1.length : Int) then ((part_Hex.f kj39 (strOfNums (x9_1.set ((ji155) : Int).toNat a2))).bind fun bt219 => (if bt219.1.toList = ([] : List UInt8) then (some (bt219.2 == 111)) else (some false))) else (none)) else (none)) = some r := by first | (rw [hji155] at H; exact H) | (simp only [hji155] at H ⊢; exact H)
                                have hji155w : (IntKind.i64.wrap (Int.tmod (IntKind.u64.wrap (a1)) (IntKind.u64.wrap ((x9_1.length : Int))))) = ji155 := (i64_w _).trans hji155
                                by_cases c156 : 0 ≤ (ji155)
                                · rw [if_pos c156] at H
                                  have c156b0 : decide (0 ≤ (ji155)) = true := decide_eq_true c156
                                  clear c156
                                  by_cases c157 : (ji155) < (x9_1.length : Int)
                                  · rw [if_pos c157] at H
                                    have c157b0 : decide ((ji155) < (x9_1.length : Int)) = true := decide_eq_true c157
                                    clear c157
                                    obtain ⟨y218, hy218⟩ : ∃ y_ : List Int, y_ = (x9_1.set ((ji155) : Int).toNat a2) := ⟨_, rfl⟩
                                    replace H : ((part_Hex.f kj39 (strOfNums y218)).bind fun bt219 => (if bt219.1.toList = ([] : List UInt8) then (some (bt219.2 == 111)) else (some false))) = some r := by first | (rw [hy218]; with_reducible exact H) | (have H2_ := (Option.bind_some _ _).symm.trans H; rw [hy218]; with_reducible exact H2_) | (have H2_ := (Option.bind_some _ _).symm.trans H; with_reducible exact H2_) | with_reducible exact H | (rw [hy218]; exact H) | exact H
                                    have Ny218 := Aside0.mk hy218
                                    clear hy218
                                    replace H := Option.bind_eq_some_iff.mp H
                                    obtain ⟨⟨t219, t220⟩, A1590, H⟩ := H
                                    replace H : (if t219.toList = ([] : List UInt8) then (some (t220 == 111)) else (some false)) = some r := H
                                    have A159 := Aside0.mk A1590
                                    clear A1590
                                    by_cases c160 : t219.toList = ([] : List UInt8)
                                    · rw [if_pos c160] at H
                                      have c160b0 : (t219.toList == ([] : List UInt8)) = true := beq_iff_eq.mpr c160
                                      have c160b1 : (t219.toList != ([] : List UInt8)) = false := bne_eq_false_iff_eq.mpr c160
                                      clear c160
                                      obtain rfl := Option.some.inj H
                                      obtain ⟨Ao161, co161, eo161⟩ := Kd.R_slice HO_9.out
                                      subst eo161
                                      have p158 : 0 ≤ ((ji155) : Int) := of_decide_eq_true (by first | (with_reducible assumption) | assumption)
                                      have q158 : ((ji155) : Int) < ((x9_1.length : Int) : Int) := of_decide_eq_true (by first | (with_reducible assumption) | assumption)
                                      obtain ⟨go158, co158, eo158, gb158, gl158, cl158, HG158⟩ := Kd.R_form HO_9.out (by omega)
                                      (first | cases eo158 | (injection eo158 with ea_ en_ ec_; (first | subst ea_ | (injection ea_ with ea_; subst ea_)); subst ec_; clear en_))
                                      have GB158 := Aside0.mk gb158
                                      have GG158 := Aside0.mk HG158
                                      clear gb158 gl158 HG158
                                      obtain ⟨hx158_0, hf158_0⟩ := Kd.R_celln 0 HO_9.out ((ji155) : Int) p158 q158
                                      replace p158 := eq_true p158
                                      replace q158 := eq_true q158
                                      have HP162 := Kd.R_putg HO_9.out ((ji155) : Int) a2
                                      go_wp2_with (first | ((with_reducible refine gate_store (t := 5) (p := 138) rfl ?_); refine store_event (t := 5) (p := 138) (v := ?vo_w163) (w1 := (wc.setCell ⟨go158, ((ji155) : Int).toNat, none⟩ (.int .u8 a2))) ?hg ?ho ?hn ?hr ?_; (case ho => rfl); (case hg => rfl); (case hn => rfl); (case hr => first | (go_simp; done) | (go_simp; rfl)); intro w163 hw; have hg : wc.grownBy w163 (some go158) := (by rw [hw]; exact HP162.2); have hp_ : Kd.R (Kd.int .u8) 5 w163 w.heap.size (fun _ => True) (.slice (some ⟨go158, 0, none⟩) x9_1.length co161) y218 := (by rw [hw, Ny218.out]; exact HP162.1); clear HP162; have n0_ := Aside0.mk (hp_); have n1_ := Aside0.mk ((by rw [hw]; exact below_set (HB.out) GB158.out : Below w.heap.size w w163)); clear HO_9; clear HB; have HO_9 := n0_; have HB := n1_; clear n0_ n1_; clear hg hw hp_; have hcv164 := own_string (P := Try.prog) Try.underlying39 Try.underlying5 Try.underlying9 (Kd.own_of_R HO_9.out)) | ((with_reducible refine gate_callee (f := 20) rfl ?_); refine goesL_ (some 142) rfl rfl Try.func20 (by kernel_rfl) rfl #[.string (strOfNums y218)] rfl (by (try simp only [List.map_toArray, List.map_cons, List.map_nil]); first | done | rfl | (simp only [List.length_drop, List.length_take]; rfl)) ?_; (with_reducible refine (part_Hex.calls kj39 (strOfNums y218) t219 t220 _ A159.out).mono ?_); rintro e w165 ⟨rfl, hb⟩; refine ⟨_, rfl, ?_⟩; have n0_ := Aside0.mk (Kd.R_below (by (with_reducible repeat (first | apply Kd.R_alloc | apply Kd.R_drewN | apply Kd.R_drew)); exact HO_9.out) hb); have n1_ := Aside0.mk (below_step (by repeat (first | (with_reducible first | exact HB.out | apply below_alloc | apply pw_below_drewN | apply below_drew1) | exact HB.out)) hb); clear HO_9; clear HB; have HO_9 := n0_; have HB := n1_; clear n0_ n1_; (try clear hb); (try clear hb2); (try clear hk); (try clear hi)))
                                      go_ret
                                      exact ⟨by first | rfl | (simp [errW_none, errW_some] <;> rfl) | (simp only [← hji155]; first | rfl | (simp [errW_none, errW_some] <;> rfl)) | (simp [*, errW_none, errW_some] <;> rfl), by repeat (first | (with_reducible first | exact HB.out | apply below_alloc | apply pw_below_drewN | apply below_drew1) | exact HB.out)⟩
                                    · rw [if_neg c160] at H
                                      have c160b0 : (t219.toList == ([] : List UInt8)) = false := beq_eq_false_iff_ne.mpr c160
                                      have c160b1 : (t219.toList != ([] : List UInt8)) = true := bne_iff_ne.mpr c160
                                      obtain rfl := Option.some.inj H
                                      obtain ⟨Ao166, co166, eo166⟩ := Kd.R_slice HO_9.out
                                      subst eo166
                                      have p158 : 0 ≤ ((ji155) : Int) := of_decide_eq_true (by first | (with_reducible assumption) | assumption)
                                      have q158 : ((ji155) : Int) < ((x9_1.length : Int) : Int) := of_decide_eq_true (by first | (with_reducible assumption) | assumption)
                                      obtain ⟨go158, co158, eo158, gb158, gl158, cl158, HG158⟩ := Kd.R_form HO_9.out (by omega)
                                      (first | cases eo158 | (injection eo158 with ea_ en_ ec_; (first | subst ea_ | (injection ea_ with ea_; subst ea_)); subst ec_; clear en_))
                                      have GB158 := Aside0.mk gb158
                                      have GG158 := Aside0.mk HG158
                                      clear gb158 gl158 HG158
                                      obtain ⟨hx158_0, hf158_0⟩ := Kd.R_celln 0 HO_9.out ((ji155) : Int) p158 q158
                                      replace p158 := eq_true p158
                                      replace q158 := eq_true q158
                                      have HP167 := Kd.R_putg HO_9.out ((ji155) : Int) a2
                                      go_wp2_with (first | ((with_reducible refine gate_store (t := 5) (p := 138) rfl ?_); refine store_event (t := 5) (p := 138) (v := ?vo_w168) (w1 := (wc.setCell ⟨go158, ((ji155) : Int).toNat, none⟩ (.int .u8 a2))) ?hg ?ho ?hn ?hr ?_; (case ho => rfl); (case hg => rfl); (case hn => rfl); (case hr => first | (go_simp; done) | (go_simp; rfl)); intro w168 hw; have hg : wc.grownBy w168 (some go158) := (by rw [hw]; exact HP167.2); have hp_ : Kd.R (Kd.int .u8) 5 w168 w.heap.size (fun _ => True) (.slice (some ⟨go158, 0, none⟩) x9_1.length co166) y218 := (by rw [hw, Ny218.out]; exact HP167.1); clear HP167; have n0_ := Aside0.mk (hp_); have n1_ := Aside0.mk ((by rw [hw]; exact below_set (HB.out) GB158.out : Below w.heap.size w w168)); clear HO_9; clear HB; have HO_9 := n0_; have HB := n1_; clear n0_ n1_; clear hg hw hp_; have hcv169 := own_string (P := Try.prog) Try.underlying39 Try.underlying5 Try.underlying9 (Kd.own_of_R HO_9.out)) | ((with_reducible refine gate_callee (f := 20) rfl ?_); refine goesL_ (some 142) rfl rfl Try.func20 (by kernel_rfl) rfl #[.string (strOfNums y218)] rfl (by (try simp only [List.map_toArray, List.map_cons, List.map_nil]); first | done | rfl | (simp only [List.length_drop, List.length_take]; rfl)) ?_; (with_reducible refine (part_Hex.calls kj39 (strOfNums y218) t219 t220 _ A159.out).mono ?_); rintro e w170 ⟨rfl, hb⟩; refine ⟨_, rfl, ?_⟩; have n0_ := Aside0.mk (Kd.R_below (by (with_reducible repeat (first | apply Kd.R_alloc | apply Kd.R_drewN | apply Kd.R_drew)); exact HO_9.out) hb); have n1_ := Aside0.mk (below_step (by repeat (first | (with_reducible first | exact HB.out | apply below_alloc | apply pw_below_drewN | apply below_drew1) | exact HB.out)) hb); clear HO_9; clear HB; have HO_9 := n0_; have HB := n1_; clear n0_ n1_; (try clear hb); (try clear hb2); (try clear hk); (try clear hi)))
                                      go_ret
                                      exact ⟨by first | rfl | (simp [errW_none, errW_some] <;> rfl) | (simp only [← hji155]; first | rfl | (simp [errW_none, errW_some] <;> rfl)) | (simp [*, errW_none, errW_some] <;> rfl), by repeat (first | (with_reducible first | exact HB.out | apply below_alloc | apply pw_below_drewN | apply below_drew1) | exact HB.out)⟩
                                  · rw [if_neg c157] at H
                                    exact absurd H (by simp)
                                · rw [if_neg c156] at H
                                  exact absurd H (by simp)
                        · rw [if_neg c149] at H
                          have c149b0 : decide (65 ≤ a2) = false := decide_eq_false c149
                          clear c149
                          by_cases c171 : (x9_1.length : Int) = 0
                          · rw [if_pos c171] at H
                            have c171b0 : ((x9_1.length : Int) == 0) = true := beq_iff_eq.mpr c171
                            have c171b1 : ((x9_1.length : Int) != 0) = false := bne_eq_false_iff_eq.mpr c171
                            clear c171
                            obtain rfl := Option.some.inj H
                            obtain ⟨Ao172, co172, eo172⟩ := Kd.R_slice HO_9.out
                            subst eo172
                            go_wp2
                            go_ret
                            exact ⟨by first | rfl | (simp [errW_none, errW_some] <;> rfl) | (simp [*, errW_none, errW_some] <;> rfl), by repeat (first | (with_reducible first | exact HB.out | apply below_alloc | apply pw_below_drewN | apply below_drew1) | exact HB.out)⟩
                          · rw [if_neg c171] at H
                            have c171b0 : ((x9_1.length : Int) == 0) = false := beq_eq_false_iff_ne.mpr c171
                            have c171b1 : ((x9_1.length : Int) != 0) = true := bne_iff_ne.mpr c171
                            have c171b2 : ¬ (x9_1 = []) := fun h_ => c171 (by rw [h_]; rfl)
                            by_cases c173 : (IntKind.u64.wrap ((x9_1.length : Int))) = 0
                            · rw [if_pos c173] at H
                              exact absurd H (by simp)
                            · rw [if_neg c173] at H
                              have c173b0 : ((IntKind.u64.wrap ((x9_1.length : Int))) == 0) = false := beq_eq_false_iff_ne.mpr c173
                              have c173b1 : ((IntKind.u64.wrap ((x9_1.length : Int))) != 0) = true := bne_iff_ne.mpr c173
                              obtain ⟨ji174, hji174⟩ : ∃ j_ : Int, (wrap64 (Int.tmod (IntKind.u64.wrap (a1)) (IntKind.u64.wrap ((x9_1.length : Int))))) = j_ := ⟨_, rfl⟩
                              replace H : (if 0 ≤ (ji174) then (if (ji174) < (x9_1.length : Int) then ((part_Hex.f kj39 (strOfNums (x9_1.set ((ji174) : Int).toNat a2))).bind fun bt222 => (if bt222.1.toList = ([] : List UInt8) then (some (bt222.2 == 111)) else (some false))) else (none)) else (none)) = some r := by first | (rw [hji174] at H; exact H) | (simp only [hji174] at H ⊢; exact H)
                              have hji174w : (IntKind.i64.wrap (Int.tmod (IntKind.u64.wrap (a1)) (IntKind.u64.wrap ((x9_1.length : Int))))) = ji174 := (i64_w _).trans hji174
                              by_cases c175 : 0 ≤ (ji174)
                              · rw [if_pos c175] at H
                                have c175b0 : decide (0 ≤ (ji174)) = true := decide_eq_true c175
                                clear c175
                                by_cases c176 : (ji174) < (x9_1.length : Int)
                                · rw [if_pos c176] at H
                                  have c176b0 : decide ((ji174) < (x9_1.length : Int)) = true := decide_eq_true c176
                                  clear c176
                                  obtain ⟨y221, hy221⟩ : ∃ y_ : List Int, y_ = (x9_1.set ((ji174) : Int).toNat a2) := ⟨_, rfl⟩
                                  replace H : ((part_Hex.f kj39 (strOfNums y221)).bind fun bt222 => (if bt222.1.toList = ([] : List UInt8) then (some (bt222.2 == 111)) else (some false))) = some r := by first | (rw [hy221]; with_reducible exact H) | (have H2_ := (Option.bind_some _ _).symm.trans H; rw [hy221]; with_reducible exact H2_) | (have H2_ := (Option.bind_some _ _).symm.trans H; with_reducible exact H2_) | with_reducible exact H | (rw [hy221]; exact H) | exact H
                                  have Ny221 := Aside0.mk hy221
                                  clear hy221
                                  replace H := Option.bind_eq_some_iff.mp H
                                  obtain ⟨⟨t222, t223⟩, A1780, H⟩ := H
                                  replace H : (if t222.toList = ([] : List UInt8) then (some (t223 == 111)) else (some false)) = some r := H
                                  have A178 := Aside0.mk A1780
                                  clear A1780
                                  by_cases c179 : t222.toList = ([] : List UInt8)
                                  · rw [if_pos c179] at H
                                    have c179b0 : (t222.toList == ([] : List UInt8)) = true := beq_iff_eq.mpr c179
                                    have c179b1 : (t222.toList != ([] : List UInt8)) = false := bne_eq_false_iff_eq.mpr c179
                                    clear c179
                                    obtain rfl := Option.some.inj H
                                    obtain ⟨Ao180, co180, eo180⟩ := Kd.R_slice HO_9.out
                                    subst eo180
                                    have p177 : 0 ≤ ((ji174) : Int) := of_decide_eq_true (by first | (with_reducible assumption) | assumption)
                                    have q177 : ((ji174) : Int) < ((x9_1.length : Int) : Int) := of_decide_eq_true (by first | (with_reducible assumption) | assumption)
                                    obtain ⟨go177, co177, eo177, gb177, gl177, cl177, HG177⟩ := Kd.R_form HO_9.out (by omega)
                                    (first | cases eo177 | (injection eo177 with ea_ en_ ec_; (first | subst ea_ | (injection ea_ with ea_; subst ea_)); subst ec_; clear en_))
                                    have GB177 := Aside0.mk gb177
                                    have GG177 := Aside0.mk HG177
                                    clear gb177 gl177 HG177
                                    obtain ⟨hx177_0, hf177_0⟩ := Kd.R_celln 0 HO_9.out ((ji174) : Int) p177 q177
                                    replace p177 := eq_true p177
                                    replace q177 := eq_true q177
                                    have HP181 := Kd.R_putg HO_9.out ((ji174) : Int) a2
                                    go_wp2_with (first | ((with_reducible refine gate_store (t := 5) (p := 138) rfl ?_); refine store_event (t := 5) (p := 138) (v := ?vo_w182) (w1 := (wc.setCell ⟨go177, ((ji174) : Int).toNat, none⟩ (.int .u8 a2))) ?hg ?ho ?hn ?hr ?_; (case ho => rfl); (case hg => rfl); (case hn => rfl); (case hr => first | (go_simp; done) | (go_simp; rfl)); intro w182 hw; have hg : wc.grownBy w182 (some go177) := (by rw [hw]; exact HP181.2); have hp_ : Kd.R (Kd.int .u8) 5 w182 w.heap.size (fun _ => True) (.slice (some ⟨go177, 0, none⟩) x9_1.length co180) y221 := (by rw [hw, Ny221.out]; exact HP181.1); clear HP181; have n0_ := Aside0.mk (hp_); have n1_ := Aside0.mk ((by rw [hw]; exact below_set (HB.out) GB177.out : Below w.heap.size w w182)); clear HO_9; clear HB; have HO_9 := n0_; have HB := n1_; clear n0_ n1_; clear hg hw hp_; have hcv183 := own_string (P := Try.prog) Try.underlying39 Try.underlying5 Try.underlying9 (Kd.own_of_R HO_9.out)) | ((with_reducible refine gate_callee (f := 20) rfl ?_); refine goesL_ (some 142) rfl rfl Try.func20 (by kernel_rfl) rfl #[.string (strOfNums y221)] rfl (by (try simp only [List.map_toArray, List.map_cons, List.map_nil]); first | done | rfl | (simp only [List.length_drop, List.length_take]; rfl)) ?_; (with_reducible refine (part_Hex.calls kj39 (strOfNums y221) t222 t223 _ A178.out).mono ?_); rintro e w184 ⟨rfl, hb⟩; refine ⟨_, rfl, ?_⟩; have n0_ := Aside0.mk (Kd.R_below (by (with_reducible repeat (first | apply Kd.R_alloc | apply Kd.R_drewN | apply Kd.R_drew)); exact HO_9.out) hb); have n1_ := Aside0.mk (below_step (by repeat (first | (with_reducible first | exact HB.out | apply below_alloc | apply pw_below_drewN | apply below_drew1) | exact HB.out)) hb); clear HO_9; clear HB; have HO_9 := n0_; have HB := n1_; clear n0_ n1_; (try clear hb); (try clear hb2); (try clear hk); (try clear hi)))
                                    go_ret
                                    exact ⟨by first | rfl | (simp [errW_none, errW_some] <;> rfl) | (simp only [← hji174]; first | rfl | (simp [errW_none, errW_some] <;> rfl)) | (simp [*, errW_none, errW_some] <;> rfl), by repeat (first | (with_reducible first | exact HB.out | apply below_alloc | apply pw_below_drewN | apply below_drew1) | exact HB.out)⟩
                                  · rw [if_neg c179] at H
                                    have c179b0 : (t222.toList == ([] : List UInt8)) = false := beq_eq_false_iff_ne.mpr c179
                                    have c179b1 : (t222.toList != ([] : List UInt8)) = true := bne_iff_ne.mpr c179
                                    obtain rfl := Option.some.inj H
                                    obtain ⟨Ao185, co185, eo185⟩ := Kd.R_slice HO_9.out
                                    subst eo185
                                    have p177 : 0 ≤ ((ji174) : Int) := of_decide_eq_true (by first | (with_reducible assumption) | assumption)
                                    have q177 : ((ji174) : Int) < ((x9_1.length : Int) : Int) := of_decide_eq_true (by first | (with_reducible assumption) | assumption)
                                    obtain ⟨go177, co177, eo177, gb177, gl177, cl177, HG177⟩ := Kd.R_form HO_9.out (by omega)
                                    (first | cases eo177 | (injection eo177 with ea_ en_ ec_; (first | subst ea_ | (injection ea_ with ea_; subst ea_)); subst ec_; clear en_))
                                    have GB177 := Aside0.mk gb177
                                    have GG177 := Aside0.mk HG177
                                    clear gb177 gl177 HG177
                                    obtain ⟨hx177_0, hf177_0⟩ := Kd.R_celln 0 HO_9.out ((ji174) : Int) p177 q177
                                    replace p177 := eq_true p177
                                    replace q177 := eq_true q177
                                    have HP186 := Kd.R_putg HO_9.out ((ji174) : Int) a2
                                    go_wp2_with (first | ((with_reducible refine gate_store (t := 5) (p := 138) rfl ?_); refine store_event (t := 5) (p := 138) (v := ?vo_w187) (w1 := (wc.setCell ⟨go177, ((ji174) : Int).toNat, none⟩ (.int .u8 a2))) ?hg ?ho ?hn ?hr ?_; (case ho => rfl); (case hg => rfl); (case hn => rfl); (case hr => first | (go_simp; done) | (go_simp; rfl)); intro w187 hw; have hg : wc.grownBy w187 (some go177) := (by rw [hw]; exact HP186.2); have hp_ : Kd.R (Kd.int .u8) 5 w187 w.heap.size (fun _ => True) (.slice (some ⟨go177, 0, none⟩) x9_1.length co185) y221 := (by rw [hw, Ny221.out]; exact HP186.1); clear HP186; have n0_ := Aside0.mk (hp_); have n1_ := Aside0.mk ((by rw [hw]; exact below_set (HB.out) GB177.out : Below w.heap.size w w187)); clear HO_9; clear HB; have HO_9 := n0_; have HB := n1_; clear n0_ n1_; clear hg hw hp_; have hcv188 := own_string (P := Try.prog) Try.underlying39 Try.underlying5 Try.underlying9 (Kd.own_of_R HO_9.out)) | ((with_reducible refine gate_callee (f := 20) rfl ?_); refine goesL_ (some 142) rfl rfl Try.func20 (by kernel_rfl) rfl #[.string (strOfNums y221)] rfl (by (try simp only [List.map_toArray, List.map_cons, List.map_nil]); first | done | rfl | (simp only [List.length_drop, List.length_take]; rfl)) ?_; (with_reducible refine (part_Hex.calls kj39 (strOfNums y221) t222 t223 _ A178.out).mono ?_); rintro e w189 ⟨rfl, hb⟩; refine ⟨_, rfl, ?_⟩; have n0_ := Aside0.mk (Kd.R_below (by (with_reducible repeat (first | apply Kd.R_alloc | apply Kd.R_drewN | apply Kd.R_drew)); exact HO_9.out) hb); have n1_ := Aside0.mk (below_step (by repeat (first | (with_reducible first | exact HB.out | apply below_alloc | apply pw_below_drewN | apply below_drew1) | exact HB.out)) hb); clear HO_9; clear HB; have HO_9 := n0_; have HB := n1_; clear n0_ n1_; (try clear hb); (try clear hb2); (try clear hk); (try clear hi)))
                                    go_ret
                                    exact ⟨by first | rfl | (simp [errW_none, errW_some] <;> rfl) | (simp only [← hji174]; first | rfl | (simp [errW_none, errW_some] <;> rfl)) | (simp [*, errW_none, errW_some] <;> rfl), by repeat (first | (with_reducible first | exact HB.out | apply below_alloc | apply pw_below_drewN | apply below_drew1) | exact HB.out)⟩
                                · rw [if_neg c176] at H
                                  exact absurd H (by simp)
                              · rw [if_neg c175] at H
                                exact absurd H (by simp)
                    · rw [if_neg c144] at H
                      have c144b0 : decide (97 ≤ a2) = false := decide_eq_false c144
                      clear c144
                      by_cases c190 : a2 ≥ 65
                      · rw [if_pos c190] at H
                        have c190b0 : decide (65 ≤ a2) = true := decide_eq_true c190
                        clear c190
                        by_cases c191 : (x9_1.length : Int) = 0
                        · rw [if_pos c191] at H
                          have c191b0 : ((x9_1.length : Int) == 0) = true := beq_iff_eq.mpr c191
                          have c191b1 : ((x9_1.length : Int) != 0) = false := bne_eq_false_iff_eq.mpr c191
                          clear c191
                          obtain rfl := Option.some.inj H
                          obtain ⟨Ao192, co192, eo192⟩ := Kd.R_slice HO_9.out
                          subst eo192
                          go_wp2
                          go_ret
                          exact ⟨by first | rfl | (simp [errW_none, errW_some] <;> rfl) | (simp [*, errW_none, errW_some] <;> rfl), by repeat (first | (with_reducible first | exact HB.out | apply below_alloc | apply pw_below_drewN | apply below_drew1) | exact HB.out)⟩
                        · rw [if_neg c191] at H
                          have c191b0 : ((x9_1.length : Int) == 0) = false := beq_eq_false_iff_ne.mpr c191
                          have c191b1 : ((x9_1.length : Int) != 0) = true := bne_iff_ne.mpr c191
                          have c191b2 : ¬ (x9_1 = []) := fun h_ => c191 (by rw [h_]; rfl)
                          by_cases c193 : a2 ≤ 70
                          · rw [if_pos c193] at H
                            have c193b0 : decide (a2 ≤ 70) = true := decide_eq_true c193
                            clear c193
                            obtain rfl := Option.some.inj H
                            obtain ⟨Ao194, co194, eo194⟩ := Kd.R_slice HO_9.out
                            subst eo194
                            go_wp2
                            go_ret
                            exact ⟨by first | rfl | (simp [errW_none, errW_some] <;> rfl) | (simp [*, errW_none, errW_some] <;> rfl), by repeat (first | (with_reducible first | exact HB.out | apply below_alloc | apply pw_below_drewN | apply below_drew1) | exact HB.out)⟩
                          · rw [if_neg c193] at H
                            have c193b0 : decide (a2 ≤ 70) = false := decide_eq_false c193
                            clear c193
                            by_cases c195 : (IntKind.u64.wrap ((x9_1.length : Int))) = 0
                            · rw [if_pos c195] at H
                              exact absurd H (by simp)
                            · rw [if_neg c195] at H
                              have c195b0 : ((IntKind.u64.wrap ((x9_1.length : Int))) == 0) = false := beq_eq_false_iff_ne.mpr c195
                              have c195b1 : ((IntKind.u64.wrap ((x9_1.length : Int))) != 0) = true := bne_iff_ne.mpr c195
                              obtain ⟨ji196, hji196⟩ : ∃ j_ : Int, (wrap64 (Int.tmod (IntKind.u64.wrap (a1)) (IntKind.u64.wrap ((x9_1.length : Int))))) = j_ := ⟨_, rfl⟩
                              replace H : (if 0 ≤ (ji196) then (if (ji196) < (x9_1.length : Int) then ((part_Hex.f kj39 (strOfNums (x9_1.set ((ji196) : Int).toNat a2))).bind fun bt225 => (if bt225.1.toList = ([] : List UInt8) then (some (bt225.2 == 111)) else (some false))) else (none)) else (none)) = some r := by first | (rw [hji196] at H; exact H) | (simp only [hji196] at H ⊢; exact H)
                              have hji196w : (IntKind.i64.wrap (Int.tmod (IntKind.u64.wrap (a1)) (IntKind.u64.wrap ((x9_1.length : Int))))) = ji196 := (i64_w _).trans hji196
                              by_cases c197 : 0 ≤ (ji196)
                              · rw [if_pos c197] at H
                                have c197b0 : decide (0 ≤ (ji196)) = true := decide_eq_true c197
                                clear c197
                                by_cases c198 : (ji196) < (x9_1.length : Int)
                                · rw [if_pos c198] at H
                                  have c198b0 : decide ((ji196) < (x9_1.length : Int)) = true := decide_eq_true c198
                                  clear c198
                                  obtain ⟨y224, hy224⟩ : ∃ y_ : List Int, y_ = (x9_1.set ((ji196) : Int).toNat a2) := ⟨_, rfl⟩
                                  replace H : ((part_Hex.f kj39 (strOfNums y224)).bind fun bt225 => (if bt225.1.toList = ([] : List UInt8) then (some (bt225.2 == 111)) else (some false))) = some r := by first | (rw [hy224]; with_reducible exact H) | (have H2_ := (Option.bind_some _ _).symm.trans H; rw [hy224]; with_reducible exact H2_) | (have H2_ := (Option.bind_some _ _).symm.trans H; with_reducible exact H2_) | with_reducible exact H | (rw [hy224]; exact H) | exact H
                                  have Ny224 := Aside0.mk hy224
                                  clear hy224
                                  replace H := Option.bind_eq_some_iff.mp H
                                  obtain ⟨⟨t225, t226⟩, A2000, H⟩ := H
                                  replace H : (if t225.toList = ([] : List UInt8) then (some (t226 == 111)) else (some false)) = some r := H
                                  have A200 := Aside0.mk A2000
                                  clear A2000
                                  by_cases c201 : t225.toList = ([] : List UInt8)
                                  · rw [if_pos c201] at H
                                    have c201b0 : (t225.toList == ([] : List UInt8)) = true := beq_iff_eq.mpr c201
                                    have c201b1 : (t225.toList != ([] : List UInt8)) = false := bne_eq_false_iff_eq.mpr c201
                                    clear c201
                                    obtain rfl := Option.some.inj H
                                    obtain ⟨Ao202, co202, eo202⟩ := Kd.R_slice HO_9.out
                                    subst eo202
                                    have p199 : 0 ≤ ((ji196) : Int) := of_decide_eq_true (by first | (with_reducible assumption) | assumption)
                                    have q199 : ((ji196) : Int) < ((x9_1.length : Int) : Int) := of_decide_eq_true (by first | (with_reducible assumption) | assumption)
                                    obtain ⟨go199, co199, eo199, gb199, gl199, cl199, HG199⟩ := Kd.R_form HO_9.out (by omega)
                                    (first | cases eo199 | (injection eo199 with ea_ en_ ec_; (first | subst ea_ | (injection ea_ with ea_; subst ea_)); subst ec_; clear en_))
                                    have GB199 := Aside0.mk gb199
                                    have GG199 := Aside0.mk HG199
                                    clear gb199 gl199 HG199
                                    obtain ⟨hx199_0, hf199_0⟩ := Kd.R_celln 0 HO_9.out ((ji196) : Int) p199 q199
                                    replace p199 := eq_true p199
                                    replace q199 := eq_true q199
                                    have HP203 := Kd.R_putg HO_9.out ((ji196) : Int) a2
                                    go_wp2_with (first | ((with_reducible refine gate_store (t := 5) (p := 138) rfl ?_); refine store_event (t := 5) (p := 138) (v := ?vo_w204) (w1 := (wc.setCell ⟨go199, ((ji196) : Int).toNat, none⟩ (.int .u8 a2))) ?hg ?ho ?hn ?hr ?_; (case ho => rfl); (case hg => rfl); (case hn => rfl); (case hr => first | (go_simp; done) | (go_simp; rfl)); intro w204 hw; have hg : wc.grownBy w204 (some go199) := (by rw [hw]; exact HP203.2); have hp_ : Kd.R (Kd.int .u8) 5 w204 w.heap.size (fun _ => True) (.slice (some ⟨go199, 0, none⟩) x9_1.length co202) y224 := (by rw [hw, Ny224.out]; exact HP203.1); clear HP203; have n0_ := Aside0.mk (hp_); have n1_ := Aside0.mk ((by rw [hw]; exact below_set (HB.out) GB199.out : Below w.heap.size w w204)); clear HO_9; clear HB; have HO_9 := n0_; have HB := n1_; clear n0_ n1_; clear hg hw hp_; have hcv205 := own_string (P := Try.prog) Try.underlying39 Try.underlying5 Try.underlying9 (Kd.own_of_R HO_9.out)) | ((with_reducible refine gate_callee (f := 20) rfl ?_); refine goesL_ (some 142) rfl rfl Try.func20 (by kernel_rfl) rfl #[.string (strOfNums y224)] rfl (by (try simp only [List.map_toArray, List.map_cons, List.map_nil]); first | done | rfl | (simp only [List.length_drop, List.length_take]; rfl)) ?_; (with_reducible refine (part_Hex.calls kj39 (strOfNums y224) t225 t226 _ A200.out).mono ?_); rintro e w206 ⟨rfl, hb⟩; refine ⟨_, rfl, ?_⟩; have n0_ := Aside0.mk (Kd.R_below (by (with_reducible repeat (first | apply Kd.R_alloc | apply Kd.R_drewN | apply Kd.R_drew)); exact HO_9.out) hb); have n1_ := Aside0.mk (below_step (by repeat (first | (with_reducible first | exact HB.out | apply below_alloc | apply pw_below_drewN | apply below_drew1) | exact HB.out)) hb); clear HO_9; clear HB; have HO_9 := n0_; have HB := n1_; clear n0_ n1_; (try clear hb); (try clear hb2); (try clear hk); (try clear hi)))
                                    go_ret
                                    exact ⟨by first | rfl | (simp [errW_none, errW_some] <;> rfl) | (simp only [← hji196]; first | rfl | (simp [errW_none, errW_some] <;> rfl)) | (simp [*, errW_none, errW_some] <;> rfl), by repeat (first | (with_reducible first | exact HB.out | apply below_alloc | apply pw_below_drewN | apply below_drew1) | exact HB.out)⟩
                                  · rw [if_neg c201] at H
                                    have c201b0 : (t225.toList == ([] : List UInt8)) = false := beq_eq_false_iff_ne.mpr c201
                                    have c201b1 : (t225.toList != ([] : List UInt8)) = true := bne_iff_ne.mpr c201
                                    obtain rfl := Option.some.inj H
                                    obtain ⟨Ao207, co207, eo207⟩ := Kd.R_slice HO_9.out
                                    subst eo207
                                    have p199 : 0 ≤ ((ji196) : Int) := of_decide_eq_true (by first | (with_reducible assumption) | assumption)
                                    have q199 : ((ji196) : Int) < ((x9_1.length : Int) : Int) := of_decide_eq_true (by first | (with_reducible assumption) | assumption)
                                    obtain ⟨go199, co199, eo199, gb199, gl199, cl199, HG199⟩ := Kd.R_form HO_9.out (by omega)
                                    (first | cases eo199 | (injection eo199 with ea_ en_ ec_; (first | subst ea_ | (injection ea_ with ea_; subst ea_)); subst ec_; clear en_))
                                    have GB199 := Aside0.mk gb199
                                    have GG199 := Aside0.mk HG199
                                    clear gb199 gl199 HG199
                                    obtain ⟨hx199_0, hf199_0⟩ := Kd.R_celln 0 HO_9.out ((ji196) : Int) p199 q199
                                    replace p199 := eq_true p199
                                    replace q199 := eq_true q199
                                    have HP208 := Kd.R_putg HO_9.out ((ji196) : Int) a2
                                    go_wp2_with (first | ((with_reducible refine gate_store (t := 5) (p := 138) rfl ?_); refine store_event (t := 5) (p := 138) (v := ?vo_w209) (w1 := (wc.setCell ⟨go199, ((ji196) : Int).toNat, none⟩ (.int .u8 a2))) ?hg ?ho ?hn ?hr ?_; (case ho => rfl); (case hg => rfl); (case hn => rfl); (case hr => first | (go_simp; done) | (go_simp; rfl)); intro w209 hw; have hg : wc.grownBy w209 (some go199) := (by rw [hw]; exact HP208.2); have hp_ : Kd.R (Kd.int .u8) 5 w209 w.heap.size (fun _ => True) (.slice (some ⟨go199, 0, none⟩) x9_1.length co207) y224 := (by rw [hw, Ny224.out]; exact HP208.1); clear HP208; have n0_ := Aside0.mk (hp_); have n1_ := Aside0.mk ((by rw [hw]; exact below_set (HB.out) GB199.out : Below w.heap.size w w209)); clear HO_9; clear HB; have HO_9 := n0_; have HB := n1_; clear n0_ n1_; clear hg hw hp_; have hcv210 := own_string (P := Try.prog) Try.underlying39 Try.underlying5 Try.underlying9 (Kd.own_of_R HO_9.out)) | ((with_reducible refine gate_callee (f := 20) rfl ?_); refine goesL_ (some 142) rfl rfl Try.func20 (by kernel_rfl) rfl #[.string (strOfNums y224)] rfl (by (try simp only [List.map_toArray, List.map_cons, List.map_nil]); first | done | rfl | (simp only [List.length_drop, List.length_take]; rfl)) ?_; (with_reducible refine (part_Hex.calls kj39 (strOfNums y224) t225 t226 _ A200.out).mono ?_); rintro e w211 ⟨rfl, hb⟩; refine ⟨_, rfl, ?_⟩; have n0_ := Aside0.mk (Kd.R_below (by (with_reducible repeat (first | apply Kd.R_alloc | apply Kd.R_drewN | apply Kd.R_drew)); exact HO_9.out) hb); have n1_ := Aside0.mk (below_step (by repeat (first | (with_reducible first | exact HB.out | apply below_alloc | apply pw_below_drewN | apply below_drew1) | exact HB.out)) hb); clear HO_9; clear HB; have HO_9 := n0_; have HB := n1_; clear n0_ n1_; (try clear hb); (try clear hb2); (try clear hk); (try clear hi)))
                                    go_ret
                                    exact ⟨by first | rfl | (simp [errW_none, errW_some] <;> rfl) | (simp only [← hji196]; first | rfl | (simp [errW_none, errW_some] <;> rfl)) | (simp [*, errW_none, errW_some] <;> rfl), by repeat (first | (with_reducible first | exact HB.out | apply below_alloc | apply pw_below_drewN | apply below_drew1) | exact HB.out)⟩
                                · rw [if_neg c198] at H
                                  exact absurd H (by simp)
                              · rw [if_neg c197] at H
                                exact absurd H (by simp)
                      · rw [if_neg c190] at H
                        have c190b0 : decide (65 ≤ a2) = false := decide_eq_false c190
                        clear c190
                        by_cases c212 : (x9_1.length : Int) = 0
                        · rw [if_pos c212] at H
                          have c212b0 : ((x9_1.length : Int) == 0) = true := beq_iff_eq.mpr c212
                          have c212b1 : ((x9_1.length : Int) != 0) = false := bne_eq_false_iff_eq.mpr c212
                          clear c212
                          obtain rfl := Option.some.inj H
                          obtain ⟨Ao213, co213, eo213⟩ := Kd.R_slice HO_9.out
                          subst eo213
                          go_wp2
                          go_ret
                          exact ⟨by first | rfl | (simp [errW_none, errW_some] <;> rfl) | (simp [*, errW_none, errW_some] <;> rfl), by repeat (first | (with_reducible first | exact HB.out | apply below_alloc | apply pw_below_drewN | apply below_drew1) | exact HB.out)⟩
                        · rw [if_neg c212] at H
                          have c212b0 : ((x9_1.length : Int) == 0) = false := beq_eq_false_iff_ne.mpr c212
                          have c212b1 : ((x9_1.length : Int) != 0) = true := bne_iff_ne.mpr c212
                          have c212b2 : ¬ (x9_1 = []) := fun h_ => c212 (by rw [h_]; rfl)
                          by_cases c214 : (IntKind.u64.wrap ((x9_1.length : Int))) = 0
                          · rw [if_pos c214] at H
                            exact absurd H (by simp)
                          · rw [if_neg c214] at H
                            have c214b0 : ((IntKind.u64.wrap ((x9_1.length : Int))) == 0) = false := beq_eq_false_iff_ne.mpr c214
                            have c214b1 : ((IntKind.u64.wrap ((x9_1.length : Int))) != 0) = true := bne_iff_ne.mpr c214
                            obtain ⟨ji215, hji215⟩ : ∃ j_ : Int, (wrap64 (Int.tmod (IntKind.u64.wrap (a1)) (IntKind.u64.wrap ((x9_1.length : Int))))) = j_ := ⟨_, rfl⟩
                            replace H : (if 0 ≤ (ji215) then (if (ji215) < (x9_1.length : Int) then ((part_Hex.f kj39 (strOfNums (x9_1.set ((ji215) : Int).toNat a2))).bind fun bt228 => (if bt228.1.toList = ([] : List UInt8) then (some (bt228.2 == 111)) else (some false))) else (none)) else (none)) = some r := by first | (rw [hji215] at H; exact H) | (simp only [hji215] at H ⊢; exact H)
                            have hji215w : (IntKind.i64.wrap (Int.tmod (IntKind.u64.wrap (a1)) (IntKind.u64.wrap ((x9_1.length : Int))))) = ji215 := (i64_w _).trans hji215
                            by_cases c216 : 0 ≤ (ji215)
                            · rw [if_pos c216] at H
                              have c216b0 : decide (0 ≤ (ji215)) = true := decide_eq_true c216
                              clear c216
                              by_cases c217 : (ji215) < (x9_1.length : Int)
                              · rw [if_pos c217] at H
                                have c217b0 : decide ((ji215) < (x9_1.length : Int)) = true := decide_eq_true c217
                                clear c217
                                obtain ⟨y227, hy227⟩ : ∃ y_ : List Int, y_ = (x9_1.set ((ji215) : Int).toNat a2) := ⟨_, rfl⟩
                                replace H : ((part_Hex.f kj39 (strOfNums y227)).bind fun bt228 => (if bt228.1.toList = ([] : List UInt8) then (some (bt228.2 == 111)) else (some false))) = some r := by first | (rw [hy227]; with_reducible exact H) | (have H2_ := (Option.bind_some _ _).symm.trans H; rw [hy227]; with_reducible exact H2_) | (have H2_ := (Option.bind_some _ _).symm.trans H; with_reducible exact H2_) | with_reducible exact H | (rw [hy227]; exact H) | exact H
                                have Ny227 := Aside0.mk hy227
                                clear hy227
                                replace H := Option.bind_eq_some_iff.mp H
                                obtain ⟨⟨t228, t229⟩, A2190, H⟩ := H
                                replace H : (if t228.toList = ([] : List UInt8) then (some (t229 == 111)) else (some false)) = some r := H
                                have A219 := Aside0.mk A2190
                                clear A2190
                                by_cases c220 : t228.toList = ([] : List UInt8)
                                · rw [if_pos c220] at H
                                  have c220b0 : (t228.toList == ([] : List UInt8)) = true := beq_iff_eq.mpr c220
                                  have c220b1 : (t228.toList != ([] : List UInt8)) = false := bne_eq_false_iff_eq.mpr c220
                                  clear c220
                                  obtain rfl := Option.some.inj H
                                  obtain ⟨Ao221, co221, eo221⟩ := Kd.R_slice HO_9.out
                                  subst eo221
                                  have p218 : 0 ≤ ((ji215) : Int) := of_decide_eq_true (by first | (with_reducible assumption) | assumption)
                                  have q218 : ((ji215) : Int) < ((x9_1.length : Int) : Int) := of_decide_eq_true (by first | (with_reducible assumption) | assumption)
                                  obtain ⟨go218, co218, eo218, gb218, gl218, cl218, HG218⟩ := Kd.R_form HO_9.out (by omega)
                                  (first | cases eo218 | (injection eo218 with ea_ en_ ec_; (first | subst ea_ | (injection ea_ with ea_; subst ea_)); subst ec_; clear en_))
                                  have GB218 := Aside0.mk gb218
                                  have GG218 := Aside0.mk HG218
                                  clear gb218 gl218 HG218
                                  obtain ⟨hx218_0, hf218_0⟩ := Kd.R_celln 0 HO_9.out ((ji215) : Int) p218 q218
                                  replace p218 := eq_true p218
                                  replace q218 := eq_true q218
                                  have HP222 := Kd.R_putg HO_9.out ((ji215) : Int) a2
                                  go_wp2_with (first | ((with_reducible refine gate_store (t := 5) (p := 138) rfl ?_); refine store_event (t := 5) (p := 138) (v := ?vo_w223) (w1 := (wc.setCell ⟨go218, ((ji215) : Int).toNat, none⟩ (.int .u8 a2))) ?hg ?ho ?hn ?hr ?_; (case ho => rfl); (case hg => rfl); (case hn => rfl); (case hr => first | (go_simp; done) | (go_simp; rfl)); intro w223 hw; have hg : wc.grownBy w223 (some go218) := (by rw [hw]; exact HP222.2); have hp_ : Kd.R (Kd.int .u8) 5 w223 w.heap.size (fun _ => True) (.slice (some ⟨go218, 0, none⟩) x9_1.length co221) y227 := (by rw [hw, Ny227.out]; exact HP222.1); clear HP222; have n0_ := Aside0.mk (hp_); have n1_ := Aside0.mk ((by rw [hw]; exact below_set (HB.out) GB218.out : Below w.heap.size w w223)); clear HO_9; clear HB; have HO_9 := n0_; have HB := n1_; clear n0_ n1_; clear hg hw hp_; have hcv224 := own_string (P := Try.prog) Try.underlying39 Try.underlying5 Try.underlying9 (Kd.own_of_R HO_9.out)) | ((with_reducible refine gate_callee (f := 20) rfl ?_); refine goesL_ (some 142) rfl rfl Try.func20 (by kernel_rfl) rfl #[.string (strOfNums y227)] rfl (by (try simp only [List.map_toArray, List.map_cons, List.map_nil]); first | done | rfl | (simp only [List.length_drop, List.length_take]; rfl)) ?_; (with_reducible refine (part_Hex.calls kj39 (strOfNums y227) t228 t229 _ A219.out).mono ?_); rintro e w225 ⟨rfl, hb⟩; refine ⟨_, rfl, ?_⟩; have n0_ := Aside0.mk (Kd.R_below (by (with_reducible repeat (first | apply Kd.R_alloc | apply Kd.R_drewN | apply Kd.R_drew)); exact HO_9.out) hb); have n1_ := Aside0.mk (below_step (by repeat (first | (with_reducible first | exact HB.out | apply below_alloc | apply pw_below_drewN | apply below_drew1) | exact HB.out)) hb); clear HO_9; clear HB; have HO_9 := n0_; have HB := n1_; clear n0_ n1_; (try clear hb); (try clear hb2); (try clear hk); (try clear hi)))
                                  go_ret
                                  exact ⟨by first | rfl | (simp [errW_none, errW_some] <;> rfl) | (simp only [← hji215]; first | rfl | (simp [errW_none, errW_some] <;> rfl)) | (simp [*, errW_none, errW_some] <;> rfl), by repeat (first | (with_reducible first | exact HB.out | apply below_alloc | apply pw_below_drewN | apply below_drew1) | exact HB.out)⟩
                                · rw [if_neg c220] at H
                                  have c220b0 : (t228.toList == ([] : List UInt8)) = false := beq_eq_false_iff_ne.mpr c220
                                  have c220b1 : (t228.toList != ([] : List UInt8)) = true := bne_iff_ne.mpr c220
                                  obtain rfl := Option.some.inj H
                                  obtain ⟨Ao226, co226, eo226⟩ := Kd.R_slice HO_9.out
                                  subst eo226
                                  have p218 : 0 ≤ ((ji215) : Int) := of_decide_eq_true (by first | (with_reducible assumption) | assumption)
                                  have q218 : ((ji215) : Int) < ((x9_1.length : Int) : Int) := of_decide_eq_true (by first | (with_reducible assumption) | assumption)
                                  obtain ⟨go218, co218, eo218, gb218, gl218, cl218, HG218⟩ := Kd.R_form HO_9.out (by omega)
                                  (first | cases eo218 | (injection eo218 with ea_ en_ ec_; (first | subst ea_ | (injection ea_ with ea_; subst ea_)); subst ec_; clear en_))
                                  have GB218 := Aside0.mk gb218
                                  have GG218 := Aside0.mk HG218
                                  clear gb218 gl218 HG218
                                  obtain ⟨hx218_0, hf218_0⟩ := Kd.R_celln 0 HO_9.out ((ji215) : Int) p218 q218
                                  replace p218 := eq_true p218
                                  replace q218 := eq_true q218
                                  have HP227 := Kd.R_putg HO_9.out ((ji215) : Int) a2
                                  go_wp2_with (first | ((with_reducible refine gate_store (t := 5) (p := 138) rfl ?_); refine store_event (t := 5) (p := 138) (v := ?vo_w228) (w1 := (wc.setCell ⟨go218, ((ji215) : Int).toNat, none⟩ (.int .u8 a2))) ?hg ?ho ?hn ?hr ?_; (case ho => rfl); (case hg => rfl); (case hn => rfl); (case hr => first | (go_simp; done) | (go_simp; rfl)); intro w228 hw; have hg : wc.grownBy w228 (some go218) := (by rw [hw]; exact HP227.2); have hp_ : Kd.R (Kd.int .u8) 5 w228 w.heap.size (fun _ => True) (.slice (some ⟨go218, 0, none⟩) x9_1.length co226) y227 := (by rw [hw, Ny227.out]; exact HP227.1); clear HP227; have n0_ := Aside0.mk (hp_); have n1_ := Aside0.mk ((by rw [hw]; exact below_set (HB.out) GB218.out : Below w.heap.size w w228)); clear HO_9; clear HB; have HO_9 := n0_; have HB := n1_; clear n0_ n1_; clear hg hw hp_; have hcv229 := own_string (P := Try.prog) Try.underlying39 Try.underlying5 Try.underlying9 (Kd.own_of_R HO_9.out)) | ((with_reducible refine gate_callee (f := 20) rfl ?_); refine goesL_ (some 142) rfl rfl Try.func20 (by kernel_rfl) rfl #[.string (strOfNums y227)] rfl (by (try simp only [List.map_toArray, List.map_cons, List.map_nil]); first | done | rfl | (simp only [List.length_drop, List.length_take]; rfl)) ?_; (with_reducible refine (part_Hex.calls kj39 (strOfNums y227) t228 t229 _ A219.out).mono ?_); rintro e w230 ⟨rfl, hb⟩; refine ⟨_, rfl, ?_⟩; have n0_ := Aside0.mk (Kd.R_below (by (with_reducible repeat (first | apply Kd.R_alloc | apply Kd.R_drewN | apply Kd.R_drew)); exact HO_9.out) hb); have n1_ := Aside0.mk (below_step (by repeat (first | (with_reducible first | exact HB.out | apply below_alloc | apply pw_below_drewN | apply below_drew1) | exact HB.out)) hb); clear HO_9; clear HB; have HO_9 := n0_; have HB := n1_; clear n0_ n1_; (try clear hb); (try clear hb2); (try clear hk); (try clear hi)))
                                  go_ret
                                  exact ⟨by first | rfl | (simp [errW_none, errW_some] <;> rfl) | (simp only [← hji215]; first | rfl | (simp [errW_none, errW_some] <;> rfl)) | (simp [*, errW_none, errW_some] <;> rfl), by repeat (first | (with_reducible first | exact HB.out | apply below_alloc | apply pw_below_drewN | apply below_drew1) | exact HB.out)⟩
                              · rw [if_neg c217] at H
                                exact absurd H (by simp)
                            · rw [if_neg c216] at H
                              exact absurd H (by simp)
          · rw [if_neg c38] at H
            exact absurd H (by simp)
  · replace c6 := Bool.eq_false_iff.mpr c6
    subst c6
    have H1 : (some false) = some r := by rw [if_neg (show ¬ (false = true) by decide)] at H; exact H
    clear H
    have H := H1
    clear H1
    obtain rfl := Option.some.inj H
    go_enter Try.func8, Try.ntmps8
    go_wp2_with (first | ((with_reducible refine gate_callee (f := 9) rfl ?_); refine goesL_ (some 22) rfl rfl Try.func9 (by kernel_rfl) rfl #[] rfl (by (try simp only [List.map_toArray, List.map_cons, List.map_nil]); first | done | rfl | (simp only [List.length_drop, List.length_take]; rfl)) ?_; (with_reducible refine (stratumlaw07_awake.calls k lG false _ ?side1 ?side2 A5.out).mono ?_); (case side1 => repeat (first | exact HRG.out | (with_reducible refine Kd.C_alloc ?_ _) | (with_reducible refine Kd.C_drewN ?_ _) | (with_reducible refine Kd.C_drew ?_))); (case side2 => exact HCG.out); rintro e w231 ⟨rfl, hb⟩; refine ⟨_, rfl, ?_⟩; have n0_ := Aside0.mk (below_step (by repeat (first | (with_reducible first | exact HB.out | apply below_alloc | apply pw_below_drewN | apply below_drew1) | exact HB.out)) hb); clear HB; have HB := n0_; clear n0_; (try clear hb); (try clear hb2); (try clear hk); (try clear hi)))
    go_ret
    exact ⟨by first | rfl | (simp [errW_none, errW_some] <;> rfl) | (simp [*, errW_none, errW_some] <;> rfl), by repeat (first | (with_reducible first | exact HB.out | apply below_alloc | apply pw_below_drewN | apply below_drew1) | exact HB.out)⟩

end Go.Proofs.Ythgkemkcepkkcaa.X
