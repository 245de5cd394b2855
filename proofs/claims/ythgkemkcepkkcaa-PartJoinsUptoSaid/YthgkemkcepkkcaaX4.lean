/- The machine's side of the laws of this seat: for each Go function a Lean function of lists and numbers, and that the call answers what it answers. No condition but those in the theorems. -/
import Derived.Test.YthgkemkcepkkcaaX0
import Derived.Test.YthgkemkcepkkcaaX1
import Derived.Test.YthgkemkcepkkcaaX2
namespace Go.Proofs.Ythgkemkcepkkcaa.X
open Go.RowKit Go.Proofs.YthgkemkcepkkcaaW.PrintWords Go.Proofs.YthgkemkcepkkcaaW.PrintLast Go.Proofs.YthgkemkcepkkcaaW.PrintMore
attribute [local go_sem] max2_int min2_int max_two min_two max_three min_three max_four min_four   -- for this text's walks alone
set_option linter.unusedVariables false
set_option linter.unusedSimpArgs false

/-! ### stratumlaw07_PartHalves: function 5 -/
def stratumlaw07_PartHalves.j0 : Nat → ByteArray → ByteArray → Int → Int → Bool → Option (Bool)
  | 0, _, _, _, _, _ => none
  | k + 1, x0, x1, x2, x7, x93 => if x93 = true then (some false) else (if x7 > 0 then (if (IntKind.u64.wrap (x7)) = 0 then (none) else (if (wrap64 (Int.tmod (IntKind.u64.wrap (x2)) (IntKind.u64.wrap (x7)))) = x7 then (some true) else (if (wrap64 ((wrap64 (Int.tmod (IntKind.u64.wrap (x2)) (IntKind.u64.wrap (x7)))) + (x1.size : Int))) > (x0.size : Int) then (some true) else (if 0 ≤ (wrap64 (Int.tmod (IntKind.u64.wrap (x2)) (IntKind.u64.wrap (x7)))) then (if (wrap64 (Int.tmod (IntKind.u64.wrap (x2)) (IntKind.u64.wrap (x7)))) ≤ (wrap64 ((wrap64 (Int.tmod (IntKind.u64.wrap (x2)) (IntKind.u64.wrap (x7)))) + (x1.size : Int))) then (if (wrap64 ((wrap64 (Int.tmod (IntKind.u64.wrap (x2)) (IntKind.u64.wrap (x7)))) + (x1.size : Int))) ≤ (x0.size : Int) then (some ((x0.extract ((wrap64 (Int.tmod (IntKind.u64.wrap (x2)) (IntKind.u64.wrap (x7)))) : Int).toNat ((wrap64 ((wrap64 (Int.tmod (IntKind.u64.wrap (x2)) (IntKind.u64.wrap (x7)))) + (x1.size : Int))) : Int).toNat).toList != x1.toList)) else (none)) else (none)) else (none))))) else (if 0 = x7 then (some true) else (if (wrap64 ((x1.size : Int))) > (x0.size : Int) then (some true) else (if 0 ≤ (wrap64 ((x1.size : Int))) then (if (wrap64 ((x1.size : Int))) ≤ (x0.size : Int) then (some ((x0.extract 0 ((wrap64 ((x1.size : Int))) : Int).toNat).toList != x1.toList)) else (none)) else (none)))))
def stratumlaw07_PartHalves.f (k : Nat) (a0 : ByteArray) (a1 : ByteArray) (a2 : Int) (lG : List Int) : Option (Bool) := (stratumlaw07_awake.f k lG).bind fun t165 => (if t165 = true then ((part_Index.f a0 a1 lG).bind fun t166 => ((part_Head.f a0 a1 lG).bind fun t167 => ((part_Tail.f a0 a1 lG).bind fun t168 => (if t166 = (-1) then (if (IntKind.u64.wrap (wrap64 ((a0.size : Int) + 1))) = 0 then (none) else (if t167.toList = a0.toList then (if t168.toList = ([] : List UInt8) then (if a1.toList = ([] : List UInt8) then (some true) else (if (wrap64 ((wrap64 (Int.tmod (IntKind.u64.wrap (a2)) (IntKind.u64.wrap (wrap64 ((a0.size : Int) + 1))))) + (a1.size : Int))) > (a0.size : Int) then (some true) else (if 0 ≤ (wrap64 (Int.tmod (IntKind.u64.wrap (a2)) (IntKind.u64.wrap (wrap64 ((a0.size : Int) + 1))))) then (if (wrap64 (Int.tmod (IntKind.u64.wrap (a2)) (IntKind.u64.wrap (wrap64 ((a0.size : Int) + 1))))) ≤ (wrap64 ((wrap64 (Int.tmod (IntKind.u64.wrap (a2)) (IntKind.u64.wrap (wrap64 ((a0.size : Int) + 1))))) + (a1.size : Int))) then (if (wrap64 ((wrap64 (Int.tmod (IntKind.u64.wrap (a2)) (IntKind.u64.wrap (wrap64 ((a0.size : Int) + 1))))) + (a1.size : Int))) ≤ (a0.size : Int) then (some ((a0.extract ((wrap64 (Int.tmod (IntKind.u64.wrap (a2)) (IntKind.u64.wrap (wrap64 ((a0.size : Int) + 1))))) : Int).toNat ((wrap64 ((wrap64 (Int.tmod (IntKind.u64.wrap (a2)) (IntKind.u64.wrap (wrap64 ((a0.size : Int) + 1))))) + (a1.size : Int))) : Int).toNat).toList != a1.toList)) else (none)) else (none)) else (none)))) else (some false)) else (some false))) else (if t166 < 0 then (stratumlaw07_PartHalves.j0 k a0 a1 a2 t166 true) else (if a1.toList = ([] : List UInt8) then (stratumlaw07_PartHalves.j0 k a0 a1 a2 t166 true) else (if (wrap64 (t166 + (a1.size : Int))) > (a0.size : Int) then (stratumlaw07_PartHalves.j0 k a0 a1 a2 t166 true) else (if 0 ≤ t166 then (if t166 ≤ (a0.size : Int) then (if t167.toList = (a0.extract 0 (t166 : Int).toNat).toList then ((part_Join.f t167 a1 t168).bind fun t169 => (stratumlaw07_PartHalves.j0 k a0 a1 a2 t166 (t169.toList != a0.toList))) else (stratumlaw07_PartHalves.j0 k a0 a1 a2 t166 true)) else (none)) else (none))))))))) else (some false))
theorem stratumlaw07_PartHalves.mono_l : ∀ k, (∀ y0 y1 y2 y3 y4, LeO (stratumlaw07_PartHalves.j0 k y0 y1 y2 y3 y4) (stratumlaw07_PartHalves.j0 (k + 1) y0 y1 y2 y3 y4))
  | 0 => fun _ _ _ _ _ r h => by simp [stratumlaw07_PartHalves.j0] at h
  | k + 1 => by
    have ih0 := stratumlaw07_PartHalves.mono_l k
    · intro y0 y1 y2 y3 y4
      unfold stratumlaw07_PartHalves.j0
      repeat' first
      | (with_reducible exact ih0 _ _ _ _ _)
      | (with_reducible exact stratumlaw07_awake.mono _ _)
      | (with_reducible exact LeO.refl _)
      | (with_reducible exact LeO.none _)
      | (with_reducible refine LeO.ite ?_ ?_)
      | (with_reducible refine LeO.bind ?_ (fun _ => ?_))
      | exact ih0 _ _ _ _ _
      | exact stratumlaw07_awake.mono _ _
      | exact LeO.none _
      | refine LeO.ite ?_ ?_
      | refine LeO.bind ?_ (fun _ => ?_)
theorem stratumlaw07_PartHalves.mono : ∀ a0 a1 a2 a3 k, LeO (stratumlaw07_PartHalves.f k a0 a1 a2 a3) (stratumlaw07_PartHalves.f (k + 1) a0 a1 a2 a3) := by
  intro a0 a1 a2 a3 k
  have ih0 := stratumlaw07_PartHalves.mono_l k
  unfold stratumlaw07_PartHalves.f
  repeat' first
      | (with_reducible exact ih0 _ _ _ _ _)
      | (with_reducible exact stratumlaw07_awake.mono _ _)
      | (with_reducible exact LeO.refl _)
      | (with_reducible exact LeO.none _)
      | (with_reducible refine LeO.ite ?_ ?_)
      | (with_reducible refine LeO.bind ?_ (fun _ => ?_))
      | exact ih0 _ _ _ _ _
      | exact stratumlaw07_awake.mono _ _
      | exact LeO.none _
      | refine LeO.ite ?_ ?_
      | refine LeO.bind ?_ (fun _ => ?_)
set_option maxHeartbeats 8000000 in
set_option maxRecDepth 100000 in
theorem stratumlaw07_PartHalves.calls (k : Nat) (a0 : ByteArray) (a1 : ByteArray) (a2 : Int) (lG : List Int) (r : Bool) (w : World) (hrG : Kd.C (Kd.int .i64) w (some ⟨0, 0, none⟩) lG.length lG) (hcG : lG.length ≤ 1) (h : stratumlaw07_PartHalves.f k a0 a1 a2 lG = some r) :
    Calls Try.prog 5 #[.string a0, .string a1, .int .i64 a2] w fun e w' => e = .returned (.bool r) ∧ Below w.heap.size w w' := by
  have HRG := Aside0.mk hrG
  have HCG := Aside0.mk hcG
  clear hrG hcG
  have HB := Aside0.mk (Below.refl w.heap.size w)
  have H : ((stratumlaw07_awake.f k lG).bind fun t165 => (if t165 = true then ((part_Index.f a0 a1 lG).bind fun t166 => ((part_Head.f a0 a1 lG).bind fun t167 => ((part_Tail.f a0 a1 lG).bind fun t168 => (if t166 = (-1) then (if (IntKind.u64.wrap (wrap64 ((a0.size : Int) + 1))) = 0 then (none) else (if t167.toList = a0.toList then (if t168.toList = ([] : List UInt8) then (if a1.toList = ([] : List UInt8) then (some true) else (if (wrap64 ((wrap64 (Int.tmod (IntKind.u64.wrap (a2)) (IntKind.u64.wrap (wrap64 ((a0.size : Int) + 1))))) + (a1.size : Int))) > (a0.size : Int) then (some true) else (if 0 ≤ (wrap64 (Int.tmod (IntKind.u64.wrap (a2)) (IntKind.u64.wrap (wrap64 ((a0.size : Int) + 1))))) then (if (wrap64 (Int.tmod (IntKind.u64.wrap (a2)) (IntKind.u64.wrap (wrap64 ((a0.size : Int) + 1))))) ≤ (wrap64 ((wrap64 (Int.tmod (IntKind.u64.wrap (a2)) (IntKind.u64.wrap (wrap64 ((a0.size : Int) + 1))))) + (a1.size : Int))) then (if (wrap64 ((wrap64 (Int.tmod (IntKind.u64.wrap (a2)) (IntKind.u64.wrap (wrap64 ((a0.size : Int) + 1))))) + (a1.size : Int))) ≤ (a0.size : Int) then (some ((a0.extract ((wrap64 (Int.tmod (IntKind.u64.wrap (a2)) (IntKind.u64.wrap (wrap64 ((a0.size : Int) + 1))))) : Int).toNat ((wrap64 ((wrap64 (Int.tmod (IntKind.u64.wrap (a2)) (IntKind.u64.wrap (wrap64 ((a0.size : Int) + 1))))) + (a1.size : Int))) : Int).toNat).toList != a1.toList)) else (none)) else (none)) else (none)))) else (some false)) else (some false))) else (if t166 < 0 then (stratumlaw07_PartHalves.j0 k a0 a1 a2 t166 true) else (if a1.toList = ([] : List UInt8) then (stratumlaw07_PartHalves.j0 k a0 a1 a2 t166 true) else (if (wrap64 (t166 + (a1.size : Int))) > (a0.size : Int) then (stratumlaw07_PartHalves.j0 k a0 a1 a2 t166 true) else (if 0 ≤ t166 then (if t166 ≤ (a0.size : Int) then (if t167.toList = (a0.extract 0 (t166 : Int).toNat).toList then ((part_Join.f t167 a1 t168).bind fun t169 => (stratumlaw07_PartHalves.j0 k a0 a1 a2 t166 (t169.toList != a0.toList))) else (stratumlaw07_PartHalves.j0 k a0 a1 a2 t166 true)) else (none)) else (none))))))))) else (some false))) = some r := h
  clear h
  replace H := Option.bind_eq_some_iff.mp H
  obtain ⟨t165, A50, H⟩ := H
  replace H : (if t165 = true then ((part_Index.f a0 a1 lG).bind fun t166 => ((part_Head.f a0 a1 lG).bind fun t167 => ((part_Tail.f a0 a1 lG).bind fun t168 => (if t166 = (-1) then (if (IntKind.u64.wrap (wrap64 ((a0.size : Int) + 1))) = 0 then (none) else (if t167.toList = a0.toList then (if t168.toList = ([] : List UInt8) then (if a1.toList = ([] : List UInt8) then (some true) else (if (wrap64 ((wrap64 (Int.tmod (IntKind.u64.wrap (a2)) (IntKind.u64.wrap (wrap64 ((a0.size : Int) + 1))))) + (a1.size : Int))) > (a0.size : Int) then (some true) else (if 0 ≤ (wrap64 (Int.tmod (IntKind.u64.wrap (a2)) (IntKind.u64.wrap (wrap64 ((a0.size : Int) + 1))))) then (if (wrap64 (Int.tmod (IntKind.u64.wrap (a2)) (IntKind.u64.wrap (wrap64 ((a0.size : Int) + 1))))) ≤ (wrap64 ((wrap64 (Int.tmod (IntKind.u64.wrap (a2)) (IntKind.u64.wrap (wrap64 ((a0.size : Int) + 1))))) + (a1.size : Int))) then (if (wrap64 ((wrap64 (Int.tmod (IntKind.u64.wrap (a2)) (IntKind.u64.wrap (wrap64 ((a0.size : Int) + 1))))) + (a1.size : Int))) ≤ (a0.size : Int) then (some ((a0.extract ((wrap64 (Int.tmod (IntKind.u64.wrap (a2)) (IntKind.u64.wrap (wrap64 ((a0.size : Int) + 1))))) : Int).toNat ((wrap64 ((wrap64 (Int.tmod (IntKind.u64.wrap (a2)) (IntKind.u64.wrap (wrap64 ((a0.size : Int) + 1))))) + (a1.size : Int))) : Int).toNat).toList != a1.toList)) else (none)) else (none)) else (none)))) else (some false)) else (some false))) else (if t166 < 0 then (stratumlaw07_PartHalves.j0 k a0 a1 a2 t166 true) else (if a1.toList = ([] : List UInt8) then (stratumlaw07_PartHalves.j0 k a0 a1 a2 t166 true) else (if (wrap64 (t166 + (a1.size : Int))) > (a0.size : Int) then (stratumlaw07_PartHalves.j0 k a0 a1 a2 t166 true) else (if 0 ≤ t166 then (if t166 ≤ (a0.size : Int) then (if t167.toList = (a0.extract 0 (t166 : Int).toNat).toList then ((part_Join.f t167 a1 t168).bind fun t169 => (stratumlaw07_PartHalves.j0 k a0 a1 a2 t166 (t169.toList != a0.toList))) else (stratumlaw07_PartHalves.j0 k a0 a1 a2 t166 true)) else (none)) else (none))))))))) else (some false)) = some r := H
  have A5 := Aside0.mk A50
  clear A50
  by_cases c6 : t165 = true
  · subst c6
    have H1 : ((part_Index.f a0 a1 lG).bind fun t166 => ((part_Head.f a0 a1 lG).bind fun t167 => ((part_Tail.f a0 a1 lG).bind fun t168 => (if t166 = (-1) then (if (IntKind.u64.wrap (wrap64 ((a0.size : Int) + 1))) = 0 then (none) else (if t167.toList = a0.toList then (if t168.toList = ([] : List UInt8) then (if a1.toList = ([] : List UInt8) then (some true) else (if (wrap64 ((wrap64 (Int.tmod (IntKind.u64.wrap (a2)) (IntKind.u64.wrap (wrap64 ((a0.size : Int) + 1))))) + (a1.size : Int))) > (a0.size : Int) then (some true) else (if 0 ≤ (wrap64 (Int.tmod (IntKind.u64.wrap (a2)) (IntKind.u64.wrap (wrap64 ((a0.size : Int) + 1))))) then (if (wrap64 (Int.tmod (IntKind.u64.wrap (a2)) (IntKind.u64.wrap (wrap64 ((a0.size : Int) + 1))))) ≤ (wrap64 ((wrap64 (Int.tmod (IntKind.u64.wrap (a2)) (IntKind.u64.wrap (wrap64 ((a0.size : Int) + 1))))) + (a1.size : Int))) then (if (wrap64 ((wrap64 (Int.tmod (IntKind.u64.wrap (a2)) (IntKind.u64.wrap (wrap64 ((a0.size : Int) + 1))))) + (a1.size : Int))) ≤ (a0.size : Int) then (some ((a0.extract ((wrap64 (Int.tmod (IntKind.u64.wrap (a2)) (IntKind.u64.wrap (wrap64 ((a0.size : Int) + 1))))) : Int).toNat ((wrap64 ((wrap64 (Int.tmod (IntKind.u64.wrap (a2)) (IntKind.u64.wrap (wrap64 ((a0.size : Int) + 1))))) + (a1.size : Int))) : Int).toNat).toList != a1.toList)) else (none)) else (none)) else (none)))) else (some false)) else (some false))) else (if t166 < 0 then (stratumlaw07_PartHalves.j0 k a0 a1 a2 t166 true) else (if a1.toList = ([] : List UInt8) then (stratumlaw07_PartHalves.j0 k a0 a1 a2 t166 true) else (if (wrap64 (t166 + (a1.size : Int))) > (a0.size : Int) then (stratumlaw07_PartHalves.j0 k a0 a1 a2 t166 true) else (if 0 ≤ t166 then (if t166 ≤ (a0.size : Int) then (if t167.toList = (a0.extract 0 (t166 : Int).toNat).toList then ((part_Join.f t167 a1 t168).bind fun t169 => (stratumlaw07_PartHalves.j0 k a0 a1 a2 t166 (t169.toList != a0.toList))) else (stratumlaw07_PartHalves.j0 k a0 a1 a2 t166 true)) else (none)) else (none))))))))) = some r := by rw [if_pos rfl] at H; exact H
    clear H
    have H := H1
    clear H1
    replace H := Option.bind_eq_some_iff.mp H
    obtain ⟨t166, A70, H⟩ := H
    replace H : ((part_Head.f a0 a1 lG).bind fun t167 => ((part_Tail.f a0 a1 lG).bind fun t168 => (if t166 = (-1) then (if (IntKind.u64.wrap (wrap64 ((a0.size : Int) + 1))) = 0 then (none) else (if t167.toList = a0.toList then (if t168.toList = ([] : List UInt8) then (if a1.toList = ([] : List UInt8) then (some true) else (if (wrap64 ((wrap64 (Int.tmod (IntKind.u64.wrap (a2)) (IntKind.u64.wrap (wrap64 ((a0.size : Int) + 1))))) + (a1.size : Int))) > (a0.size : Int) then (some true) else (if 0 ≤ (wrap64 (Int.tmod (IntKind.u64.wrap (a2)) (IntKind.u64.wrap (wrap64 ((a0.size : Int) + 1))))) then (if (wrap64 (Int.tmod (IntKind.u64.wrap (a2)) (IntKind.u64.wrap (wrap64 ((a0.size : Int) + 1))))) ≤ (wrap64 ((wrap64 (Int.tmod (IntKind.u64.wrap (a2)) (IntKind.u64.wrap (wrap64 ((a0.size : Int) + 1))))) + (a1.size : Int))) then (if (wrap64 ((wrap64 (Int.tmod (IntKind.u64.wrap (a2)) (IntKind.u64.wrap (wrap64 ((a0.size : Int) + 1))))) + (a1.size : Int))) ≤ (a0.size : Int) then (some ((a0.extract ((wrap64 (Int.tmod (IntKind.u64.wrap (a2)) (IntKind.u64.wrap (wrap64 ((a0.size : Int) + 1))))) : Int).toNat ((wrap64 ((wrap64 (Int.tmod (IntKind.u64.wrap (a2)) (IntKind.u64.wrap (wrap64 ((a0.size : Int) + 1))))) + (a1.size : Int))) : Int).toNat).toList != a1.toList)) else (none)) else (none)) else (none)))) else (some false)) else (some false))) else (if t166 < 0 then (stratumlaw07_PartHalves.j0 k a0 a1 a2 t166 true) else (if a1.toList = ([] : List UInt8) then (stratumlaw07_PartHalves.j0 k a0 a1 a2 t166 true) else (if (wrap64 (t166 + (a1.size : Int))) > (a0.size : Int) then (stratumlaw07_PartHalves.j0 k a0 a1 a2 t166 true) else (if 0 ≤ t166 then (if t166 ≤ (a0.size : Int) then (if t167.toList = (a0.extract 0 (t166 : Int).toNat).toList then ((part_Join.f t167 a1 t168).bind fun t169 => (stratumlaw07_PartHalves.j0 k a0 a1 a2 t166 (t169.toList != a0.toList))) else (stratumlaw07_PartHalves.j0 k a0 a1 a2 t166 true)) else (none)) else (none)))))))) = some r := H
    have A7 := Aside0.mk A70
    clear A70
    replace H := Option.bind_eq_some_iff.mp H
    obtain ⟨t167, A80, H⟩ := H
    replace H : ((part_Tail.f a0 a1 lG).bind fun t168 => (if t166 = (-1) then (if (IntKind.u64.wrap (wrap64 ((a0.size : Int) + 1))) = 0 then (none) else (if t167.toList = a0.toList then (if t168.toList = ([] : List UInt8) then (if a1.toList = ([] : List UInt8) then (some true) else (if (wrap64 ((wrap64 (Int.tmod (IntKind.u64.wrap (a2)) (IntKind.u64.wrap (wrap64 ((a0.size : Int) + 1))))) + (a1.size : Int))) > (a0.size : Int) then (some true) else (if 0 ≤ (wrap64 (Int.tmod (IntKind.u64.wrap (a2)) (IntKind.u64.wrap (wrap64 ((a0.size : Int) + 1))))) then (if (wrap64 (Int.tmod (IntKind.u64.wrap (a2)) (IntKind.u64.wrap (wrap64 ((a0.size : Int) + 1))))) ≤ (wrap64 ((wrap64 (Int.tmod (IntKind.u64.wrap (a2)) (IntKind.u64.wrap (wrap64 ((a0.size : Int) + 1))))) + (a1.size : Int))) then (if (wrap64 ((wrap64 (Int.tmod (IntKind.u64.wrap (a2)) (IntKind.u64.wrap (wrap64 ((a0.size : Int) + 1))))) + (a1.size : Int))) ≤ (a0.size : Int) then (some ((a0.extract ((wrap64 (Int.tmod (IntKind.u64.wrap (a2)) (IntKind.u64.wrap (wrap64 ((a0.size : Int) + 1))))) : Int).toNat ((wrap64 ((wrap64 (Int.tmod (IntKind.u64.wrap (a2)) (IntKind.u64.wrap (wrap64 ((a0.size : Int) + 1))))) + (a1.size : Int))) : Int).toNat).toList != a1.toList)) else (none)) else (none)) else (none)))) else (some false)) else (some false))) else (if t166 < 0 then (stratumlaw07_PartHalves.j0 k a0 a1 a2 t166 true) else (if a1.toList = ([] : List UInt8) then (stratumlaw07_PartHalves.j0 k a0 a1 a2 t166 true) else (if (wrap64 (t166 + (a1.size : Int))) > (a0.size : Int) then (stratumlaw07_PartHalves.j0 k a0 a1 a2 t166 true) else (if 0 ≤ t166 then (if t166 ≤ (a0.size : Int) then (if t167.toList = (a0.extract 0 (t166 : Int).toNat).toList then ((part_Join.f t167 a1 t168).bind fun t169 => (stratumlaw07_PartHalves.j0 k a0 a1 a2 t166 (t169.toList != a0.toList))) else (stratumlaw07_PartHalves.j0 k a0 a1 a2 t166 true)) else (none)) else (none))))))) = some r := H
    have A8 := Aside0.mk A80
    clear A80
    replace H := Option.bind_eq_some_iff.mp H
    obtain ⟨t168, A90, H⟩ := H
    replace H : (if t166 = (-1) then (if (IntKind.u64.wrap (wrap64 ((a0.size : Int) + 1))) = 0 then (none) else (if t167.toList = a0.toList then (if t168.toList = ([] : List UInt8) then (if a1.toList = ([] : List UInt8) then (some true) else (if (wrap64 ((wrap64 (Int.tmod (IntKind.u64.wrap (a2)) (IntKind.u64.wrap (wrap64 ((a0.size : Int) + 1))))) + (a1.size : Int))) > (a0.size : Int) then (some true) else (if 0 ≤ (wrap64 (Int.tmod (IntKind.u64.wrap (a2)) (IntKind.u64.wrap (wrap64 ((a0.size : Int) + 1))))) then (if (wrap64 (Int.tmod (IntKind.u64.wrap (a2)) (IntKind.u64.wrap (wrap64 ((a0.size : Int) + 1))))) ≤ (wrap64 ((wrap64 (Int.tmod (IntKind.u64.wrap (a2)) (IntKind.u64.wrap (wrap64 ((a0.size : Int) + 1))))) + (a1.size : Int))) then (if (wrap64 ((wrap64 (Int.tmod (IntKind.u64.wrap (a2)) (IntKind.u64.wrap (wrap64 ((a0.size : Int) + 1))))) + (a1.size : Int))) ≤ (a0.size : Int) then (some ((a0.extract ((wrap64 (Int.tmod (IntKind.u64.wrap (a2)) (IntKind.u64.wrap (wrap64 ((a0.size : Int) + 1))))) : Int).toNat ((wrap64 ((wrap64 (Int.tmod (IntKind.u64.wrap (a2)) (IntKind.u64.wrap (wrap64 ((a0.size : Int) + 1))))) + (a1.size : Int))) : Int).toNat).toList != a1.toList)) else (none)) else (none)) else (none)))) else (some false)) else (some false))) else (if t166 < 0 then (stratumlaw07_PartHalves.j0 k a0 a1 a2 t166 true) else (if a1.toList = ([] : List UInt8) then (stratumlaw07_PartHalves.j0 k a0 a1 a2 t166 true) else (if (wrap64 (t166 + (a1.size : Int))) > (a0.size : Int) then (stratumlaw07_PartHalves.j0 k a0 a1 a2 t166 true) else (if 0 ≤ t166 then (if t166 ≤ (a0.size : Int) then (if t167.toList = (a0.extract 0 (t166 : Int).toNat).toList then ((part_Join.f t167 a1 t168).bind fun t169 => (stratumlaw07_PartHalves.j0 k a0 a1 a2 t166 (t169.toList != a0.toList))) else (stratumlaw07_PartHalves.j0 k a0 a1 a2 t166 true)) else (none)) else (none)))))) = some r := H
    have A9 := Aside0.mk A90
    clear A90
    by_cases c10 : t166 = (-1)
    · rw [if_pos c10] at H
      have c10b0 : (t166 == (-1)) = true := beq_iff_eq.mpr c10
      have c10b1 : (t166 != (-1)) = false := bne_eq_false_iff_eq.mpr c10
      clear c10
      by_cases c11 : (IntKind.u64.wrap (wrap64 ((a0.size : Int) + 1))) = 0
      · rw [if_pos c11] at H
        exact absurd H (by simp)
      · rw [if_neg c11] at H
        have c11b0 : ((IntKind.u64.wrap (wrap64 ((a0.size : Int) + 1))) == 0) = false := beq_eq_false_iff_ne.mpr c11
        try (have c11b0s := c11b0; simp only [u64_w64] at c11b0s)
        have c11b1 : ((IntKind.u64.wrap (wrap64 ((a0.size : Int) + 1))) != 0) = true := bne_iff_ne.mpr c11
        try (have c11b1s := c11b1; simp only [u64_w64] at c11b1s)
        by_cases c12 : t167.toList = a0.toList
        · rw [if_pos c12] at H
          have c12b0 : (t167.toList == a0.toList) = true := beq_iff_eq.mpr c12
          have c12b1 : (t167.toList != a0.toList) = false := bne_eq_false_iff_eq.mpr c12
          clear c12
          by_cases c13 : t168.toList = ([] : List UInt8)
          · rw [if_pos c13] at H
            have c13b0 : (t168.toList == ([] : List UInt8)) = true := beq_iff_eq.mpr c13
            have c13b1 : (t168.toList != ([] : List UInt8)) = false := bne_eq_false_iff_eq.mpr c13
            clear c13
            by_cases c14 : a1.toList = ([] : List UInt8)
            · rw [if_pos c14] at H
              have c14b0 : (a1.toList == ([] : List UInt8)) = true := beq_iff_eq.mpr c14
              have c14b1 : (a1.toList != ([] : List UInt8)) = false := bne_eq_false_iff_eq.mpr c14
              clear c14
              obtain rfl := Option.some.inj H
              go_enter Try.func5, Try.ntmps5
              go_wp2_with (first | ((with_reducible refine gate_callee (f := 9) rfl ?_); refine goesL_ (some 12) rfl rfl Try.func9 (by kernel_rfl) rfl #[] rfl (by (try simp only [List.map_toArray, List.map_cons, List.map_nil]); first | done | rfl | (simp only [List.length_drop, List.length_take]; rfl)) ?_; (with_reducible refine (stratumlaw07_awake.calls k lG true _ ?side1 ?side2 A5.out).mono ?_); (case side1 => repeat (first | exact HRG.out | (with_reducible refine Kd.C_alloc ?_ _) | (with_reducible refine Kd.C_drewN ?_ _) | (with_reducible refine Kd.C_drew ?_))); (case side2 => exact HCG.out); rintro e w15 ⟨rfl, hb⟩; refine ⟨_, rfl, ?_⟩; have n0_ := Aside0.mk (below_step (by repeat (first | (with_reducible first | exact HB.out | apply below_alloc | apply pw_below_drewN | apply below_drew1) | exact HB.out)) hb); clear HB; have HB := n0_; clear n0_; (try clear hb); (try clear hb2); (try clear hk); (try clear hi)) | ((with_reducible refine gate_callee (f := 10) rfl ?_); refine goesL_ (some 16) rfl rfl Try.func10 (by kernel_rfl) rfl #[.string a0, .string a1] rfl (by (try simp only [List.map_toArray, List.map_cons, List.map_nil]); first | done | rfl | (simp only [List.length_drop, List.length_take]; rfl)) ?_; (with_reducible refine (part_Index.calls a0 a1 lG t166 _ ?side1 ?side2 A7.out).mono ?_); (case side1 => repeat (first | exact (Kd.C_below HRG.out HB.out) | (with_reducible refine Kd.C_alloc ?_ _) | (with_reducible refine Kd.C_drewN ?_ _) | (with_reducible refine Kd.C_drew ?_))); (case side2 => exact HCG.out); rintro e w' ⟨rfl, ⟨nd, rfl⟩⟩; refine ⟨_, rfl, ?_⟩) | ((with_reducible refine gate_callee (f := 12) rfl ?_); refine goesL_ (some 19) rfl rfl Try.func12 (by kernel_rfl) rfl #[.string a0, .string a1] rfl (by (try simp only [List.map_toArray, List.map_cons, List.map_nil]); first | done | rfl | (simp only [List.length_drop, List.length_take]; rfl)) ?_; (with_reducible refine (part_Head.calls a0 a1 lG t167 _ ?side1 ?side2 A8.out).mono ?_); (case side1 => repeat (first | exact (Kd.C_below HRG.out (by repeat (first | (with_reducible first | exact HB.out | apply below_alloc | apply pw_below_drewN | apply below_drew1) | exact HB.out))) | (with_reducible refine Kd.C_alloc ?_ _) | (with_reducible refine Kd.C_drewN ?_ _) | (with_reducible refine Kd.C_drew ?_))); (case side2 => exact HCG.out); rintro e w' ⟨rfl, ⟨nd, rfl⟩⟩; refine ⟨_, rfl, ?_⟩) | ((with_reducible refine gate_callee (f := 14) rfl ?_); refine goesL_ (some 22) rfl rfl Try.func14 (by kernel_rfl) rfl #[.string a0, .string a1] rfl (by (try simp only [List.map_toArray, List.map_cons, List.map_nil]); first | done | rfl | (simp only [List.length_drop, List.length_take]; rfl)) ?_; (with_reducible refine (part_Tail.calls a0 a1 lG t168 _ ?side1 ?side2 A9.out).mono ?_); (case side1 => repeat (first | exact (Kd.C_below HRG.out (by repeat (first | (with_reducible first | exact HB.out | apply below_alloc | apply pw_below_drewN | apply below_drew1) | exact HB.out))) | (with_reducible refine Kd.C_alloc ?_ _) | (with_reducible refine Kd.C_drewN ?_ _) | (with_reducible refine Kd.C_drew ?_))); (case side2 => exact HCG.out); rintro e w' ⟨rfl, ⟨nd, rfl⟩⟩; refine ⟨_, rfl, ?_⟩))
              go_ret
              exact ⟨by first | rfl | (simp [errW_none, errW_some] <;> rfl) | (simp [*, errW_none, errW_some] <;> rfl), by repeat (first | (with_reducible first | exact HB.out | apply below_alloc | apply pw_below_drewN | apply below_drew1) | exact HB.out)⟩
            · rw [if_neg c14] at H
              have c14b0 : (a1.toList == ([] : List UInt8)) = false := beq_eq_false_iff_ne.mpr c14
              have c14b1 : (a1.toList != ([] : List UInt8)) = true := bne_iff_ne.mpr c14
              by_cases c16 : (wrap64 ((wrap64 (Int.tmod (IntKind.u64.wrap (a2)) (IntKind.u64.wrap (wrap64 ((a0.size : Int) + 1))))) + (a1.size : Int))) > (a0.size : Int)
              · rw [if_pos c16] at H
                have c16b0 : decide ((a0.size : Int) < (wrap64 ((wrap64 (Int.tmod (IntKind.u64.wrap (a2)) (IntKind.u64.wrap (wrap64 ((a0.size : Int) + 1))))) + (a1.size : Int)))) = true := decide_eq_true c16
                try (have c16b0s := c16b0; simp only [u64_w64] at c16b0s)
                clear c16
                obtain rfl := Option.some.inj H
                go_enter Try.func5, Try.ntmps5
                go_wp2_with (first | ((with_reducible refine gate_callee (f := 9) rfl ?_); refine goesL_ (some 12) rfl rfl Try.func9 (by kernel_rfl) rfl #[] rfl (by (try simp only [List.map_toArray, List.map_cons, List.map_nil]); first | done | rfl | (simp only [List.length_drop, List.length_take]; rfl)) ?_; (with_reducible refine (stratumlaw07_awake.calls k lG true _ ?side1 ?side2 A5.out).mono ?_); (case side1 => repeat (first | exact HRG.out | (with_reducible refine Kd.C_alloc ?_ _) | (with_reducible refine Kd.C_drewN ?_ _) | (with_reducible refine Kd.C_drew ?_))); (case side2 => exact HCG.out); rintro e w17 ⟨rfl, hb⟩; refine ⟨_, rfl, ?_⟩; have n0_ := Aside0.mk (below_step (by repeat (first | (with_reducible first | exact HB.out | apply below_alloc | apply pw_below_drewN | apply below_drew1) | exact HB.out)) hb); clear HB; have HB := n0_; clear n0_; (try clear hb); (try clear hb2); (try clear hk); (try clear hi)) | ((with_reducible refine gate_callee (f := 10) rfl ?_); refine goesL_ (some 16) rfl rfl Try.func10 (by kernel_rfl) rfl #[.string a0, .string a1] rfl (by (try simp only [List.map_toArray, List.map_cons, List.map_nil]); first | done | rfl | (simp only [List.length_drop, List.length_take]; rfl)) ?_; (with_reducible refine (part_Index.calls a0 a1 lG t166 _ ?side1 ?side2 A7.out).mono ?_); (case side1 => repeat (first | exact (Kd.C_below HRG.out HB.out) | (with_reducible refine Kd.C_alloc ?_ _) | (with_reducible refine Kd.C_drewN ?_ _) | (with_reducible refine Kd.C_drew ?_))); (case side2 => exact HCG.out); rintro e w' ⟨rfl, ⟨nd, rfl⟩⟩; refine ⟨_, rfl, ?_⟩) | ((with_reducible refine gate_callee (f := 12) rfl ?_); refine goesL_ (some 19) rfl rfl Try.func12 (by kernel_rfl) rfl #[.string a0, .string a1] rfl (by (try simp only [List.map_toArray, List.map_cons, List.map_nil]); first | done | rfl | (simp only [List.length_drop, List.length_take]; rfl)) ?_; (with_reducible refine (part_Head.calls a0 a1 lG t167 _ ?side1 ?side2 A8.out).mono ?_); (case side1 => repeat (first | exact (Kd.C_below HRG.out (by repeat (first | (with_reducible first | exact HB.out | apply below_alloc | apply pw_below_drewN | apply below_drew1) | exact HB.out))) | (with_reducible refine Kd.C_alloc ?_ _) | (with_reducible refine Kd.C_drewN ?_ _) | (with_reducible refine Kd.C_drew ?_))); (case side2 => exact HCG.out); rintro e w' ⟨rfl, ⟨nd, rfl⟩⟩; refine ⟨_, rfl, ?_⟩) | ((with_reducible refine gate_callee (f := 14) rfl ?_); refine goesL_ (some 22) rfl rfl Try.func14 (by kernel_rfl) rfl #[.string a0, .string a1] rfl (by (try simp only [List.map_toArray, List.map_cons, List.map_nil]); first | done | rfl | (simp only [List.length_drop, List.length_take]; rfl)) ?_; (with_reducible refine (part_Tail.calls a0 a1 lG t168 _ ?side1 ?side2 A9.out).mono ?_); (case side1 => repeat (first | exact (Kd.C_below HRG.out (by repeat (first | (with_reducible first | exact HB.out | apply below_alloc | apply pw_below_drewN | apply below_drew1) | exact HB.out))) | (with_reducible refine Kd.C_alloc ?_ _) | (with_reducible refine Kd.C_drewN ?_ _) | (with_reducible refine Kd.C_drew ?_))); (case side2 => exact HCG.out); rintro e w' ⟨rfl, ⟨nd, rfl⟩⟩; refine ⟨_, rfl, ?_⟩))
                go_ret
                exact ⟨by first | rfl | (simp [errW_none, errW_some] <;> rfl) | (simp [*, errW_none, errW_some] <;> rfl), by repeat (first | (with_reducible first | exact HB.out | apply below_alloc | apply pw_below_drewN | apply below_drew1) | exact HB.out)⟩
              · rw [if_neg c16] at H
                have c16b0 : decide ((a0.size : Int) < (wrap64 ((wrap64 (Int.tmod (IntKind.u64.wrap (a2)) (IntKind.u64.wrap (wrap64 ((a0.size : Int) + 1))))) + (a1.size : Int)))) = false := decide_eq_false c16
                try (have c16b0s := c16b0; simp only [u64_w64] at c16b0s)
                clear c16
                obtain ⟨ji18, hji18⟩ : ∃ j_ : Int, (wrap64 (Int.tmod (IntKind.u64.wrap (a2)) (IntKind.u64.wrap (wrap64 ((a0.size : Int) + 1))))) = j_ := ⟨_, rfl⟩
                replace H : (if 0 ≤ (ji18) then (if (ji18) ≤ (wrap64 ((ji18) + (a1.size : Int))) then (if (wrap64 ((ji18) + (a1.size : Int))) ≤ (a0.size : Int) then (some ((a0.extract ((ji18) : Int).toNat ((wrap64 ((ji18) + (a1.size : Int))) : Int).toNat).toList != a1.toList)) else (none)) else (none)) else (none)) = some r := by first | (rw [hji18] at H; exact H) | (simp only [hji18] at H ⊢; exact H)
                (try rw [hji18] at c16b0)
                (try rw [hji18] at A5)
                (try rw [hji18] at A7)
                (try rw [hji18] at A8)
                (try rw [hji18] at A9)
                have hji18w : (IntKind.i64.wrap (Int.tmod (IntKind.u64.wrap (a2)) (IntKind.u64.wrap (wrap64 ((a0.size : Int) + 1))))) = ji18 := (i64_w _).trans hji18
                by_cases c19 : 0 ≤ (ji18)
                · rw [if_pos c19] at H
                  have c19b0 := eq_true c19
                  have c19b1 : decide (0 ≤ (ji18)) = true := decide_eq_true c19
                  clear c19
                  by_cases c20 : (ji18) ≤ (wrap64 ((ji18) + (a1.size : Int)))
                  · rw [if_pos c20] at H
                    have c20b0 := eq_true c20
                    have c20b1 : decide ((ji18) ≤ (wrap64 ((ji18) + (a1.size : Int)))) = true := decide_eq_true c20
                    by_cases c21 : (wrap64 ((ji18) + (a1.size : Int))) ≤ (a0.size : Int)
                    · rw [if_pos c21] at H
                      have c21b0 := eq_true c21
                      have c21b1 : decide ((wrap64 ((ji18) + (a1.size : Int))) ≤ (a0.size : Int)) = true := decide_eq_true c21
                      obtain rfl := Option.some.inj H
                      go_enter Try.func5, Try.ntmps5
                      go_wp2_with (first | ((with_reducible refine gate_callee (f := 9) rfl ?_); refine goesL_ (some 12) rfl rfl Try.func9 (by kernel_rfl) rfl #[] rfl (by (try simp only [List.map_toArray, List.map_cons, List.map_nil]); first | done | rfl | (simp only [List.length_drop, List.length_take]; rfl)) ?_; (with_reducible refine (stratumlaw07_awake.calls k lG true _ ?side1 ?side2 A5.out).mono ?_); (case side1 => repeat (first | exact HRG.out | (with_reducible refine Kd.C_alloc ?_ _) | (with_reducible refine Kd.C_drewN ?_ _) | (with_reducible refine Kd.C_drew ?_))); (case side2 => exact HCG.out); rintro e w22 ⟨rfl, hb⟩; refine ⟨_, rfl, ?_⟩; have n0_ := Aside0.mk (below_step (by repeat (first | (with_reducible first | exact HB.out | apply below_alloc | apply pw_below_drewN | apply below_drew1) | exact HB.out)) hb); clear HB; have HB := n0_; clear n0_; (try clear hb); (try clear hb2); (try clear hk); (try clear hi)) | ((with_reducible refine gate_callee (f := 10) rfl ?_); refine goesL_ (some 16) rfl rfl Try.func10 (by kernel_rfl) rfl #[.string a0, .string a1] rfl (by (try simp only [List.map_toArray, List.map_cons, List.map_nil]); first | done | rfl | (simp only [List.length_drop, List.length_take]; rfl)) ?_; (with_reducible refine (part_Index.calls a0 a1 lG t166 _ ?side1 ?side2 A7.out).mono ?_); (case side1 => repeat (first | exact (Kd.C_below HRG.out HB.out) | (with_reducible refine Kd.C_alloc ?_ _) | (with_reducible refine Kd.C_drewN ?_ _) | (with_reducible refine Kd.C_drew ?_))); (case side2 => exact HCG.out); rintro e w' ⟨rfl, ⟨nd, rfl⟩⟩; refine ⟨_, rfl, ?_⟩) | ((with_reducible refine gate_callee (f := 12) rfl ?_); refine goesL_ (some 19) rfl rfl Try.func12 (by kernel_rfl) rfl #[.string a0, .string a1] rfl (by (try simp only [List.map_toArray, List.map_cons, List.map_nil]); first | done | rfl | (simp only [List.length_drop, List.length_take]; rfl)) ?_; (with_reducible refine (part_Head.calls a0 a1 lG t167 _ ?side1 ?side2 A8.out).mono ?_); (case side1 => repeat (first | exact (Kd.C_below HRG.out (by repeat (first | (with_reducible first | exact HB.out | apply below_alloc | apply pw_below_drewN | apply below_drew1) | exact HB.out))) | (with_reducible refine Kd.C_alloc ?_ _) | (with_reducible refine Kd.C_drewN ?_ _) | (with_reducible refine Kd.C_drew ?_))); (case side2 => exact HCG.out); rintro e w' ⟨rfl, ⟨nd, rfl⟩⟩; refine ⟨_, rfl, ?_⟩) | ((with_reducible refine gate_callee (f := 14) rfl ?_); refine goesL_ (some 22) rfl rfl Try.func14 (by kernel_rfl) rfl #[.string a0, .string a1] rfl (by (try simp only [List.map_toArray, List.map_cons, List.map_nil]); first | done | rfl | (simp only [List.length_drop, List.length_take]; rfl)) ?_; (with_reducible refine (part_Tail.calls a0 a1 lG t168 _ ?side1 ?side2 A9.out).mono ?_); (case side1 => repeat (first | exact (Kd.C_below HRG.out (by repeat (first | (with_reducible first | exact HB.out | apply below_alloc | apply pw_below_drewN | apply below_drew1) | exact HB.out))) | (with_reducible refine Kd.C_alloc ?_ _) | (with_reducible refine Kd.C_drewN ?_ _) | (with_reducible refine Kd.C_drew ?_))); (case side2 => exact HCG.out); rintro e w' ⟨rfl, ⟨nd, rfl⟩⟩; refine ⟨_, rfl, ?_⟩))
                      go_ret
                      exact ⟨by first | rfl | (simp [errW_none, errW_some] <;> rfl) | (simp only [← hji18]; first | rfl | (simp [errW_none, errW_some] <;> rfl)) | (simp [*, errW_none, errW_some] <;> rfl), by repeat (first | (with_reducible first | exact HB.out | apply below_alloc | apply pw_below_drewN | apply below_drew1) | exact HB.out)⟩
                    · rw [if_neg c21] at H
                      exact absurd H (by simp)
                  · rw [if_neg c20] at H
                    exact absurd H (by simp)
                · rw [if_neg c19] at H
                  exact absurd H (by simp)
          · rw [if_neg c13] at H
            have c13b0 : (t168.toList == ([] : List UInt8)) = false := beq_eq_false_iff_ne.mpr c13
            have c13b1 : (t168.toList != ([] : List UInt8)) = true := bne_iff_ne.mpr c13
            obtain rfl := Option.some.inj H
            go_enter Try.func5, Try.ntmps5
            go_wp2_with (first | ((with_reducible refine gate_callee (f := 9) rfl ?_); refine goesL_ (some 12) rfl rfl Try.func9 (by kernel_rfl) rfl #[] rfl (by (try simp only [List.map_toArray, List.map_cons, List.map_nil]); first | done | rfl | (simp only [List.length_drop, List.length_take]; rfl)) ?_; (with_reducible refine (stratumlaw07_awake.calls k lG true _ ?side1 ?side2 A5.out).mono ?_); (case side1 => repeat (first | exact HRG.out | (with_reducible refine Kd.C_alloc ?_ _) | (with_reducible refine Kd.C_drewN ?_ _) | (with_reducible refine Kd.C_drew ?_))); (case side2 => exact HCG.out); rintro e w23 ⟨rfl, hb⟩; refine ⟨_, rfl, ?_⟩; have n0_ := Aside0.mk (below_step (by repeat (first | (with_reducible first | exact HB.out | apply below_alloc | apply pw_below_drewN | apply below_drew1) | exact HB.out)) hb); clear HB; have HB := n0_; clear n0_; (try clear hb); (try clear hb2); (try clear hk); (try clear hi)) | ((with_reducible refine gate_callee (f := 10) rfl ?_); refine goesL_ (some 16) rfl rfl Try.func10 (by kernel_rfl) rfl #[.string a0, .string a1] rfl (by (try simp only [List.map_toArray, List.map_cons, List.map_nil]); first | done | rfl | (simp only [List.length_drop, List.length_take]; rfl)) ?_; (with_reducible refine (part_Index.calls a0 a1 lG t166 _ ?side1 ?side2 A7.out).mono ?_); (case side1 => repeat (first | exact (Kd.C_below HRG.out HB.out) | (with_reducible refine Kd.C_alloc ?_ _) | (with_reducible refine Kd.C_drewN ?_ _) | (with_reducible refine Kd.C_drew ?_))); (case side2 => exact HCG.out); rintro e w' ⟨rfl, ⟨nd, rfl⟩⟩; refine ⟨_, rfl, ?_⟩) | ((with_reducible refine gate_callee (f := 12) rfl ?_); refine goesL_ (some 19) rfl rfl Try.func12 (by kernel_rfl) rfl #[.string a0, .string a1] rfl (by (try simp only [List.map_toArray, List.map_cons, List.map_nil]); first | done | rfl | (simp only [List.length_drop, List.length_take]; rfl)) ?_; (with_reducible refine (part_Head.calls a0 a1 lG t167 _ ?side1 ?side2 A8.out).mono ?_); (case side1 => repeat (first | exact (Kd.C_below HRG.out (by repeat (first | (with_reducible first | exact HB.out | apply below_alloc | apply pw_below_drewN | apply below_drew1) | exact HB.out))) | (with_reducible refine Kd.C_alloc ?_ _) | (with_reducible refine Kd.C_drewN ?_ _) | (with_reducible refine Kd.C_drew ?_))); (case side2 => exact HCG.out); rintro e w' ⟨rfl, ⟨nd, rfl⟩⟩; refine ⟨_, rfl, ?_⟩) | ((with_reducible refine gate_callee (f := 14) rfl ?_); refine goesL_ (some 22) rfl rfl Try.func14 (by kernel_rfl) rfl #[.string a0, .string a1] rfl (by (try simp only [List.map_toArray, List.map_cons, List.map_nil]); first | done | rfl | (simp only [List.length_drop, List.length_take]; rfl)) ?_; (with_reducible refine (part_Tail.calls a0 a1 lG t168 _ ?side1 ?side2 A9.out).mono ?_); (case side1 => repeat (first | exact (Kd.C_below HRG.out (by repeat (first | (with_reducible first | exact HB.out | apply below_alloc | apply pw_below_drewN | apply below_drew1) | exact HB.out))) | (with_reducible refine Kd.C_alloc ?_ _) | (with_reducible refine Kd.C_drewN ?_ _) | (with_reducible refine Kd.C_drew ?_))); (case side2 => exact HCG.out); rintro e w' ⟨rfl, ⟨nd, rfl⟩⟩; refine ⟨_, rfl, ?_⟩))
            go_ret
            exact ⟨by first | rfl | (simp [errW_none, errW_some] <;> rfl) | (simp [*, errW_none, errW_some] <;> rfl), by repeat (first | (with_reducible first | exact HB.out | apply below_alloc | apply pw_below_drewN | apply below_drew1) | exact HB.out)⟩
        · rw [if_neg c12] at H
          have c12b0 : (t167.toList == a0.toList) = false := beq_eq_false_iff_ne.mpr c12
          have c12b1 : (t167.toList != a0.toList) = true := bne_iff_ne.mpr c12
          obtain rfl := Option.some.inj H
          go_enter Try.func5, Try.ntmps5
          go_wp2_with (first | ((with_reducible refine gate_callee (f := 9) rfl ?_); refine goesL_ (some 12) rfl rfl Try.func9 (by kernel_rfl) rfl #[] rfl (by (try simp only [List.map_toArray, List.map_cons, List.map_nil]); first | done | rfl | (simp only [List.length_drop, List.length_take]; rfl)) ?_; (with_reducible refine (stratumlaw07_awake.calls k lG true _ ?side1 ?side2 A5.out).mono ?_); (case side1 => repeat (first | exact HRG.out | (with_reducible refine Kd.C_alloc ?_ _) | (with_reducible refine Kd.C_drewN ?_ _) | (with_reducible refine Kd.C_drew ?_))); (case side2 => exact HCG.out); rintro e w24 ⟨rfl, hb⟩; refine ⟨_, rfl, ?_⟩; have n0_ := Aside0.mk (below_step (by repeat (first | (with_reducible first | exact HB.out | apply below_alloc | apply pw_below_drewN | apply below_drew1) | exact HB.out)) hb); clear HB; have HB := n0_; clear n0_; (try clear hb); (try clear hb2); (try clear hk); (try clear hi)) | ((with_reducible refine gate_callee (f := 10) rfl ?_); refine goesL_ (some 16) rfl rfl Try.func10 (by kernel_rfl) rfl #[.string a0, .string a1] rfl (by (try simp only [List.map_toArray, List.map_cons, List.map_nil]); first | done | rfl | (simp only [List.length_drop, List.length_take]; rfl)) ?_; (with_reducible refine (part_Index.calls a0 a1 lG t166 _ ?side1 ?side2 A7.out).mono ?_); (case side1 => repeat (first | exact (Kd.C_below HRG.out HB.out) | (with_reducible refine Kd.C_alloc ?_ _) | (with_reducible refine Kd.C_drewN ?_ _) | (with_reducible refine Kd.C_drew ?_))); (case side2 => exact HCG.out); rintro e w' ⟨rfl, ⟨nd, rfl⟩⟩; refine ⟨_, rfl, ?_⟩) | ((with_reducible refine gate_callee (f := 12) rfl ?_); refine goesL_ (some 19) rfl rfl Try.func12 (by kernel_rfl) rfl #[.string a0, .string a1] rfl (by (try simp only [List.map_toArray, List.map_cons, List.map_nil]); first | done | rfl | (simp only [List.length_drop, List.length_take]; rfl)) ?_; (with_reducible refine (part_Head.calls a0 a1 lG t167 _ ?side1 ?side2 A8.out).mono ?_); (case side1 => repeat (first | exact (Kd.C_below HRG.out (by repeat (first | (with_reducible first | exact HB.out | apply below_alloc | apply pw_below_drewN | apply below_drew1) | exact HB.out))) | (with_reducible refine Kd.C_alloc ?_ _) | (with_reducible refine Kd.C_drewN ?_ _) | (with_reducible refine Kd.C_drew ?_))); (case side2 => exact HCG.out); rintro e w' ⟨rfl, ⟨nd, rfl⟩⟩; refine ⟨_, rfl, ?_⟩) | ((with_reducible refine gate_callee (f := 14) rfl ?_); refine goesL_ (some 22) rfl rfl Try.func14 (by kernel_rfl) rfl #[.string a0, .string a1] rfl (by (try simp only [List.map_toArray, List.map_cons, List.map_nil]); first | done | rfl | (simp only [List.length_drop, List.length_take]; rfl)) ?_; (with_reducible refine (part_Tail.calls a0 a1 lG t168 _ ?side1 ?side2 A9.out).mono ?_); (case side1 => repeat (first | exact (Kd.C_below HRG.out (by repeat (first | (with_reducible first | exact HB.out | apply below_alloc | apply pw_below_drewN | apply below_drew1) | exact HB.out))) | (with_reducible refine Kd.C_alloc ?_ _) | (with_reducible refine Kd.C_drewN ?_ _) | (with_reducible refine Kd.C_drew ?_))); (case side2 => exact HCG.out); rintro e w' ⟨rfl, ⟨nd, rfl⟩⟩; refine ⟨_, rfl, ?_⟩))
          go_ret
          exact ⟨by first | rfl | (simp [errW_none, errW_some] <;> rfl) | (simp [*, errW_none, errW_some] <;> rfl), by repeat (first | (with_reducible first | exact HB.out | apply below_alloc | apply pw_below_drewN | apply below_drew1) | exact HB.out)⟩
    · rw [if_neg c10] at H
      have c10b0 : (t166 == (-1)) = false := beq_eq_false_iff_ne.mpr c10
      have c10b1 : (t166 != (-1)) = true := bne_iff_ne.mpr c10
      have HC25 := Aside0.mk H
      clear H
      go_enter Try.func5, Try.ntmps5
      go_upto_region 9 with (first | ((with_reducible refine gate_callee (f := 9) rfl ?_); refine goesL_ (some 12) rfl rfl Try.func9 (by kernel_rfl) rfl #[] rfl (by (try simp only [List.map_toArray, List.map_cons, List.map_nil]); first | done | rfl | (simp only [List.length_drop, List.length_take]; rfl)) ?_; (with_reducible refine (stratumlaw07_awake.calls k lG true _ ?side1 ?side2 A5.out).mono ?_); (case side1 => repeat (first | exact HRG.out | (with_reducible refine Kd.C_alloc ?_ _) | (with_reducible refine Kd.C_drewN ?_ _) | (with_reducible refine Kd.C_drew ?_))); (case side2 => exact HCG.out); rintro e w26 ⟨rfl, hb⟩; refine ⟨_, rfl, ?_⟩; have n0_ := Aside0.mk (below_step (by repeat (first | (with_reducible first | exact HB.out | apply below_alloc | apply pw_below_drewN | apply below_drew1) | exact HB.out)) hb); clear HB; have HB := n0_; clear n0_; (try clear hb); (try clear hb2); (try clear hk); (try clear hi)) | ((with_reducible refine gate_callee (f := 10) rfl ?_); refine goesL_ (some 16) rfl rfl Try.func10 (by kernel_rfl) rfl #[.string a0, .string a1] rfl (by (try simp only [List.map_toArray, List.map_cons, List.map_nil]); first | done | rfl | (simp only [List.length_drop, List.length_take]; rfl)) ?_; (with_reducible refine (part_Index.calls a0 a1 lG t166 _ ?side1 ?side2 A7.out).mono ?_); (case side1 => repeat (first | exact (Kd.C_below HRG.out HB.out) | (with_reducible refine Kd.C_alloc ?_ _) | (with_reducible refine Kd.C_drewN ?_ _) | (with_reducible refine Kd.C_drew ?_))); (case side2 => exact HCG.out); rintro e w' ⟨rfl, ⟨nd, rfl⟩⟩; refine ⟨_, rfl, ?_⟩) | ((with_reducible refine gate_callee (f := 12) rfl ?_); refine goesL_ (some 19) rfl rfl Try.func12 (by kernel_rfl) rfl #[.string a0, .string a1] rfl (by (try simp only [List.map_toArray, List.map_cons, List.map_nil]); first | done | rfl | (simp only [List.length_drop, List.length_take]; rfl)) ?_; (with_reducible refine (part_Head.calls a0 a1 lG t167 _ ?side1 ?side2 A8.out).mono ?_); (case side1 => repeat (first | exact (Kd.C_below HRG.out (by repeat (first | (with_reducible first | exact HB.out | apply below_alloc | apply pw_below_drewN | apply below_drew1) | exact HB.out))) | (with_reducible refine Kd.C_alloc ?_ _) | (with_reducible refine Kd.C_drewN ?_ _) | (with_reducible refine Kd.C_drew ?_))); (case side2 => exact HCG.out); rintro e w' ⟨rfl, ⟨nd, rfl⟩⟩; refine ⟨_, rfl, ?_⟩) | ((with_reducible refine gate_callee (f := 14) rfl ?_); refine goesL_ (some 22) rfl rfl Try.func14 (by kernel_rfl) rfl #[.string a0, .string a1] rfl (by (try simp only [List.map_toArray, List.map_cons, List.map_nil]); first | done | rfl | (simp only [List.length_drop, List.length_take]; rfl)) ?_; (with_reducible refine (part_Tail.calls a0 a1 lG t168 _ ?side1 ?side2 A9.out).mono ?_); (case side1 => repeat (first | exact (Kd.C_below HRG.out (by repeat (first | (with_reducible first | exact HB.out | apply below_alloc | apply pw_below_drewN | apply below_drew1) | exact HB.out))) | (with_reducible refine Kd.C_alloc ?_ _) | (with_reducible refine Kd.C_drewN ?_ _) | (with_reducible refine Kd.C_drew ?_))); (case side2 => exact HCG.out); rintro e w' ⟨rfl, ⟨nd, rfl⟩⟩; refine ⟨_, rfl, ?_⟩))
      (try simp only [Act.put, List.setIfInBounds_toArray, List.set_cons_zero, List.set_cons_succ])
      go_cut [93] (fun v93 wc => ∃ (kq : Nat) (x93_24 : Bool), v93 = .bool x93_24 ∧ Aside0 (stratumlaw07_PartHalves.j0 kq a0 a1 a2 t166 x93_24 = some r) ∧ Aside0 (kq ≤ k) ∧ Aside0 (Below w.heap.size w wc))
      case first =>
        have H := HC25.out
        clear HC25
        by_cases c27 : t166 < 0
        · rw [if_pos c27] at H
          have c27b0 : decide (t166 < 0) = true := decide_eq_true c27
          clear c27
          (first | rw [c27b0] | (simp only [i64_w, i32_w]; rw [c27b0]) | skip)
          have H' := Aside0.mk H
          clear H
          go_wp2
          go_meet
          case rel => exact ⟨_, (true), (by first | rfl | (simp; done) | (simp [*]; done)), H', ⟨by first | omega | exact Nat.le_refl _⟩, ⟨by repeat (first | (with_reducible first | exact HB.out | apply below_alloc | apply pw_below_drewN | apply below_drew1) | exact HB.out)⟩⟩
        · rw [if_neg c27] at H
          have c27b0 : decide (t166 < 0) = false := decide_eq_false c27
          clear c27
          (first | rw [c27b0] | (simp only [i64_w, i32_w]; rw [c27b0]) | skip)
          by_cases c28 : a1.toList = ([] : List UInt8)
          · rw [if_pos c28] at H
            have c28b0 : (a1.toList == ([] : List UInt8)) = true := beq_iff_eq.mpr c28
            have c28b1 : (a1.toList != ([] : List UInt8)) = false := bne_eq_false_iff_eq.mpr c28
            clear c28
            have H' := Aside0.mk H
            clear H
            go_wp2
            go_meet
            case rel => exact ⟨_, (true), (by first | rfl | (simp; done) | (simp [*]; done)), H', ⟨by first | omega | exact Nat.le_refl _⟩, ⟨by repeat (first | (with_reducible first | exact HB.out | apply below_alloc | apply pw_below_drewN | apply below_drew1) | exact HB.out)⟩⟩
          · rw [if_neg c28] at H
            have c28b0 : (a1.toList == ([] : List UInt8)) = false := beq_eq_false_iff_ne.mpr c28
            have c28b1 : (a1.toList != ([] : List UInt8)) = true := bne_iff_ne.mpr c28
            by_cases c29 : (wrap64 (t166 + (a1.size : Int))) > (a0.size : Int)
            · rw [if_pos c29] at H
              have c29b0 : decide ((a0.size : Int) < (wrap64 (t166 + (a1.size : Int)))) = true := decide_eq_true c29
              clear c29
              have H' := Aside0.mk H
              clear H
              go_wp2
              go_meet
              case rel => exact ⟨_, (true), (by first | rfl | (simp; done) | (simp [*]; done)), H', ⟨by first | omega | exact Nat.le_refl _⟩, ⟨by repeat (first | (with_reducible first | exact HB.out | apply below_alloc | apply pw_below_drewN | apply below_drew1) | exact HB.out)⟩⟩
            · rw [if_neg c29] at H
              have c29b0 : decide ((a0.size : Int) < (wrap64 (t166 + (a1.size : Int)))) = false := decide_eq_false c29
              clear c29
              by_cases c30 : 0 ≤ t166
              · rw [if_pos c30] at H
                have c30b0 := eq_true c30
                have c30b1 : decide (0 ≤ t166) = true := decide_eq_true c30
                clear c30
                by_cases c31 : t166 ≤ (a0.size : Int)
                · rw [if_pos c31] at H
                  have c31b0 := eq_true c31
                  have c31b1 : decide (t166 ≤ (a0.size : Int)) = true := decide_eq_true c31
                  clear c31
                  by_cases c32 : t167.toList = (a0.extract 0 (t166 : Int).toNat).toList
                  · rw [if_pos c32] at H
                    have c32b0 : (t167.toList == (a0.extract 0 (t166 : Int).toNat).toList) = true := beq_iff_eq.mpr c32
                    have c32b1 : (t167.toList != (a0.extract 0 (t166 : Int).toNat).toList) = false := bne_eq_false_iff_eq.mpr c32
                    clear c32
                    replace H := Option.bind_eq_some_iff.mp H
                    obtain ⟨t169, A330, H⟩ := H
                    replace H : (stratumlaw07_PartHalves.j0 k a0 a1 a2 t166 (t169.toList != a0.toList)) = some r := H
                    have A33 := Aside0.mk A330
                    clear A330
                    have H' := Aside0.mk H
                    clear H
                    go_wp2_with (first | (go_at_call 16; (with_reducible refine (part_Join.calls t167 a1 t168 t169 _ A33.out).mono ?_); rintro e w34 ⟨rfl, hb⟩; have n0_ := Aside0.mk (below_step (by repeat (first | (with_reducible first | exact HB.out | apply below_alloc | apply pw_below_drewN | apply below_drew1) | exact HB.out)) hb); clear HB; have HB := n0_; clear n0_; (try clear hb); (try clear hb2); (try clear hk); (try clear hi)))
                    go_meet
                    case rel => exact ⟨_, ((t169.toList != a0.toList)), (by first | rfl | (simp; done) | (simp [*]; done)), H', ⟨by first | omega | exact Nat.le_refl _⟩, ⟨by repeat (first | (with_reducible first | exact HB.out | apply below_alloc | apply pw_below_drewN | apply below_drew1) | exact HB.out)⟩⟩
                  · rw [if_neg c32] at H
                    have c32b0 : (t167.toList == (a0.extract 0 (t166 : Int).toNat).toList) = false := beq_eq_false_iff_ne.mpr c32
                    have c32b1 : (t167.toList != (a0.extract 0 (t166 : Int).toNat).toList) = true := bne_iff_ne.mpr c32
                    have H' := Aside0.mk H
                    clear H
                    go_wp2
                    go_meet
                    case rel => exact ⟨_, (true), (by first | rfl | (simp; done) | (simp [*]; done)), H', ⟨by first | omega | exact Nat.le_refl _⟩, ⟨by repeat (first | (with_reducible first | exact HB.out | apply below_alloc | apply pw_below_drewN | apply below_drew1) | exact HB.out)⟩⟩
                · rw [if_neg c31] at H
                  exact absurd H (by simp)
              · rw [if_neg c30] at H
                exact absurd H (by simp)
      case rest =>
        clear HC25
        try clear c1
        try clear c2
        try clear p2
        try clear c3
        try clear c5
        try clear c6
        try clear p6
        try clear c9
        try clear c10
        try clear c10b0
        try clear c10b1
        try clear c11
        try clear c11b0
        try clear c11b1
        try clear c12
        try clear c12b0
        try clear c12b1
        try clear c13
        try clear c13b0
        try clear c13b1
        try clear c14
        try clear c14b0
        try clear c14b1
        try clear c16
        try clear c16b0
        try clear c19
        try clear c19b0
        try clear c19b1
        try clear c20
        try clear c20b0
        try clear c20b1
        try clear c21
        try clear c21b0
        try clear c21b1
        try clear c27
        try clear c27b0
        try clear c28
        try clear c28b0
        try clear c28b1
        try clear c29
        try clear c29b0
        try clear c30
        try clear c30b0
        try clear c30b1
        try clear c31
        try clear c31b0
        try clear c31b1
        try clear c32
        try clear c32b0
        try clear c32b1
        obtain ⟨kq, x93_24, rfl, HA, HJ24, HB⟩ := hcut
        cases kq with
        | zero => exact absurd HA.out (by simp [stratumlaw07_PartHalves.j0])
        | succ kj24 =>
          have H := HA.out
          clear HA
          simp only [stratumlaw07_PartHalves.j0] at H
          by_cases c35 : x93_24 = true
          · subst c35
            have H1 : (some false) = some r := by rw [if_pos rfl] at H; exact H
            clear H
            have H := H1
            clear H1
            obtain rfl := Option.some.inj H
            go_wp2
            go_ret
            exact ⟨by first | rfl | (simp [errW_none, errW_some] <;> rfl) | (simp [*, errW_none, errW_some] <;> rfl), by repeat (first | (with_reducible first | exact HB.out | apply below_alloc | apply pw_below_drewN | apply below_drew1) | exact HB.out)⟩
          · replace c35 := Bool.eq_false_iff.mpr c35
            subst c35
            have H1 : (if t166 > 0 then (if (IntKind.u64.wrap (t166)) = 0 then (none) else (if (wrap64 (Int.tmod (IntKind.u64.wrap (a2)) (IntKind.u64.wrap (t166)))) = t166 then (some true) else (if (wrap64 ((wrap64 (Int.tmod (IntKind.u64.wrap (a2)) (IntKind.u64.wrap (t166)))) + (a1.size : Int))) > (a0.size : Int) then (some true) else (if 0 ≤ (wrap64 (Int.tmod (IntKind.u64.wrap (a2)) (IntKind.u64.wrap (t166)))) then (if (wrap64 (Int.tmod (IntKind.u64.wrap (a2)) (IntKind.u64.wrap (t166)))) ≤ (wrap64 ((wrap64 (Int.tmod (IntKind.u64.wrap (a2)) (IntKind.u64.wrap (t166)))) + (a1.size : Int))) then (if (wrap64 ((wrap64 (Int.tmod (IntKind.u64.wrap (a2)) (IntKind.u64.wrap (t166)))) + (a1.size : Int))) ≤ (a0.size : Int) then (some ((a0.extract ((wrap64 (Int.tmod (IntKind.u64.wrap (a2)) (IntKind.u64.wrap (t166)))) : Int).toNat ((wrap64 ((wrap64 (Int.tmod (IntKind.u64.wrap (a2)) (IntKind.u64.wrap (t166)))) + (a1.size : Int))) : Int).toNat).toList != a1.toList)) else (none)) else (none)) else (none))))) else (if 0 = t166 then (some true) else (if (wrap64 ((a1.size : Int))) > (a0.size : Int) then (some true) else (if 0 ≤ (wrap64 ((a1.size : Int))) then (if (wrap64 ((a1.size : Int))) ≤ (a0.size : Int) then (some ((a0.extract 0 ((wrap64 ((a1.size : Int))) : Int).toNat).toList != a1.toList)) else (none)) else (none))))) = some r := by rw [if_neg (show ¬ (false = true) by decide)] at H; exact H
            clear H
            have H := H1
            clear H1
            by_cases c36 : t166 > 0
            · rw [if_pos c36] at H
              have c36b0 : decide (0 < t166) = true := decide_eq_true c36
              clear c36
              by_cases c37 : (IntKind.u64.wrap (t166)) = 0
              · rw [if_pos c37] at H
                exact absurd H (by simp)
              · rw [if_neg c37] at H
                have c37b0 : ((IntKind.u64.wrap (t166)) == 0) = false := beq_eq_false_iff_ne.mpr c37
                have c37b1 : ((IntKind.u64.wrap (t166)) != 0) = true := bne_iff_ne.mpr c37
                by_cases c38 : (wrap64 (Int.tmod (IntKind.u64.wrap (a2)) (IntKind.u64.wrap (t166)))) = t166
                · rw [if_pos c38] at H
                  have c38b0 : ((wrap64 (Int.tmod (IntKind.u64.wrap (a2)) (IntKind.u64.wrap (t166)))) == t166) = true := beq_iff_eq.mpr c38
                  have c38b1 : ((wrap64 (Int.tmod (IntKind.u64.wrap (a2)) (IntKind.u64.wrap (t166)))) != t166) = false := bne_eq_false_iff_eq.mpr c38
                  clear c38
                  obtain rfl := Option.some.inj H
                  go_wp2
                  go_ret
                  exact ⟨by first | rfl | (simp [errW_none, errW_some] <;> rfl) | (simp [*, errW_none, errW_some] <;> rfl), by repeat (first | (with_reducible first | exact HB.out | apply below_alloc | apply pw_below_drewN | apply below_drew1) | exact HB.out)⟩
                · rw [if_neg c38] at H
                  have c38b0 : ((wrap64 (Int.tmod (IntKind.u64.wrap (a2)) (IntKind.u64.wrap (t166)))) == t166) = false := beq_eq_false_iff_ne.mpr c38
                  have c38b1 : ((wrap64 (Int.tmod (IntKind.u64.wrap (a2)) (IntKind.u64.wrap (t166)))) != t166) = true := bne_iff_ne.mpr c38
                  by_cases c39 : (wrap64 ((wrap64 (Int.tmod (IntKind.u64.wrap (a2)) (IntKind.u64.wrap (t166)))) + (a1.size : Int))) > (a0.size : Int)
                  · rw [if_pos c39] at H
                    have c39b0 : decide ((a0.size : Int) < (wrap64 ((wrap64 (Int.tmod (IntKind.u64.wrap (a2)) (IntKind.u64.wrap (t166)))) + (a1.size : Int)))) = true := decide_eq_true c39
                    clear c39
                    obtain rfl := Option.some.inj H
                    go_wp2
                    go_ret
                    exact ⟨by first | rfl | (simp [errW_none, errW_some] <;> rfl) | (simp [*, errW_none, errW_some] <;> rfl), by repeat (first | (with_reducible first | exact HB.out | apply below_alloc | apply pw_below_drewN | apply below_drew1) | exact HB.out)⟩
                  · rw [if_neg c39] at H
                    have c39b0 : decide ((a0.size : Int) < (wrap64 ((wrap64 (Int.tmod (IntKind.u64.wrap (a2)) (IntKind.u64.wrap (t166)))) + (a1.size : Int)))) = false := decide_eq_false c39
                    clear c39
                    obtain ⟨ji40, hji40⟩ : ∃ j_ : Int, (wrap64 (Int.tmod (IntKind.u64.wrap (a2)) (IntKind.u64.wrap (t166)))) = j_ := ⟨_, rfl⟩
                    replace H : (if 0 ≤ (ji40) then (if (ji40) ≤ (wrap64 ((ji40) + (a1.size : Int))) then (if (wrap64 ((ji40) + (a1.size : Int))) ≤ (a0.size : Int) then (some ((a0.extract ((ji40) : Int).toNat ((wrap64 ((ji40) + (a1.size : Int))) : Int).toNat).toList != a1.toList)) else (none)) else (none)) else (none)) = some r := by first | (rw [hji40] at H; exact H) | (simp only [hji40] at H ⊢; exact H)
                    (try rw [hji40] at c38b0)
                    (try rw [hji40] at c38b1)
                    (try rw [hji40] at c39b0)
                    have hji40w : (IntKind.i64.wrap (Int.tmod (IntKind.u64.wrap (a2)) (IntKind.u64.wrap (t166)))) = ji40 := (i64_w _).trans hji40
                    by_cases c41 : 0 ≤ (ji40)
                    · rw [if_pos c41] at H
                      have c41b0 := eq_true c41
                      have c41b1 : decide (0 ≤ (ji40)) = true := decide_eq_true c41
                      clear c41
                      by_cases c42 : (ji40) ≤ (wrap64 ((ji40) + (a1.size : Int)))
                      · rw [if_pos c42] at H
                        have c42b0 := eq_true c42
                        have c42b1 : decide ((ji40) ≤ (wrap64 ((ji40) + (a1.size : Int)))) = true := decide_eq_true c42
                        by_cases c43 : (wrap64 ((ji40) + (a1.size : Int))) ≤ (a0.size : Int)
                        · rw [if_pos c43] at H
                          have c43b0 := eq_true c43
                          have c43b1 : decide ((wrap64 ((ji40) + (a1.size : Int))) ≤ (a0.size : Int)) = true := decide_eq_true c43
                          obtain rfl := Option.some.inj H
                          go_wp2
                          go_ret
                          exact ⟨by first | rfl | (simp [errW_none, errW_some] <;> rfl) | (simp only [← hji40]; first | rfl | (simp [errW_none, errW_some] <;> rfl)) | (simp [*, errW_none, errW_some] <;> rfl), by repeat (first | (with_reducible first | exact HB.out | apply below_alloc | apply pw_below_drewN | apply below_drew1) | exact HB.out)⟩
                        · rw [if_neg c43] at H
                          exact absurd H (by simp)
                      · rw [if_neg c42] at H
                        exact absurd H (by simp)
                    · rw [if_neg c41] at H
                      exact absurd H (by simp)
            · rw [if_neg c36] at H
              have c36b0 : decide (0 < t166) = false := decide_eq_false c36
              clear c36
              by_cases c44 : 0 = t166
              · rw [if_pos c44] at H
                have c44b0 : (0 == t166) = true := beq_iff_eq.mpr c44
                have c44b1 : (0 != t166) = false := bne_eq_false_iff_eq.mpr c44
                clear c44
                obtain rfl := Option.some.inj H
                go_wp2
                go_ret
                exact ⟨by first | rfl | (simp [errW_none, errW_some] <;> rfl) | (simp [*, errW_none, errW_some] <;> rfl), by repeat (first | (with_reducible first | exact HB.out | apply below_alloc | apply pw_below_drewN | apply below_drew1) | exact HB.out)⟩
              · rw [if_neg c44] at H
                have c44b0 : (0 == t166) = false := beq_eq_false_iff_ne.mpr c44
                have c44b1 : (0 != t166) = true := bne_iff_ne.mpr c44
                by_cases c45 : (wrap64 ((a1.size : Int))) > (a0.size : Int)
                · rw [if_pos c45] at H
                  have c45b0 : decide ((a0.size : Int) < (wrap64 ((a1.size : Int)))) = true := decide_eq_true c45
                  clear c45
                  obtain rfl := Option.some.inj H
                  go_wp2
                  go_ret
                  exact ⟨by first | rfl | (simp [errW_none, errW_some] <;> rfl) | (simp [*, errW_none, errW_some] <;> rfl), by repeat (first | (with_reducible first | exact HB.out | apply below_alloc | apply pw_below_drewN | apply below_drew1) | exact HB.out)⟩
                · rw [if_neg c45] at H
                  have c45b0 : decide ((a0.size : Int) < (wrap64 ((a1.size : Int)))) = false := decide_eq_false c45
                  clear c45
                  obtain ⟨ji46, hji46⟩ : ∃ j_ : Int, (wrap64 ((a1.size : Int))) = j_ := ⟨_, rfl⟩
                  replace H : (if 0 ≤ (ji46) then (if (ji46) ≤ (a0.size : Int) then (some ((a0.extract 0 ((ji46) : Int).toNat).toList != a1.toList)) else (none)) else (none)) = some r := by first | (rw [hji46] at H; exact H) | (simp only [hji46] at H ⊢; exact H)
                  (try rw [hji46] at c45b0)
                  have hji46w : (IntKind.i64.wrap ((a1.size : Int))) = ji46 := (i64_w _).trans hji46
                  by_cases c47 : 0 ≤ (ji46)
                  · rw [if_pos c47] at H
                    have c47b0 := eq_true c47
                    have c47b1 : decide (0 ≤ (ji46)) = true := decide_eq_true c47
                    clear c47
                    by_cases c48 : (ji46) ≤ (a0.size : Int)
                    · rw [if_pos c48] at H
                      have c48b0 := eq_true c48
                      have c48b1 : decide ((ji46) ≤ (a0.size : Int)) = true := decide_eq_true c48
                      clear c48
                      obtain rfl := Option.some.inj H
                      go_wp2
                      go_ret
                      exact ⟨by first | rfl | (simp [errW_none, errW_some] <;> rfl) | (simp only [← hji46]; first | rfl | (simp [errW_none, errW_some] <;> rfl)) | (simp [*, errW_none, errW_some] <;> rfl), by repeat (first | (with_reducible first | exact HB.out | apply below_alloc | apply pw_below_drewN | apply below_drew1) | exact HB.out)⟩
                    · rw [if_neg c48] at H
                      exact absurd H (by simp)
                  · rw [if_neg c47] at H
                    exact absurd H (by simp)
  · replace c6 := Bool.eq_false_iff.mpr c6
    subst c6
    have H1 : (some false) = some r := by rw [if_neg (show ¬ (false = true) by decide)] at H; exact H
    clear H
    have H := H1
    clear H1
    obtain rfl := Option.some.inj H
    go_enter Try.func5, Try.ntmps5
    go_wp2_with (first | ((with_reducible refine gate_callee (f := 9) rfl ?_); refine goesL_ (some 12) rfl rfl Try.func9 (by kernel_rfl) rfl #[] rfl (by (try simp only [List.map_toArray, List.map_cons, List.map_nil]); first | done | rfl | (simp only [List.length_drop, List.length_take]; rfl)) ?_; (with_reducible refine (stratumlaw07_awake.calls k lG false _ ?side1 ?side2 A5.out).mono ?_); (case side1 => repeat (first | exact HRG.out | (with_reducible refine Kd.C_alloc ?_ _) | (with_reducible refine Kd.C_drewN ?_ _) | (with_reducible refine Kd.C_drew ?_))); (case side2 => exact HCG.out); rintro e w49 ⟨rfl, hb⟩; refine ⟨_, rfl, ?_⟩; have n0_ := Aside0.mk (below_step (by repeat (first | (with_reducible first | exact HB.out | apply below_alloc | apply pw_below_drewN | apply below_drew1) | exact HB.out)) hb); clear HB; have HB := n0_; clear n0_; (try clear hb); (try clear hb2); (try clear hk); (try clear hi)))
    go_ret
    exact ⟨by first | rfl | (simp [errW_none, errW_some] <;> rfl) | (simp [*, errW_none, errW_some] <;> rfl), by repeat (first | (with_reducible first | exact HB.out | apply below_alloc | apply pw_below_drewN | apply below_drew1) | exact HB.out)⟩

/-! ### stratumlaw07_PartJoins: function 6 -/
mutual
def stratumlaw07_PartJoins.j0 : Nat → ByteArray → ByteArray → ByteArray → ByteArray → Bool → List Int → Option (Bool)
  | 0, _, _, _, _, _, _ => none
  | k + 1, x3, x4, x5, x7, x46, x999 => if x46 = true then (some false) else (if x4.toList = ([] : List UInt8) then (stratumlaw07_PartJoins.j1 k x3 x4 x5 x7 true x999) else (if x3.size + x4.size ≤ 9223372036854775807 then ((part_Index.f (x3 ++ x4) x4 x999).bind fun t176 => (stratumlaw07_PartJoins.j1 k x3 x4 x5 x7 (t176 != (x3.size : Int)) x999)) else (none)))
def stratumlaw07_PartJoins.j1 : Nat → ByteArray → ByteArray → ByteArray → ByteArray → Bool → List Int → Option (Bool)
  | 0, _, _, _, _, _, _ => none
  | k + 1, x3, x4, x5, x7, x58, x999 => if x58 = true then (some true) else ((part_Index.f x7 x4 x999).bind fun t177 => (if t177 = (x3.size : Int) then ((part_Head.f x7 x4 x999).bind fun t178 => (if t178.toList = x3.toList then ((part_Tail.f x7 x4 x999).bind fun t179 => (some (t179.toList == x5.toList))) else (some false))) else (some false)))
end
def stratumlaw07_PartJoins.f (k : Nat) (a0_0 : ByteArray) (a0_1 : ByteArray) (a0_2 : ByteArray) (a0_3 : ByteArray) (lG : List Int) : Option (Bool) := (stratumlaw07_awake.f k lG).bind fun t171 => (if t171 = true then ((part_Join.f a0_0 a0_1 a0_2).bind fun t172 => ((part_Join.f t172 a0_1 a0_3).bind fun t173 => ((part_Join.f a0_2 a0_1 a0_3).bind fun t174 => ((part_Join.f a0_0 a0_1 t174).bind fun t175 => (if t173.toList = t175.toList then (stratumlaw07_PartJoins.j0 k a0_0 a0_1 a0_2 t172 ((t172.size : Int) != (wrap64 ((wrap64 ((a0_0.size : Int) + (a0_1.size : Int))) + (a0_2.size : Int)))) lG) else (stratumlaw07_PartJoins.j0 k a0_0 a0_1 a0_2 t172 true lG)))))) else (some false))
theorem stratumlaw07_PartJoins.mono_l : ∀ k, (∀ y0 y1 y2 y3 y4 y5, LeO (stratumlaw07_PartJoins.j0 k y0 y1 y2 y3 y4 y5) (stratumlaw07_PartJoins.j0 (k + 1) y0 y1 y2 y3 y4 y5)) ∧ (∀ y0 y1 y2 y3 y4 y5, LeO (stratumlaw07_PartJoins.j1 k y0 y1 y2 y3 y4 y5) (stratumlaw07_PartJoins.j1 (k + 1) y0 y1 y2 y3 y4 y5))
  | 0 => ⟨fun _ _ _ _ _ _ r h => by simp [stratumlaw07_PartJoins.j0] at h, fun _ _ _ _ _ _ r h => by simp [stratumlaw07_PartJoins.j1] at h⟩
  | k + 1 => by
    obtain ⟨ih0, ih1⟩ := stratumlaw07_PartJoins.mono_l k
    refine ⟨?_, ?_⟩
    · intro y0 y1 y2 y3 y4 y5
      unfold stratumlaw07_PartJoins.j0
      repeat' first
      | (with_reducible exact ih0 _ _ _ _ _ _)
      | (with_reducible exact ih1 _ _ _ _ _ _)
      | (with_reducible exact stratumlaw07_awake.mono _ _)
      | (with_reducible exact LeO.refl _)
      | (with_reducible exact LeO.none _)
      | (with_reducible refine LeO.ite ?_ ?_)
      | (with_reducible refine LeO.bind ?_ (fun _ => ?_))
      | exact ih0 _ _ _ _ _ _
      | exact ih1 _ _ _ _ _ _
      | exact stratumlaw07_awake.mono _ _
      | exact LeO.none _
      | refine LeO.ite ?_ ?_
      | refine LeO.bind ?_ (fun _ => ?_)
    · intro y0 y1 y2 y3 y4 y5
      unfold stratumlaw07_PartJoins.j1
      repeat' first
      | (with_reducible exact ih0 _ _ _ _ _ _)
      | (with_reducible exact ih1 _ _ _ _ _ _)
      | (with_reducible exact stratumlaw07_awake.mono _ _)
      | (with_reducible exact LeO.refl _)
      | (with_reducible exact LeO.none _)
      | (with_reducible refine LeO.ite ?_ ?_)
      | (with_reducible refine LeO.bind ?_ (fun _ => ?_))
      | exact ih0 _ _ _ _ _ _
      | exact ih1 _ _ _ _ _ _
      | exact stratumlaw07_awake.mono _ _
      | exact LeO.none _
      | refine LeO.ite ?_ ?_
      | refine LeO.bind ?_ (fun _ => ?_)
theorem stratumlaw07_PartJoins.mono : ∀ a0 a1 a2 a3 a4 k, LeO (stratumlaw07_PartJoins.f k a0 a1 a2 a3 a4) (stratumlaw07_PartJoins.f (k + 1) a0 a1 a2 a3 a4) := by
  intro a0 a1 a2 a3 a4 k
  obtain ⟨ih0, ih1⟩ := stratumlaw07_PartJoins.mono_l k
  unfold stratumlaw07_PartJoins.f
  repeat' first
      | (with_reducible exact ih0 _ _ _ _ _ _)
      | (with_reducible exact ih1 _ _ _ _ _ _)
      | (with_reducible exact stratumlaw07_awake.mono _ _)
      | (with_reducible exact LeO.refl _)
      | (with_reducible exact LeO.none _)
      | (with_reducible refine LeO.ite ?_ ?_)
      | (with_reducible refine LeO.bind ?_ (fun _ => ?_))
      | exact ih0 _ _ _ _ _ _
      | exact ih1 _ _ _ _ _ _
      | exact stratumlaw07_awake.mono _ _
      | exact LeO.none _
      | refine LeO.ite ?_ ?_
      | refine LeO.bind ?_ (fun _ => ?_)
set_option maxHeartbeats 8000000 in
set_option maxRecDepth 100000 in
theorem stratumlaw07_PartJoins.calls (k : Nat) (a0_0 : ByteArray) (a0_1 : ByteArray) (a0_2 : ByteArray) (a0_3 : ByteArray) (lG : List Int) (r : Bool) (w : World) (hrG : Kd.C (Kd.int .i64) w (some ⟨0, 0, none⟩) lG.length lG) (hcG : lG.length ≤ 1) (h : stratumlaw07_PartJoins.f k a0_0 a0_1 a0_2 a0_3 lG = some r) :
    Calls Try.prog 6 #[.agg #[.string a0_0, .string a0_1, .string a0_2, .string a0_3]] w fun e w' => e = .returned (.bool r) ∧ Below w.heap.size w w' := by
  have hu36 := Try.underlying36
  have HRG := Aside0.mk hrG
  have HCG := Aside0.mk hcG
  clear hrG hcG
  have HB := Aside0.mk (Below.refl w.heap.size w)
  have H : ((stratumlaw07_awake.f k lG).bind fun t171 => (if t171 = true then ((part_Join.f a0_0 a0_1 a0_2).bind fun t172 => ((part_Join.f t172 a0_1 a0_3).bind fun t173 => ((part_Join.f a0_2 a0_1 a0_3).bind fun t174 => ((part_Join.f a0_0 a0_1 t174).bind fun t175 => (if t173.toList = t175.toList then (stratumlaw07_PartJoins.j0 k a0_0 a0_1 a0_2 t172 ((t172.size : Int) != (wrap64 ((wrap64 ((a0_0.size : Int) + (a0_1.size : Int))) + (a0_2.size : Int)))) lG) else (stratumlaw07_PartJoins.j0 k a0_0 a0_1 a0_2 t172 true lG)))))) else (some false))) = some r := h
  clear h
  replace H := Option.bind_eq_some_iff.mp H
  obtain ⟨t171, A30, H⟩ := H
  replace H : (if t171 = true then ((part_Join.f a0_0 a0_1 a0_2).bind fun t172 => ((part_Join.f t172 a0_1 a0_3).bind fun t173 => ((part_Join.f a0_2 a0_1 a0_3).bind fun t174 => ((part_Join.f a0_0 a0_1 t174).bind fun t175 => (if t173.toList = t175.toList then (stratumlaw07_PartJoins.j0 k a0_0 a0_1 a0_2 t172 ((t172.size : Int) != (wrap64 ((wrap64 ((a0_0.size : Int) + (a0_1.size : Int))) + (a0_2.size : Int)))) lG) else (stratumlaw07_PartJoins.j0 k a0_0 a0_1 a0_2 t172 true lG)))))) else (some false)) = some r := H
  have A3 := Aside0.mk A30
  clear A30
  by_cases c4 : t171 = true
  · subst c4
    have H1 : ((part_Join.f a0_0 a0_1 a0_2).bind fun t172 => ((part_Join.f t172 a0_1 a0_3).bind fun t173 => ((part_Join.f a0_2 a0_1 a0_3).bind fun t174 => ((part_Join.f a0_0 a0_1 t174).bind fun t175 => (if t173.toList = t175.toList then (stratumlaw07_PartJoins.j0 k a0_0 a0_1 a0_2 t172 ((t172.size : Int) != (wrap64 ((wrap64 ((a0_0.size : Int) + (a0_1.size : Int))) + (a0_2.size : Int)))) lG) else (stratumlaw07_PartJoins.j0 k a0_0 a0_1 a0_2 t172 true lG)))))) = some r := by rw [if_pos rfl] at H; exact H
    clear H
    have H := H1
    clear H1
    replace H := Option.bind_eq_some_iff.mp H
    obtain ⟨t172, A50, H⟩ := H
    replace H : ((part_Join.f t172 a0_1 a0_3).bind fun t173 => ((part_Join.f a0_2 a0_1 a0_3).bind fun t174 => ((part_Join.f a0_0 a0_1 t174).bind fun t175 => (if t173.toList = t175.toList then (stratumlaw07_PartJoins.j0 k a0_0 a0_1 a0_2 t172 ((t172.size : Int) != (wrap64 ((wrap64 ((a0_0.size : Int) + (a0_1.size : Int))) + (a0_2.size : Int)))) lG) else (stratumlaw07_PartJoins.j0 k a0_0 a0_1 a0_2 t172 true lG))))) = some r := H
    have A5 := Aside0.mk A50
    clear A50
    have HC6 := Aside0.mk H
    clear H
    go_enter Try.func6, Try.ntmps6
    go_upto_region 8 with (first | ((with_reducible refine gate_dst (N := 1) rfl ?_); (try (refine gate_guard (by rfl) ?_; dsimp only)); refine box_event ?hg (N := 1) ?hd (cs := #[.string a0_0, .string a0_1, .string a0_2, .string a0_3]) (t := 36) ?hr ?_; (case hd => rfl); (case hg => rfl); (case hr => first | (go_simp; done) | (go_simp; rfl)); intro gb170 hg w7 hbox hb; have n0_ := Aside0.mk (below_step (by repeat (first | (with_reducible first | exact HB.out | apply below_alloc | apply pw_below_drewN | apply below_drew1) | exact HB.out)) hb); have n1_ := Aside0.mk (hbox); have n2_ := Aside0.mk ((by rw [hg]; exact (below_size (by repeat (first | (with_reducible first | exact HB.out | apply below_alloc | apply pw_below_drewN | apply below_drew1) | exact HB.out))) : w.heap.size ≤ gb170)); have n3_ := Aside0.mk ((by rw [hg]; exact (below_size (by repeat (first | (with_reducible first | exact HB.out | apply below_alloc | apply pw_below_drewN | apply below_drew1) | exact HB.out))) : w.heap.size ≤ gb170)); clear HB; have HB := n0_; have BK170 := n1_; have GW170 := n2_; have GE170 := n3_; clear n0_ n1_ n2_ n3_; clear hb hbox hg) | ((with_reducible refine gate_callee (f := 9) rfl ?_); refine goesL_ (some 8) rfl rfl Try.func9 (by kernel_rfl) rfl #[] rfl (by (try simp only [List.map_toArray, List.map_cons, List.map_nil]); first | done | rfl | (simp only [List.length_drop, List.length_take]; rfl)) ?_; (with_reducible refine (stratumlaw07_awake.calls k lG true _ ?side1 ?side2 A3.out).mono ?_); (case side1 => repeat (first | exact (Kd.C_below HRG.out HB.out) | (with_reducible refine Kd.C_alloc ?_ _) | (with_reducible refine Kd.C_drewN ?_ _) | (with_reducible refine Kd.C_drew ?_))); (case side2 => exact HCG.out); rintro e w8 ⟨rfl, hb⟩; refine ⟨_, rfl, ?_⟩; have n0_ := Aside0.mk (blk_below (g := gb170) (o := .cells #[.string a0_0, .string a0_1, .string a0_2, .string a0_3] 36 (0, 0)) (by (with_reducible repeat (first | refine blk_drewN ?_ _ | refine blk_drew ?_ | refine blk_alloc ?_ _)); exact BK170.out) hb); have n1_ := Aside0.mk (below_step (by repeat (first | (with_reducible first | exact HB.out | apply below_alloc | apply pw_below_drewN | apply below_drew1 | refine below_set ?_ GE170.out) | exact HB.out)) hb); clear BK170; clear HB; have BK170 := n0_; have HB := n1_; clear n0_ n1_; (try clear hb); (try clear hb2); (try clear hk); (try clear hi); have hcz9_0 : w8.cell? ⟨gb170, 0, none⟩ = some (.string a0_0) := (blk_cell BK170.out 0).trans rfl; have hcz9_1 : w8.cell? ⟨gb170, 1, none⟩ = some (.string a0_1) := (blk_cell BK170.out 1).trans rfl; have hcz9_2 : w8.cell? ⟨gb170, 2, none⟩ = some (.string a0_2) := (blk_cell BK170.out 2).trans rfl; have hcz9_3 : w8.cell? ⟨gb170, 3, none⟩ = some (.string a0_3) := (blk_cell BK170.out 3).trans rfl; have hfz9_0 := blk_frozen BK170.out 0; have hfz9_1 := blk_frozen BK170.out 1; have hfz9_2 := blk_frozen BK170.out 2; have hfz9_3 := blk_frozen BK170.out 3) | ((with_reducible refine gate_callee (f := 16) rfl ?_); refine goesL_ (some 21) rfl rfl Try.func16 (by kernel_rfl) rfl #[.string a0_0, .string a0_1, .string a0_2] rfl (by (try simp only [List.map_toArray, List.map_cons, List.map_nil]); first | done | rfl | (simp only [List.length_drop, List.length_take]; rfl)) ?_; (with_reducible refine (part_Join.calls a0_0 a0_1 a0_2 t172 _ A5.out).mono ?_); rintro e w10 ⟨rfl, hb⟩; refine ⟨_, rfl, ?_⟩; have n0_ := Aside0.mk (blk_below (g := gb170) (o := .cells #[.string a0_0, .string a0_1, .string a0_2, .string a0_3] 36 (0, 0)) (by (with_reducible repeat (first | refine blk_drewN ?_ _ | refine blk_drew ?_ | refine blk_alloc ?_ _)); exact BK170.out) hb); have n1_ := Aside0.mk (below_step (by repeat (first | (with_reducible first | exact HB.out | apply below_alloc | apply pw_below_drewN | apply below_drew1 | refine below_set ?_ GE170.out) | exact HB.out)) hb); clear BK170; clear HB; have BK170 := n0_; have HB := n1_; clear n0_ n1_; (try clear hb); (try clear hb2); (try clear hk); (try clear hi)))
    (try simp only [Act.put, List.setIfInBounds_toArray, List.set_cons_zero, List.set_cons_succ])
    go_cut [46] (fun v46 wc => ∃ (kq : Nat) (x46_5 : Bool), v46 = .bool x46_5 ∧ Aside0 (stratumlaw07_PartJoins.j0 kq a0_0 a0_1 a0_2 t172 x46_5 lG = some r) ∧ Aside0 (kq ≤ k) ∧ Aside0 (wc.heap[gb170]? = some (.cells #[.string a0_0, .string a0_1, .string a0_2, .string a0_3] 36 (0, 0))) ∧ Aside0 (Below w.heap.size w wc))
    case first =>
      have H := HC6.out
      clear HC6
      replace H := Option.bind_eq_some_iff.mp H
      obtain ⟨t173, A110, H⟩ := H
      replace H : ((part_Join.f a0_2 a0_1 a0_3).bind fun t174 => ((part_Join.f a0_0 a0_1 t174).bind fun t175 => (if t173.toList = t175.toList then (stratumlaw07_PartJoins.j0 k a0_0 a0_1 a0_2 t172 ((t172.size : Int) != (wrap64 ((wrap64 ((a0_0.size : Int) + (a0_1.size : Int))) + (a0_2.size : Int)))) lG) else (stratumlaw07_PartJoins.j0 k a0_0 a0_1 a0_2 t172 true lG)))) = some r := H
      have A11 := Aside0.mk A110
      clear A110
      replace H := Option.bind_eq_some_iff.mp H
      obtain ⟨t174, A120, H⟩ := H
      replace H : ((part_Join.f a0_0 a0_1 t174).bind fun t175 => (if t173.toList = t175.toList then (stratumlaw07_PartJoins.j0 k a0_0 a0_1 a0_2 t172 ((t172.size : Int) != (wrap64 ((wrap64 ((a0_0.size : Int) + (a0_1.size : Int))) + (a0_2.size : Int)))) lG) else (stratumlaw07_PartJoins.j0 k a0_0 a0_1 a0_2 t172 true lG))) = some r := H
      have A12 := Aside0.mk A120
      clear A120
      replace H := Option.bind_eq_some_iff.mp H
      obtain ⟨t175, A130, H⟩ := H
      replace H : (if t173.toList = t175.toList then (stratumlaw07_PartJoins.j0 k a0_0 a0_1 a0_2 t172 ((t172.size : Int) != (wrap64 ((wrap64 ((a0_0.size : Int) + (a0_1.size : Int))) + (a0_2.size : Int)))) lG) else (stratumlaw07_PartJoins.j0 k a0_0 a0_1 a0_2 t172 true lG)) = some r := H
      have A13 := Aside0.mk A130
      clear A130
      by_cases c14 : t173.toList = t175.toList
      · rw [if_pos c14] at H
        have c14b0 : (t173.toList == t175.toList) = true := beq_iff_eq.mpr c14
        have c14b1 : (t173.toList != t175.toList) = false := bne_eq_false_iff_eq.mpr c14
        clear c14
        (first | rw [c14b0] | (simp only [i64_w, i32_w]; rw [c14b0]) | skip)
        have H' := Aside0.mk H
        clear H
        go_wp2_with (first | ((with_reducible refine gate_callee (f := 16) rfl ?_); refine goesL_ (some 25) rfl rfl Try.func16 (by kernel_rfl) rfl #[.string t172, .string a0_1, .string a0_3] rfl (by (try simp only [List.map_toArray, List.map_cons, List.map_nil]); first | done | rfl | (simp only [List.length_drop, List.length_take]; rfl)) ?_; (with_reducible refine (part_Join.calls t172 a0_1 a0_3 t173 _ A11.out).mono ?_); rintro e w15 ⟨rfl, hb⟩; refine ⟨_, rfl, ?_⟩; have n0_ := Aside0.mk (blk_below (g := gb170) (o := .cells #[.string a0_0, .string a0_1, .string a0_2, .string a0_3] 36 (0, 0)) (by (with_reducible repeat (first | refine blk_drewN ?_ _ | refine blk_drew ?_ | refine blk_alloc ?_ _)); exact BK170.out) hb); have n1_ := Aside0.mk (below_step (by repeat (first | (with_reducible first | exact HB.out | apply below_alloc | apply pw_below_drewN | apply below_drew1 | refine below_set ?_ GE170.out) | exact HB.out)) hb); clear BK170; clear HB; have BK170 := n0_; have HB := n1_; clear n0_ n1_; (try clear hb); (try clear hb2); (try clear hk); (try clear hi)) | ((with_reducible refine gate_callee (f := 16) rfl ?_); refine goesL_ (some 31) rfl rfl Try.func16 (by kernel_rfl) rfl #[.string a0_2, .string a0_1, .string a0_3] rfl (by (try simp only [List.map_toArray, List.map_cons, List.map_nil]); first | done | rfl | (simp only [List.length_drop, List.length_take]; rfl)) ?_; (with_reducible refine (part_Join.calls a0_2 a0_1 a0_3 t174 _ A12.out).mono ?_); rintro e w16 ⟨rfl, hb⟩; refine ⟨_, rfl, ?_⟩; have n0_ := Aside0.mk (blk_below (g := gb170) (o := .cells #[.string a0_0, .string a0_1, .string a0_2, .string a0_3] 36 (0, 0)) (by (with_reducible repeat (first | refine blk_drewN ?_ _ | refine blk_drew ?_ | refine blk_alloc ?_ _)); exact BK170.out) hb); have n1_ := Aside0.mk (below_step (by repeat (first | (with_reducible first | exact HB.out | apply below_alloc | apply pw_below_drewN | apply below_drew1 | refine below_set ?_ GE170.out) | exact HB.out)) hb); clear BK170; clear HB; have BK170 := n0_; have HB := n1_; clear n0_ n1_; (try clear hb); (try clear hb2); (try clear hk); (try clear hi)) | ((with_reducible refine gate_callee (f := 16) rfl ?_); refine goesL_ (some 32) rfl rfl Try.func16 (by kernel_rfl) rfl #[.string a0_0, .string a0_1, .string t174] rfl (by (try simp only [List.map_toArray, List.map_cons, List.map_nil]); first | done | rfl | (simp only [List.length_drop, List.length_take]; rfl)) ?_; (with_reducible refine (part_Join.calls a0_0 a0_1 t174 t175 _ A13.out).mono ?_); rintro e w17 ⟨rfl, hb⟩; refine ⟨_, rfl, ?_⟩; have n0_ := Aside0.mk (blk_below (g := gb170) (o := .cells #[.string a0_0, .string a0_1, .string a0_2, .string a0_3] 36 (0, 0)) (by (with_reducible repeat (first | refine blk_drewN ?_ _ | refine blk_drew ?_ | refine blk_alloc ?_ _)); exact BK170.out) hb); have n1_ := Aside0.mk (below_step (by repeat (first | (with_reducible first | exact HB.out | apply below_alloc | apply pw_below_drewN | apply below_drew1 | refine below_set ?_ GE170.out) | exact HB.out)) hb); clear BK170; clear HB; have BK170 := n0_; have HB := n1_; clear n0_ n1_; (try clear hb); (try clear hb2); (try clear hk); (try clear hi)))
        go_meet
        case rel => exact ⟨_, (((t172.size : Int) != (wrap64 ((wrap64 ((a0_0.size : Int) + (a0_1.size : Int))) + (a0_2.size : Int))))), (by first | rfl | (simp; done) | (simp [*]; done)), H', ⟨by first | omega | exact Nat.le_refl _⟩, ⟨by (with_reducible repeat (first | refine blk_drewN ?_ _ | refine blk_drew ?_ | refine blk_alloc ?_ _)); exact BK170.out⟩, ⟨by repeat (first | (with_reducible first | exact HB.out | apply below_alloc | apply pw_below_drewN | apply below_drew1 | refine below_set ?_ GE170.out) | exact HB.out)⟩⟩
      · rw [if_neg c14] at H
        have c14b0 : (t173.toList == t175.toList) = false := beq_eq_false_iff_ne.mpr c14
        have c14b1 : (t173.toList != t175.toList) = true := bne_iff_ne.mpr c14
        (first | rw [c14b0] | (simp only [i64_w, i32_w]; rw [c14b0]) | skip)
        have H' := Aside0.mk H
        clear H
        go_wp2_with (first | ((with_reducible refine gate_callee (f := 16) rfl ?_); refine goesL_ (some 25) rfl rfl Try.func16 (by kernel_rfl) rfl #[.string t172, .string a0_1, .string a0_3] rfl (by (try simp only [List.map_toArray, List.map_cons, List.map_nil]); first | done | rfl | (simp only [List.length_drop, List.length_take]; rfl)) ?_; (with_reducible refine (part_Join.calls t172 a0_1 a0_3 t173 _ A11.out).mono ?_); rintro e w18 ⟨rfl, hb⟩; refine ⟨_, rfl, ?_⟩; have n0_ := Aside0.mk (blk_below (g := gb170) (o := .cells #[.string a0_0, .string a0_1, .string a0_2, .string a0_3] 36 (0, 0)) (by (with_reducible repeat (first | refine blk_drewN ?_ _ | refine blk_drew ?_ | refine blk_alloc ?_ _)); exact BK170.out) hb); have n1_ := Aside0.mk (below_step (by repeat (first | (with_reducible first | exact HB.out | apply below_alloc | apply pw_below_drewN | apply below_drew1 | refine below_set ?_ GE170.out) | exact HB.out)) hb); clear BK170; clear HB; have BK170 := n0_; have HB := n1_; clear n0_ n1_; (try clear hb); (try clear hb2); (try clear hk); (try clear hi)) | ((with_reducible refine gate_callee (f := 16) rfl ?_); refine goesL_ (some 31) rfl rfl Try.func16 (by kernel_rfl) rfl #[.string a0_2, .string a0_1, .string a0_3] rfl (by (try simp only [List.map_toArray, List.map_cons, List.map_nil]); first | done | rfl | (simp only [List.length_drop, List.length_take]; rfl)) ?_; (with_reducible refine (part_Join.calls a0_2 a0_1 a0_3 t174 _ A12.out).mono ?_); rintro e w19 ⟨rfl, hb⟩; refine ⟨_, rfl, ?_⟩; have n0_ := Aside0.mk (blk_below (g := gb170) (o := .cells #[.string a0_0, .string a0_1, .string a0_2, .string a0_3] 36 (0, 0)) (by (with_reducible repeat (first | refine blk_drewN ?_ _ | refine blk_drew ?_ | refine blk_alloc ?_ _)); exact BK170.out) hb); have n1_ := Aside0.mk (below_step (by repeat (first | (with_reducible first | exact HB.out | apply below_alloc | apply pw_below_drewN | apply below_drew1 | refine below_set ?_ GE170.out) | exact HB.out)) hb); clear BK170; clear HB; have BK170 := n0_; have HB := n1_; clear n0_ n1_; (try clear hb); (try clear hb2); (try clear hk); (try clear hi)) | ((with_reducible refine gate_callee (f := 16) rfl ?_); refine goesL_ (some 32) rfl rfl Try.func16 (by kernel_rfl) rfl #[.string a0_0, .string a0_1, .string t174] rfl (by (try simp only [List.map_toArray, List.map_cons, List.map_nil]); first | done | rfl | (simp only [List.length_drop, List.length_take]; rfl)) ?_; (with_reducible refine (part_Join.calls a0_0 a0_1 t174 t175 _ A13.out).mono ?_); rintro e w20 ⟨rfl, hb⟩; refine ⟨_, rfl, ?_⟩; have n0_ := Aside0.mk (blk_below (g := gb170) (o := .cells #[.string a0_0, .string a0_1, .string a0_2, .string a0_3] 36 (0, 0)) (by (with_reducible repeat (first | refine blk_drewN ?_ _ | refine blk_drew ?_ | refine blk_alloc ?_ _)); exact BK170.out) hb); have n1_ := Aside0.mk (below_step (by repeat (first | (with_reducible first | exact HB.out | apply below_alloc | apply pw_below_drewN | apply below_drew1 | refine below_set ?_ GE170.out) | exact HB.out)) hb); clear BK170; clear HB; have BK170 := n0_; have HB := n1_; clear n0_ n1_; (try clear hb); (try clear hb2); (try clear hk); (try clear hi)))
        go_meet
        case rel => exact ⟨_, (true), (by first | rfl | (simp; done) | (simp [*]; done)), H', ⟨by first | omega | exact Nat.le_refl _⟩, ⟨by (with_reducible repeat (first | refine blk_drewN ?_ _ | refine blk_drew ?_ | refine blk_alloc ?_ _)); exact BK170.out⟩, ⟨by repeat (first | (with_reducible first | exact HB.out | apply below_alloc | apply pw_below_drewN | apply below_drew1 | refine below_set ?_ GE170.out) | exact HB.out)⟩⟩
    case rest =>
      clear HC6
      try clear c1
      try clear p2
      try clear c4
      try clear c6
      try clear p6
      try clear c9
      try clear c14
      try clear c14b0
      try clear c14b1
      try clear c16
      try clear hcz9_0
      try clear hcz9_1
      try clear hcz9_2
      try clear hcz9_3
      try clear hfz9_0
      try clear hfz9_1
      try clear hfz9_2
      try clear hfz9_3
      obtain ⟨kq, x46_5, rfl, HA, HJ5, BK170, HB⟩ := hcut
      cases kq with
      | zero => exact absurd HA.out (by simp [stratumlaw07_PartJoins.j0])
      | succ kj5 =>
        have H := HA.out
        clear HA
        simp only [stratumlaw07_PartJoins.j0] at H
        by_cases c21 : x46_5 = true
        · subst c21
          have H1 : (some false) = some r := by rw [if_pos rfl] at H; exact H
          clear H
          have H := H1
          clear H1
          obtain rfl := Option.some.inj H
          go_wp2
          go_ret
          exact ⟨by first | rfl | (simp [errW_none, errW_some] <;> rfl) | (simp [*, errW_none, errW_some] <;> rfl), by repeat (first | (with_reducible first | exact HB.out | apply below_alloc | apply pw_below_drewN | apply below_drew1 | refine below_set ?_ GE170.out) | exact HB.out)⟩
        · replace c21 := Bool.eq_false_iff.mpr c21
          subst c21
          have H1 : (if a0_1.toList = ([] : List UInt8) then (stratumlaw07_PartJoins.j1 kj5 a0_0 a0_1 a0_2 t172 true lG) else (if a0_0.size + a0_1.size ≤ 9223372036854775807 then ((part_Index.f (a0_0 ++ a0_1) a0_1 lG).bind fun t176 => (stratumlaw07_PartJoins.j1 kj5 a0_0 a0_1 a0_2 t172 (t176 != (a0_0.size : Int)) lG)) else (none))) = some r := by rw [if_neg (show ¬ (false = true) by decide)] at H; exact H
          clear H
          have H := H1
          clear H1
          have HC22 := Aside0.mk H
          clear H
          go_upto_region 10 with (fail)
          go_cut [58] (fun v58 wc => ∃ (kq : Nat) (x58_21 : Bool), v58 = .bool x58_21 ∧ Aside0 (stratumlaw07_PartJoins.j1 kq a0_0 a0_1 a0_2 t172 x58_21 lG = some r) ∧ Aside0 (kq ≤ kj5) ∧ Aside0 (wc.heap[gb170]? = some (.cells #[.string a0_0, .string a0_1, .string a0_2, .string a0_3] 36 (0, 0))) ∧ Aside0 (Below w.heap.size w wc))
          case first =>
            have H := HC22.out
            clear HC22
            by_cases c23 : a0_1.toList = ([] : List UInt8)
            · rw [if_pos c23] at H
              have c23b0 : (a0_1.toList == ([] : List UInt8)) = true := beq_iff_eq.mpr c23
              have c23b1 : (a0_1.toList != ([] : List UInt8)) = false := bne_eq_false_iff_eq.mpr c23
              clear c23
              (first | rw [c23b0] | (simp only [i64_w, i32_w]; rw [c23b0]) | skip)
              have H' := Aside0.mk H
              clear H
              go_wp2
              go_meet
              case rel => exact ⟨_, (true), (by first | rfl | (simp; done) | (simp [*]; done)), H', ⟨by have := HJ5.out; first | omega | exact Nat.le_refl _⟩, ⟨by (with_reducible repeat (first | refine blk_drewN ?_ _ | refine blk_drew ?_ | refine blk_alloc ?_ _)); exact BK170.out⟩, ⟨by repeat (first | (with_reducible first | exact HB.out | apply below_alloc | apply pw_below_drewN | apply below_drew1 | refine below_set ?_ GE170.out) | exact HB.out)⟩⟩
            · rw [if_neg c23] at H
              have c23b0 : (a0_1.toList == ([] : List UInt8)) = false := beq_eq_false_iff_ne.mpr c23
              have c23b1 : (a0_1.toList != ([] : List UInt8)) = true := bne_iff_ne.mpr c23
              (first | rw [c23b0] | (simp only [i64_w, i32_w]; rw [c23b0]) | skip)
              by_cases c24 : a0_0.size + a0_1.size ≤ 9223372036854775807
              · rw [if_pos c24] at H
                have c24b0 := eq_true c24
                have c24b1 : decide (a0_0.size + a0_1.size ≤ 9223372036854775807) = true := decide_eq_true c24
                try have c24b2 : (9223372036854775807 < a0_0.size + a0_1.size) = False := eq_false (Nat.not_lt.2 c24)
                replace H := Option.bind_eq_some_iff.mp H
                obtain ⟨t176, A250, H⟩ := H
                replace H : (stratumlaw07_PartJoins.j1 kj5 a0_0 a0_1 a0_2 t172 (t176 != (a0_0.size : Int)) lG) = some r := H
                have A25 := Aside0.mk A250
                clear A250
                have H' := Aside0.mk H
                clear H
                go_wp2_with (first | (go_at_call 10; (with_reducible refine (part_Index.calls (a0_0 ++ a0_1) a0_1 lG t176 _ ?side1 ?side2 A25.out).mono ?_); (case side1 => repeat (first | exact (Kd.C_below HRG.out HB.out) | (with_reducible refine Kd.C_alloc ?_ _) | (with_reducible refine Kd.C_drewN ?_ _) | (with_reducible refine Kd.C_drew ?_))); (case side2 => exact HCG.out); rintro e w' ⟨rfl, ⟨nd, rfl⟩⟩))
                go_meet
                case rel => exact ⟨_, ((t176 != (a0_0.size : Int))), (by first | rfl | (simp; done) | (simp [*]; done)), H', ⟨by have := HJ5.out; first | omega | exact Nat.le_refl _⟩, ⟨by (with_reducible repeat (first | refine blk_drewN ?_ _ | refine blk_drew ?_ | refine blk_alloc ?_ _)); exact BK170.out⟩, ⟨by repeat (first | (with_reducible first | exact HB.out | apply below_alloc | apply pw_below_drewN | apply below_drew1 | refine below_set ?_ GE170.out) | exact HB.out)⟩⟩
              · rw [if_neg c24] at H
                exact absurd H (by simp)
          case rest =>
            clear HC22
            try clear c1
            try clear c2
            try clear p2
            try clear c4
            try clear c6
            try clear p6
            try clear c9
            try clear c14
            try clear c14b0
            try clear c14b1
            try clear c16
            try clear c21
            try clear c23
            try clear c23b0
            try clear c23b1
            try clear c24
            try clear c24b0
            try clear c24b1
            try clear c24b2
            try clear hcz9_0
            try clear hcz9_1
            try clear hcz9_2
            try clear hcz9_3
            try clear hfz9_0
            try clear hfz9_1
            try clear hfz9_2
            try clear hfz9_3
            try clear p2
            try clear p6
            obtain ⟨kq, x58_21, rfl, HA, HJ21, BK170, HB⟩ := hcut
            cases kq with
            | zero => exact absurd HA.out (by simp [stratumlaw07_PartJoins.j1])
            | succ kj21 =>
              have H := HA.out
              clear HA
              simp only [stratumlaw07_PartJoins.j1] at H
              by_cases c26 : x58_21 = true
              · subst c26
                have H1 : (some true) = some r := by rw [if_pos rfl] at H; exact H
                clear H
                have H := H1
                clear H1
                obtain rfl := Option.some.inj H
                go_wp2
                go_ret
                exact ⟨by first | rfl | (simp [errW_none, errW_some] <;> rfl) | (simp [*, errW_none, errW_some] <;> rfl), by repeat (first | (with_reducible first | exact HB.out | apply below_alloc | apply pw_below_drewN | apply below_drew1 | refine below_set ?_ GE170.out) | exact HB.out)⟩
              · replace c26 := Bool.eq_false_iff.mpr c26
                subst c26
                have H1 : ((part_Index.f t172 a0_1 lG).bind fun t177 => (if t177 = (a0_0.size : Int) then ((part_Head.f t172 a0_1 lG).bind fun t178 => (if t178.toList = a0_0.toList then ((part_Tail.f t172 a0_1 lG).bind fun t179 => (some (t179.toList == a0_2.toList))) else (some false))) else (some false))) = some r := by rw [if_neg (show ¬ (false = true) by decide)] at H; exact H
                clear H
                have H := H1
                clear H1
                replace H := Option.bind_eq_some_iff.mp H
                obtain ⟨t177, A270, H⟩ := H
                replace H : (if t177 = (a0_0.size : Int) then ((part_Head.f t172 a0_1 lG).bind fun t178 => (if t178.toList = a0_0.toList then ((part_Tail.f t172 a0_1 lG).bind fun t179 => (some (t179.toList == a0_2.toList))) else (some false))) else (some false)) = some r := H
                have A27 := Aside0.mk A270
                clear A270
                by_cases c28 : t177 = (a0_0.size : Int)
                · rw [if_pos c28] at H
                  have c28b0 : (t177 == (a0_0.size : Int)) = true := beq_iff_eq.mpr c28
                  have c28b1 : (t177 != (a0_0.size : Int)) = false := bne_eq_false_iff_eq.mpr c28
                  clear c28
                  replace H := Option.bind_eq_some_iff.mp H
                  obtain ⟨t178, A290, H⟩ := H
                  replace H : (if t178.toList = a0_0.toList then ((part_Tail.f t172 a0_1 lG).bind fun t179 => (some (t179.toList == a0_2.toList))) else (some false)) = some r := H
                  have A29 := Aside0.mk A290
                  clear A290
                  by_cases c30 : t178.toList = a0_0.toList
                  · rw [if_pos c30] at H
                    have c30b0 : (t178.toList == a0_0.toList) = true := beq_iff_eq.mpr c30
                    have c30b1 : (t178.toList != a0_0.toList) = false := bne_eq_false_iff_eq.mpr c30
                    clear c30
                    replace H := Option.bind_eq_some_iff.mp H
                    obtain ⟨t179, A310, H⟩ := H
                    replace H : (some (t179.toList == a0_2.toList)) = some r := H
                    have A31 := Aside0.mk A310
                    clear A310
                    obtain rfl := Option.some.inj H
                    go_wp2_with (first | ((with_reducible refine gate_callee (f := 10) rfl ?_); refine goesL_ (some 61) rfl rfl Try.func10 (by kernel_rfl) rfl #[.string t172, .string a0_1] rfl (by (try simp only [List.map_toArray, List.map_cons, List.map_nil]); first | done | rfl | (simp only [List.length_drop, List.length_take]; rfl)) ?_; (with_reducible refine (part_Index.calls t172 a0_1 lG t177 _ ?side1 ?side2 A27.out).mono ?_); (case side1 => repeat (first | exact (Kd.C_below HRG.out HB.out) | (with_reducible refine Kd.C_alloc ?_ _) | (with_reducible refine Kd.C_drewN ?_ _) | (with_reducible refine Kd.C_drew ?_))); (case side2 => exact HCG.out); rintro e w' ⟨rfl, ⟨nd, rfl⟩⟩; refine ⟨_, rfl, ?_⟩) | (go_at_call 12; (with_reducible refine (part_Head.calls t172 a0_1 lG t178 _ ?side1 ?side2 A29.out).mono ?_); (case side1 => repeat (first | exact (Kd.C_below HRG.out (by repeat (first | (with_reducible first | exact HB.out | apply below_alloc | apply pw_below_drewN | apply below_drew1 | refine below_set ?_ GE170.out) | exact HB.out))) | (with_reducible refine Kd.C_alloc ?_ _) | (with_reducible refine Kd.C_drewN ?_ _) | (with_reducible refine Kd.C_drew ?_))); (case side2 => exact HCG.out); rintro e w' ⟨rfl, ⟨nd, rfl⟩⟩) | (go_at_call 14; (with_reducible refine (part_Tail.calls t172 a0_1 lG t179 _ ?side1 ?side2 A31.out).mono ?_); (case side1 => repeat (first | exact (Kd.C_below HRG.out (by repeat (first | (with_reducible first | exact HB.out | apply below_alloc | apply pw_below_drewN | apply below_drew1 | refine below_set ?_ GE170.out) | exact HB.out))) | (with_reducible refine Kd.C_alloc ?_ _) | (with_reducible refine Kd.C_drewN ?_ _) | (with_reducible refine Kd.C_drew ?_))); (case side2 => exact HCG.out); rintro e w' ⟨rfl, ⟨nd, rfl⟩⟩))
                    go_ret
                    exact ⟨by first | rfl | (simp [errW_none, errW_some] <;> rfl) | (simp [*, errW_none, errW_some] <;> rfl), by repeat (first | (with_reducible first | exact HB.out | apply below_alloc | apply pw_below_drewN | apply below_drew1 | refine below_set ?_ GE170.out) | exact HB.out)⟩
                  · rw [if_neg c30] at H
                    have c30b0 : (t178.toList == a0_0.toList) = false := beq_eq_false_iff_ne.mpr c30
                    have c30b1 : (t178.toList != a0_0.toList) = true := bne_iff_ne.mpr c30
                    obtain rfl := Option.some.inj H
                    go_wp2_with (first | ((with_reducible refine gate_callee (f := 10) rfl ?_); refine goesL_ (some 61) rfl rfl Try.func10 (by kernel_rfl) rfl #[.string t172, .string a0_1] rfl (by (try simp only [List.map_toArray, List.map_cons, List.map_nil]); first | done | rfl | (simp only [List.length_drop, List.length_take]; rfl)) ?_; (with_reducible refine (part_Index.calls t172 a0_1 lG t177 _ ?side1 ?side2 A27.out).mono ?_); (case side1 => repeat (first | exact (Kd.C_below HRG.out HB.out) | (with_reducible refine Kd.C_alloc ?_ _) | (with_reducible refine Kd.C_drewN ?_ _) | (with_reducible refine Kd.C_drew ?_))); (case side2 => exact HCG.out); rintro e w' ⟨rfl, ⟨nd, rfl⟩⟩; refine ⟨_, rfl, ?_⟩) | (go_at_call 12; (with_reducible refine (part_Head.calls t172 a0_1 lG t178 _ ?side1 ?side2 A29.out).mono ?_); (case side1 => repeat (first | exact (Kd.C_below HRG.out (by repeat (first | (with_reducible first | exact HB.out | apply below_alloc | apply pw_below_drewN | apply below_drew1 | refine below_set ?_ GE170.out) | exact HB.out))) | (with_reducible refine Kd.C_alloc ?_ _) | (with_reducible refine Kd.C_drewN ?_ _) | (with_reducible refine Kd.C_drew ?_))); (case side2 => exact HCG.out); rintro e w' ⟨rfl, ⟨nd, rfl⟩⟩))
                    go_ret
                    exact ⟨by first | rfl | (simp [errW_none, errW_some] <;> rfl) | (simp [*, errW_none, errW_some] <;> rfl), by repeat (first | (with_reducible first | exact HB.out | apply below_alloc | apply pw_below_drewN | apply below_drew1 | refine below_set ?_ GE170.out) | exact HB.out)⟩
                · rw [if_neg c28] at H
                  have c28b0 : (t177 == (a0_0.size : Int)) = false := beq_eq_false_iff_ne.mpr c28
                  have c28b1 : (t177 != (a0_0.size : Int)) = true := bne_iff_ne.mpr c28
                  obtain rfl := Option.some.inj H
                  go_wp2_with (first | ((with_reducible refine gate_callee (f := 10) rfl ?_); refine goesL_ (some 61) rfl rfl Try.func10 (by kernel_rfl) rfl #[.string t172, .string a0_1] rfl (by (try simp only [List.map_toArray, List.map_cons, List.map_nil]); first | done | rfl | (simp only [List.length_drop, List.length_take]; rfl)) ?_; (with_reducible refine (part_Index.calls t172 a0_1 lG t177 _ ?side1 ?side2 A27.out).mono ?_); (case side1 => repeat (first | exact (Kd.C_below HRG.out HB.out) | (with_reducible refine Kd.C_alloc ?_ _) | (with_reducible refine Kd.C_drewN ?_ _) | (with_reducible refine Kd.C_drew ?_))); (case side2 => exact HCG.out); rintro e w' ⟨rfl, ⟨nd, rfl⟩⟩; refine ⟨_, rfl, ?_⟩))
                  go_ret
                  exact ⟨by first | rfl | (simp [errW_none, errW_some] <;> rfl) | (simp [*, errW_none, errW_some] <;> rfl), by repeat (first | (with_reducible first | exact HB.out | apply below_alloc | apply pw_below_drewN | apply below_drew1 | refine below_set ?_ GE170.out) | exact HB.out)⟩
  · replace c4 := Bool.eq_false_iff.mpr c4
    subst c4
    have H1 : (some false) = some r := by rw [if_neg (show ¬ (false = true) by decide)] at H; exact H
    clear H
    have H := H1
    clear H1
    obtain rfl := Option.some.inj H
    go_enter Try.func6, Try.ntmps6
    go_wp2_with (first | ((with_reducible refine gate_dst (N := 1) rfl ?_); (try (refine gate_guard (by rfl) ?_; dsimp only)); refine box_event ?hg (N := 1) ?hd (cs := #[.string a0_0, .string a0_1, .string a0_2, .string a0_3]) (t := 36) ?hr ?_; (case hd => rfl); (case hg => rfl); (case hr => first | (go_simp; done) | (go_simp; rfl)); intro gb170 hg w32 hbox hb; have n0_ := Aside0.mk (below_step (by repeat (first | (with_reducible first | exact HB.out | apply below_alloc | apply pw_below_drewN | apply below_drew1) | exact HB.out)) hb); have n1_ := Aside0.mk (hbox); have n2_ := Aside0.mk ((by rw [hg]; exact (below_size (by repeat (first | (with_reducible first | exact HB.out | apply below_alloc | apply pw_below_drewN | apply below_drew1) | exact HB.out))) : w.heap.size ≤ gb170)); have n3_ := Aside0.mk ((by rw [hg]; exact (below_size (by repeat (first | (with_reducible first | exact HB.out | apply below_alloc | apply pw_below_drewN | apply below_drew1) | exact HB.out))) : w.heap.size ≤ gb170)); clear HB; have HB := n0_; have BK170 := n1_; have GW170 := n2_; have GE170 := n3_; clear n0_ n1_ n2_ n3_; clear hb hbox hg) | ((with_reducible refine gate_callee (f := 9) rfl ?_); refine goesL_ (some 8) rfl rfl Try.func9 (by kernel_rfl) rfl #[] rfl (by (try simp only [List.map_toArray, List.map_cons, List.map_nil]); first | done | rfl | (simp only [List.length_drop, List.length_take]; rfl)) ?_; (with_reducible refine (stratumlaw07_awake.calls k lG false _ ?side1 ?side2 A3.out).mono ?_); (case side1 => repeat (first | exact (Kd.C_below HRG.out HB.out) | (with_reducible refine Kd.C_alloc ?_ _) | (with_reducible refine Kd.C_drewN ?_ _) | (with_reducible refine Kd.C_drew ?_))); (case side2 => exact HCG.out); rintro e w33 ⟨rfl, hb⟩; refine ⟨_, rfl, ?_⟩; have n0_ := Aside0.mk (blk_below (g := gb170) (o := .cells #[.string a0_0, .string a0_1, .string a0_2, .string a0_3] 36 (0, 0)) (by (with_reducible repeat (first | refine blk_drewN ?_ _ | refine blk_drew ?_ | refine blk_alloc ?_ _)); exact BK170.out) hb); have n1_ := Aside0.mk (below_step (by repeat (first | (with_reducible first | exact HB.out | apply below_alloc | apply pw_below_drewN | apply below_drew1 | refine below_set ?_ GE170.out) | exact HB.out)) hb); clear BK170; clear HB; have BK170 := n0_; have HB := n1_; clear n0_ n1_; (try clear hb); (try clear hb2); (try clear hk); (try clear hi)))
    go_ret
    exact ⟨by first | rfl | (simp [errW_none, errW_some] <;> rfl) | (simp [*, errW_none, errW_some] <;> rfl), by repeat (first | (with_reducible first | exact HB.out | apply below_alloc | apply pw_below_drewN | apply below_drew1 | refine below_set ?_ GE170.out) | exact HB.out)⟩

end Go.Proofs.Ythgkemkcepkkcaa.X
