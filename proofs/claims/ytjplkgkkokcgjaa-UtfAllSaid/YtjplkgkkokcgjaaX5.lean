/- The machine's side of the laws of this seat: for each Go function a Lean function of lists and numbers, and that the call answers what it answers. No condition but those in the theorems. -/
-- MADE SMALLER
import Derived.Test.YtjplkgkkokcgjaaX0
import Derived.Test.YtjplkgkkokcgjaaX1
import Derived.Test.YtjplkgkkokcgjaaX3
import Derived.Test.YtjplkgkkokcgjaaX4
namespace Go.Proofs.Ytjplkgkkokcgjaa.X
open Go.RowKit Go.Proofs.YtjplkgkkokcgjaaW.PrintWords Go.Proofs.YtjplkgkkokcgjaaW.PrintLast Go.Proofs.YtjplkgkkokcgjaaW.PrintMore
attribute [local go_sem] max2_int min2_int max_two min_two max_three min_three max_four min_four   -- for this text's walks alone
set_option linter.unusedVariables false
set_option linter.unusedSimpArgs false

/-! ### stratumlaw03_UtfAll: function 3 -/
mutual
def stratumlaw03_UtfAll.j0 : Nat → List (S26) → Bool → Bool → Option (Bool)
 | 0, _, _, _ => none
 | k + 1, x0, x3, x15 => if x15 = true then (some true) else (stratumlaw03_UtfAll.l0 k x0 x3 0)
def stratumlaw03_UtfAll.l0 : Nat → List (S26) → Bool → Int → Option (Bool)
 | 0, _, _, _ => none
 | k + 1, x0, x3, x4 => if x4 < (x0.length : Int) then (stratumlaw03_UtfAll.j2 k x0 x3 x4 x3) else (stratumlaw03_UtfAll.j2 k x0 x3 x4 false)
def stratumlaw03_UtfAll.j2 : Nat → List (S26) → Bool → Int → Bool → Option (Bool)
 | 0, _, _, _, _ => none
 | k + 1, x0, x3, x4, x22 => if x22 = true then (if 0 ≤ x4 then (if x4 < (x0.length : Int) then ((utf_Next.f ((rd_T26 x0 x4).f0)).bind fun bt178 => ((stratumref03_Next.f k ((rd_T26 x0 x4).f0)).bind fun bt180 => (if bt178.1 = bt180.1 then (if bt178.2 = bt180.2 then ((utf_Fault.f k ((rd_T26 x0 x4).f0)).bind fun t182 => ((stratumref03_Fault.f k ((rd_T26 x0 x4).f0)).bind fun t183 => (if t182 = t183 then ((utf_Valid.f k ((rd_T26 x0 x4).f0)).bind fun t184 => ((stratumref03_Valid.f k ((rd_T26 x0 x4).f0)).bind fun t185 => (if (t184 == t185) = true then ((utf_Count.f k ((rd_T26 x0 x4).f0)).bind fun t186 => ((stratumref03_Count.f k ((rd_T26 x0 x4).f0)).bind fun t187 => (if t186 = t187 then ((utf_Mend.f ((rd_T26 x0 x4).f0)).bind fun t188 => ((stratumref03_Mend.f k ((rd_T26 x0 x4).f0)).bind fun t189 => (if t188.toList = t189.toList then ((utf_Put.f ((rd_T26 x0 x4).f1)).bind fun t191 => ((stratumref03_Put.f k ((rd_T26 x0 x4).f1)).bind fun t193 => (stratumlaw03_UtfAll.l0 k x0 (t191.toList == t193.toList) (wrap64 (x4 + 1))))) else (stratumlaw03_UtfAll.l0 k x0 false (wrap64 (x4 + 1)))))) else (stratumlaw03_UtfAll.l0 k x0 false (wrap64 (x4 + 1)))))) else (stratumlaw03_UtfAll.l0 k x0 false (wrap64 (x4 + 1)))))) else (stratumlaw03_UtfAll.l0 k x0 false (wrap64 (x4 + 1)))))) else (stratumlaw03_UtfAll.l0 k x0 false (wrap64 (x4 + 1)))) else (stratumlaw03_UtfAll.l0 k x0 false (wrap64 (x4 + 1)))))) else (none)) else (none)) else (some x3)
end
def stratumlaw03_UtfAll.f (k : Nat) (l0 : List (S26)) : Option (Bool) := (stratumlaw03_awake.f k).bind fun t175 => (if t175 = true then ((stratumlaw03_much.f k l0).bind fun t176 => (stratumlaw03_UtfAll.j0 k l0 t175 t176)) else (stratumlaw03_UtfAll.j0 k l0 t175 false))
theorem stratumlaw03_UtfAll.mono_l : ∀ k, (∀ y0 y1 y2, LeO (stratumlaw03_UtfAll.j0 k y0 y1 y2) (stratumlaw03_UtfAll.j0 (k + 1) y0 y1 y2)) ∧ (∀ y0 y1 y2, LeO (stratumlaw03_UtfAll.l0 k y0 y1 y2) (stratumlaw03_UtfAll.l0 (k + 1) y0 y1 y2)) ∧ (∀ y0 y1 y2 y3, LeO (stratumlaw03_UtfAll.j2 k y0 y1 y2 y3) (stratumlaw03_UtfAll.j2 (k + 1) y0 y1 y2 y3))
 | 0 => ⟨fun _ _ _ r h => by simp [stratumlaw03_UtfAll.j0] at h, fun _ _ _ r h => by simp [stratumlaw03_UtfAll.l0] at h, fun _ _ _ _ r h => by simp [stratumlaw03_UtfAll.j2] at h⟩
 | k + 1 => by
  obtain ⟨ih0, ih1, ih2⟩ := stratumlaw03_UtfAll.mono_l k
  refine ⟨?_, ?_, ?_⟩
  ·intro y0 y1 y2
   unfold stratumlaw03_UtfAll.j0
   repeat' first
   | (with_reducible exact ih0 _ _ _)
   | (with_reducible exact ih1 _ _ _)
   | (with_reducible exact ih2 _ _ _ _)
   | (with_reducible exact stratumlaw03_awake.mono _)
   | (with_reducible exact stratumlaw03_much.mono _ _)
   | (with_reducible exact stratumref03_Count.mono _ _)
   | (with_reducible exact stratumref03_Fault.mono _ _)
   | (with_reducible exact stratumref03_Mend.mono _ _)
   | (with_reducible exact stratumref03_Next.mono _ _)
   | (with_reducible exact stratumref03_Put.mono _ _)
   | (with_reducible exact stratumref03_Valid.mono _ _)
   | (with_reducible exact utf_Count.mono _ _)
   | (with_reducible exact utf_Fault.mono _ _)
   | (with_reducible exact utf_Valid.mono _ _)
   | (with_reducible exact LeO.refl _)
   | (with_reducible exact LeO.none _)
   | (with_reducible refine LeO.ite ?_ ?_)
   | (with_reducible refine LeO.bind ?_ (fun _ => ?_))
   | exact ih0 _ _ _
   | exact ih1 _ _ _
   | exact ih2 _ _ _ _
   | exact stratumlaw03_awake.mono _
   | exact stratumlaw03_much.mono _ _
   | exact stratumref03_Count.mono _ _
   | exact stratumref03_Fault.mono _ _
   | exact stratumref03_Mend.mono _ _
   | exact stratumref03_Next.mono _ _
   | exact stratumref03_Put.mono _ _
   | exact stratumref03_Valid.mono _ _
   | exact utf_Count.mono _ _
   | exact utf_Fault.mono _ _
   | exact utf_Valid.mono _ _
   | exact LeO.none _
   | refine LeO.ite ?_ ?_
   | refine LeO.bind ?_ (fun _ => ?_)
  ·intro y0 y1 y2
   unfold stratumlaw03_UtfAll.l0
   repeat' first
   | (with_reducible exact ih0 _ _ _)
   | (with_reducible exact ih1 _ _ _)
   | (with_reducible exact ih2 _ _ _ _)
   | (with_reducible exact stratumlaw03_awake.mono _)
   | (with_reducible exact stratumlaw03_much.mono _ _)
   | (with_reducible exact stratumref03_Count.mono _ _)
   | (with_reducible exact stratumref03_Fault.mono _ _)
   | (with_reducible exact stratumref03_Mend.mono _ _)
   | (with_reducible exact stratumref03_Next.mono _ _)
   | (with_reducible exact stratumref03_Put.mono _ _)
   | (with_reducible exact stratumref03_Valid.mono _ _)
   | (with_reducible exact utf_Count.mono _ _)
   | (with_reducible exact utf_Fault.mono _ _)
   | (with_reducible exact utf_Valid.mono _ _)
   | (with_reducible exact LeO.refl _)
   | (with_reducible exact LeO.none _)
   | (with_reducible refine LeO.ite ?_ ?_)
   | (with_reducible refine LeO.bind ?_ (fun _ => ?_))
   | exact ih0 _ _ _
   | exact ih1 _ _ _
   | exact ih2 _ _ _ _
   | exact stratumlaw03_awake.mono _
   | exact stratumlaw03_much.mono _ _
   | exact stratumref03_Count.mono _ _
   | exact stratumref03_Fault.mono _ _
   | exact stratumref03_Mend.mono _ _
   | exact stratumref03_Next.mono _ _
   | exact stratumref03_Put.mono _ _
   | exact stratumref03_Valid.mono _ _
   | exact utf_Count.mono _ _
   | exact utf_Fault.mono _ _
   | exact utf_Valid.mono _ _
   | exact LeO.none _
   | refine LeO.ite ?_ ?_
   | refine LeO.bind ?_ (fun _ => ?_)
  ·intro y0 y1 y2 y3
   unfold stratumlaw03_UtfAll.j2
   repeat' first
   | (with_reducible exact ih0 _ _ _)
   | (with_reducible exact ih1 _ _ _)
   | (with_reducible exact ih2 _ _ _ _)
   | (with_reducible exact stratumlaw03_awake.mono _)
   | (with_reducible exact stratumlaw03_much.mono _ _)
   | (with_reducible exact stratumref03_Count.mono _ _)
   | (with_reducible exact stratumref03_Fault.mono _ _)
   | (with_reducible exact stratumref03_Mend.mono _ _)
   | (with_reducible exact stratumref03_Next.mono _ _)
   | (with_reducible exact stratumref03_Put.mono _ _)
   | (with_reducible exact stratumref03_Valid.mono _ _)
   | (with_reducible exact utf_Count.mono _ _)
   | (with_reducible exact utf_Fault.mono _ _)
   | (with_reducible exact utf_Valid.mono _ _)
   | (with_reducible exact LeO.refl _)
   | (with_reducible exact LeO.none _)
   | (with_reducible refine LeO.ite ?_ ?_)
   | (with_reducible refine LeO.bind ?_ (fun _ => ?_))
   | exact ih0 _ _ _
   | exact ih1 _ _ _
   | exact ih2 _ _ _ _
   | exact stratumlaw03_awake.mono _
   | exact stratumlaw03_much.mono _ _
   | exact stratumref03_Count.mono _ _
   | exact stratumref03_Fault.mono _ _
   | exact stratumref03_Mend.mono _ _
   | exact stratumref03_Next.mono _ _
   | exact stratumref03_Put.mono _ _
   | exact stratumref03_Valid.mono _ _
   | exact utf_Count.mono _ _
   | exact utf_Fault.mono _ _
   | exact utf_Valid.mono _ _
   | exact LeO.none _
   | refine LeO.ite ?_ ?_
   | refine LeO.bind ?_ (fun _ => ?_)
theorem stratumlaw03_UtfAll.mono : ∀ a0 k, LeO (stratumlaw03_UtfAll.f k a0) (stratumlaw03_UtfAll.f (k + 1) a0) := by
 intro a0 k
 obtain ⟨ih0, ih1, ih2⟩ := stratumlaw03_UtfAll.mono_l k
 unfold stratumlaw03_UtfAll.f
 repeat' first
   | (with_reducible exact ih0 _ _ _)
   | (with_reducible exact ih1 _ _ _)
   | (with_reducible exact ih2 _ _ _ _)
   | (with_reducible exact stratumlaw03_awake.mono _)
   | (with_reducible exact stratumlaw03_much.mono _ _)
   | (with_reducible exact stratumref03_Count.mono _ _)
   | (with_reducible exact stratumref03_Fault.mono _ _)
   | (with_reducible exact stratumref03_Mend.mono _ _)
   | (with_reducible exact stratumref03_Next.mono _ _)
   | (with_reducible exact stratumref03_Put.mono _ _)
   | (with_reducible exact stratumref03_Valid.mono _ _)
   | (with_reducible exact utf_Count.mono _ _)
   | (with_reducible exact utf_Fault.mono _ _)
   | (with_reducible exact utf_Valid.mono _ _)
   | (with_reducible exact LeO.refl _)
   | (with_reducible exact LeO.none _)
   | (with_reducible refine LeO.ite ?_ ?_)
   | (with_reducible refine LeO.bind ?_ (fun _ => ?_))
   | exact ih0 _ _ _
   | exact ih1 _ _ _
   | exact ih2 _ _ _ _
   | exact stratumlaw03_awake.mono _
   | exact stratumlaw03_much.mono _ _
   | exact stratumref03_Count.mono _ _
   | exact stratumref03_Fault.mono _ _
   | exact stratumref03_Mend.mono _ _
   | exact stratumref03_Next.mono _ _
   | exact stratumref03_Put.mono _ _
   | exact stratumref03_Valid.mono _ _
   | exact utf_Count.mono _ _
   | exact utf_Fault.mono _ _
   | exact utf_Valid.mono _ _
   | exact LeO.none _
   | refine LeO.ite ?_ ?_
   | refine LeO.bind ?_ (fun _ => ?_)
def stratumlaw03_UtfAll.T10 : Bool × List (List Nat × List Nat) := (true, [([], []), ([], []), ([0, 1], [0, 1]), ([2], [2]), ([3], [3]), ([3], [3]), ([4, 5, 3], [3, 4, 5]), ([3, 6], [3, 6]), ([7, 3], [7]), ([8], [8]), ([9, 8, 8], [8, 9]), ([8], [8]), ([11, 10, 8], [8, 11]), ([10, 12, 8], [8, 10, 12]), ([8, 13], [8, 13]), ([14, 12], [14]), ([15], [15]), ([16, 15, 15], [15, 16]), ([15], [15]), ([18, 17, 15], [15, 18]), ([17, 19, 15], [15, 17, 19]), ([15, 20], [15, 20]), ([21, 19], [21]), ([22], [22]), ([23, 22, 22], [22, 23]), ([22], [22]), ([25, 24, 22], [22, 25]), ([24, 26, 22], [22, 24, 26]), ([22, 27], [22, 27]), ([28, 26], [28]), ([29], [29]), ([30, 29, 29], [29, 30]), ([29], [29]), ([32, 31, 29], [29, 32]), ([31, 33, 29], [29, 31, 33]), ([29, 34], [29, 34]), ([35, 33], [35]), ([36], [36]), ([36], [36]), ([37, 38, 36], [36, 37, 38]), ([39, 36], [36, 39]), ([40, 36], [36, 40]), ([41, 36, 36], [36, 41]), ([36], [36]), ([36], [36]), ([43, 44, 36], [36, 43, 44]), ([45, 36], [36, 45]), ([46, 36], [36, 46]), ([47, 42, 36], [36, 47]), ([42, 48, 36], [36, 42, 48]), ([36, 49], [36, 49]), ([50, 48, 0, 1, 2, 3, 4, 5, 6, 7, 8, 9, 10, 11, 12, 13, 14, 15, 16, 17, 18, 19, 20, 21, 22, 23, 24, 25, 26, 27, 28, 29, 30, 31, 32, 33, 34, 35, 36, 37, 38, 39, 40, 41, 42, 43, 44, 45, 46, 47, 48, 49, 50], [50])])
def stratumlaw03_UtfAll.B10 : List Nat := [0, 0, 3, 7, 15, 15, 63, 127, 255, 511, 1023, 511, 4095, 8191, 16383, 32767, 65535, 131071, 65535, 524287, 1048575, 2097151, 4194303, 8388607, 16777215, 8388607, 67108863, 134217727, 268435455, 536870911, 1073741823, 2147483647, 1073741823, 8589934591, 17179869183, 34359738367, 68719476735, 137438953471, 137438953471, 549755813887, 1099511627775, 2199023255551, 4398046511103, 137438953471, 137438953471, 26525718020095, 61710090108927, 132078834286591, 281474976710655, 562949953421311, 1125899906842623, 2251799813685247]
theorem stratumlaw03_UtfAll.tab10 : rtab .any (opsOf Try.f3 10) = stratumlaw03_UtfAll.T10 := by kernel_rfl
theorem stratumlaw03_UtfAll.bits10 : waitsOk stratumlaw03_UtfAll.T10.2 stratumlaw03_UtfAll.B10 = true := by kernel_rfl
set_option maxHeartbeats 8000000 in
set_option maxRecDepth 100000 in
theorem stratumlaw03_UtfAll.calls (k : Nat) (A0 : Option Addr) (c0 : Nat) (l0 : List (S26)) (r : Bool) (w : World) (hr0 : Kd.C k26 w A0 l0.length l0) (hc0 : l0.length ≤ c0) (h : stratumlaw03_UtfAll.f k l0 = some r) :
  Calls Try.prog 3 #[.slice A0 l0.length c0] w fun e w' => e = .returned (.bool r) ∧ Below w.heap.size w w' := by
 have HR0 := Aside0.mk hr0
 have HC0 := Aside0.mk hc0
 clear hr0 hc0
 have HB := Aside0.mk (Below.refl w.heap.size w)
 have H : ((stratumlaw03_awake.f k).bind fun t175 => (if t175 = true then ((stratumlaw03_much.f k l0).bind fun t176 => (stratumlaw03_UtfAll.j0 k l0 t175 t176)) else (stratumlaw03_UtfAll.j0 k l0 t175 false))) = some r := h
 clear h
 replace H := Option.bind_eq_some_iff.mp H
 obtain ⟨t175, A20, H⟩ := H
 replace H : (if t175 = true then ((stratumlaw03_much.f k l0).bind fun t176 => (stratumlaw03_UtfAll.j0 k l0 t175 t176)) else (stratumlaw03_UtfAll.j0 k l0 t175 false)) = some r := H
 have A2 := Aside0.mk A20
 clear A20
 have HC3 := Aside0.mk H
 clear H
 go_enter Try.func3, Try.ntmps3
 go_upto_region 2 with (first | ((with_reducible refine gate_callee (f := 9) rfl ?_); refine goesL_ (some 10) rfl rfl Try.func9 (by kernel_rfl) rfl #[] rfl (by (try simp only [List.map_toArray, List.map_cons, List.map_nil]); first | done | rfl | (simp only [List.length_drop, List.length_take]; rfl)) ?_; (with_reducible refine (stratumlaw03_awake.calls k  t175 _ A2.out).mono ?_); rintro e w4 ⟨rfl, hb⟩; refine ⟨_, rfl, ?_⟩; have n0_ := Aside0.mk (below_step (by repeat (first | (with_reducible first | exact HB.out | apply below_alloc | apply pw_below_drewN | apply below_drew1) | exact HB.out)) hb); clear HB; have HB := n0_; clear n0_; (try clear hb); (try clear hb2); (try clear hk); (try clear hi)))
 (try simp only [Act.put, sT, sZ, sS])
 go_cut [15] (fun v15 wc => ∃ (kq : Nat) (x15_2 : Bool), v15 = .bool x15_2 ∧ Aside0 (stratumlaw03_UtfAll.j0 kq l0 t175 x15_2 = some r) ∧ Aside0 (kq ≤ k) ∧ Aside0 (Below w.heap.size w wc))
 case first =>
  have H := HC3.out
  clear HC3
  by_cases c5 : t175 = true
  ·subst c5
   have H1 : ((stratumlaw03_much.f k l0).bind fun t176 => (stratumlaw03_UtfAll.j0 k l0 true t176)) = some r := by rw [if_pos rfl] at H; exact H
   clear H
   have H := H1
   clear H1
   replace H := Option.bind_eq_some_iff.mp H
   obtain ⟨t176, A60, H⟩ := H
   replace H : (stratumlaw03_UtfAll.j0 k l0 true t176) = some r := H
   have A6 := Aside0.mk A60
   clear A60
   have H' := Aside0.mk H
   clear H
   go_wp2_with (first | (go_at_call 10; (with_reducible refine (stratumlaw03_much.calls k _ _ l0 t176 _ ?side1 ?side2 A6.out).mono ?_); (case side1 => repeat (first | exact (Kd.C_below HR0.out HB.out) | (with_reducible refine Kd.C_alloc ?_ _) | (with_reducible refine Kd.C_drewN ?_ _) | (with_reducible refine Kd.C_drew ?_))); (case side2 => exact HC0.out); rintro e w' ⟨rfl, ⟨nd, rfl⟩⟩))
   go_meet
   case rel => exact ⟨_, (t176), (by first | rfl | (simp; done) | (simp [*]; done)), H', ⟨by first | omega | exact Nat.le_refl _⟩, ⟨by repeat (first | (with_reducible first | exact HB.out | apply below_alloc | apply pw_below_drewN | apply below_drew1) | exact HB.out)⟩⟩
  ·replace c5 := Bool.eq_false_iff.mpr c5
   subst c5
   have H1 : (stratumlaw03_UtfAll.j0 k l0 false false) = some r := by rw [if_neg (show ¬ (false = true) by decide)] at H; exact H
   clear H
   have H := H1
   clear H1
   have H' := Aside0.mk H
   clear H
   go_wp2
   go_meet
   case rel => exact ⟨_, (false), (by first | rfl | (simp; done) | (simp [*]; done)), H', ⟨by first | omega | exact Nat.le_refl _⟩, ⟨by repeat (first | (with_reducible first | exact HB.out | apply below_alloc | apply pw_below_drewN | apply below_drew1) | exact HB.out)⟩⟩
 case rest =>
  clear HC3
  try clear p2
  try clear c3
  try clear c5
  obtain ⟨kq, x15_2, rfl, HA, HJ2, HB⟩ := hcut
  cases kq with
  | zero => exact absurd HA.out (by simp [stratumlaw03_UtfAll.j0])
  | succ kj2 =>
   have H := HA.out
   clear HA
   simp only [stratumlaw03_UtfAll.j0] at H
   by_cases c7 : x15_2 = true
   ·subst c7
    have H1 : (some true) = some r := by rw [if_pos rfl] at H; exact H
    clear H
    have H := H1
    clear H1
    obtain rfl := Option.some.inj H
    go_wp2
    go_ret
    exact ⟨by first | rfl | (simp [errW_none, errW_some] <;> rfl) | (simp [*, errW_none, errW_some] <;> rfl), by repeat (first | (with_reducible first | exact HB.out | apply below_alloc | apply pw_below_drewN | apply below_drew1) | exact HB.out)⟩
   ·replace c7 := Bool.eq_false_iff.mpr c7
    subst c7
    have H1 : (stratumlaw03_UtfAll.l0 kj2 l0 t175 0) = some r := by rw [if_neg (show ¬ (false = true) by decide)] at H; exact H
    clear H
    have H := H1
    clear H1
    have H' := Aside0.mk H
    clear H
    go_wp2
    go_loopg [3, 4] kj2 (fun kq v3 v4 w' => ∃ (x3_2 : Bool) (x4_2 : Int), v3 = .bool x3_2 ∧ v4 = .int .i64 x4_2 ∧ Aside0 (stratumlaw03_UtfAll.l0 kq l0 x3_2 x4_2 = some r) ∧ Aside0 (kq ≤ kj2) ∧ Aside0 (Below w.heap.size w w'))
    case atStart => exact ⟨(t175), (0), (by first | rfl | (simp; done) | (simp [*]; done)), (by first | rfl | (simp; done) | (simp [*]; done)), H', ⟨Nat.le_refl _⟩, ⟨by repeat (first | (with_reducible first | exact HB.out | apply below_alloc | apply pw_below_drewN | apply below_drew1) | exact HB.out)⟩⟩
    case round =>
     clear H'
     try clear p2
     try clear c3
     try clear c5
     try clear c7
     try clear p2
     obtain ⟨x3_2, x4_2, rfl, rfl, HA, HK2, HB⟩ := hrel
     cases gk with
     | zero => exact absurd HA.out (by simp [stratumlaw03_UtfAll.l0])
     | succ k2 =>
      have H := HA.out
      clear HA
      simp only [stratumlaw03_UtfAll.l0] at H
      have HC8 := Aside0.mk H
      clear H
      go_upto_region 5 with (fail)
      go_cut [22] (fun v22 wc => ∃ (kq : Nat) (x22_7 : Bool), v22 = .bool x22_7 ∧ Aside0 (stratumlaw03_UtfAll.j2 kq l0 x3_2 x4_2 x22_7 = some r) ∧ Aside0 (kq ≤ k2) ∧ Aside0 (Below w.heap.size w wc))
      case first =>
       have H := HC8.out
       clear HC8
       by_cases c9 : x4_2 < (l0.length : Int)
       ·rw [if_pos c9] at H
        have c9b0 : decide (x4_2 < (l0.length : Int)) = true := decide_eq_true c9
        clear c9
        (first | rw [c9b0] | (simp only [i64_w, i32_w]; rw [c9b0]) | skip)
        have H' := Aside0.mk H
        clear H
        go_wp2
        go_meet
        case rel => exact ⟨_, (x3_2), (by first | rfl | (simp; done) | (simp [*]; done)), H', ⟨by have := HJ2.out; have := HK2.out; first | omega | exact Nat.le_refl _⟩, ⟨by repeat (first | (with_reducible first | exact HB.out | apply below_alloc | apply pw_below_drewN | apply below_drew1) | exact HB.out)⟩⟩
       ·rw [if_neg c9] at H
        have c9b0 : decide (x4_2 < (l0.length : Int)) = false := decide_eq_false c9
        clear c9
        (first | rw [c9b0] | (simp only [i64_w, i32_w]; rw [c9b0]) | skip)
        have H' := Aside0.mk H
        clear H
        go_wp2
        go_meet
        case rel => exact ⟨_, (false), (by first | rfl | (simp; done) | (simp [*]; done)), H', ⟨by have := HJ2.out; have := HK2.out; first | omega | exact Nat.le_refl _⟩, ⟨by repeat (first | (with_reducible first | exact HB.out | apply below_alloc | apply pw_below_drewN | apply below_drew1) | exact HB.out)⟩⟩
      case rest =>
       clear HC8
       try clear p2
       try clear c3
       try clear c5
       try clear c7
       try clear c9
       try clear c9b0
       try clear p2
       obtain ⟨kq, x22_7, rfl, HA, HJ7, HB⟩ := hcut
       cases kq with
       | zero => exact absurd HA.out (by simp [stratumlaw03_UtfAll.j2])
       | succ kj7 =>
        have H := HA.out
        clear HA
        simp only [stratumlaw03_UtfAll.j2] at H
        by_cases c10 : x22_7 = true
        ·subst c10
         have H1 : (if 0 ≤ x4_2 then (if x4_2 < (l0.length : Int) then ((utf_Next.f ((rd_T26 l0 x4_2).f0)).bind fun bt178 => ((stratumref03_Next.f kj7 ((rd_T26 l0 x4_2).f0)).bind fun bt180 => (if bt178.1 = bt180.1 then (if bt178.2 = bt180.2 then ((utf_Fault.f kj7 ((rd_T26 l0 x4_2).f0)).bind fun t182 => ((stratumref03_Fault.f kj7 ((rd_T26 l0 x4_2).f0)).bind fun t183 => (if t182 = t183 then ((utf_Valid.f kj7 ((rd_T26 l0 x4_2).f0)).bind fun t184 => ((stratumref03_Valid.f kj7 ((rd_T26 l0 x4_2).f0)).bind fun t185 => (if (t184 == t185) = true then ((utf_Count.f kj7 ((rd_T26 l0 x4_2).f0)).bind fun t186 => ((stratumref03_Count.f kj7 ((rd_T26 l0 x4_2).f0)).bind fun t187 => (if t186 = t187 then ((utf_Mend.f ((rd_T26 l0 x4_2).f0)).bind fun t188 => ((stratumref03_Mend.f kj7 ((rd_T26 l0 x4_2).f0)).bind fun t189 => (if t188.toList = t189.toList then ((utf_Put.f ((rd_T26 l0 x4_2).f1)).bind fun t191 => ((stratumref03_Put.f kj7 ((rd_T26 l0 x4_2).f1)).bind fun t193 => (stratumlaw03_UtfAll.l0 kj7 l0 (t191.toList == t193.toList) (wrap64 (x4_2 + 1))))) else (stratumlaw03_UtfAll.l0 kj7 l0 false (wrap64 (x4_2 + 1)))))) else (stratumlaw03_UtfAll.l0 kj7 l0 false (wrap64 (x4_2 + 1)))))) else (stratumlaw03_UtfAll.l0 kj7 l0 false (wrap64 (x4_2 + 1)))))) else (stratumlaw03_UtfAll.l0 kj7 l0 false (wrap64 (x4_2 + 1)))))) else (stratumlaw03_UtfAll.l0 kj7 l0 false (wrap64 (x4_2 + 1)))) else (stratumlaw03_UtfAll.l0 kj7 l0 false (wrap64 (x4_2 + 1)))))) else (none)) else (none)) = some r := by rw [if_pos rfl] at H; exact H
         clear H
         have H := H1
         clear H1
         by_cases c11 : 0 ≤ x4_2
         ·rw [if_pos c11] at H
          have c11b0 : decide (0 ≤ x4_2) = true := decide_eq_true c11
          clear c11
          by_cases c12 : x4_2 < (l0.length : Int)
          ·rw [if_pos c12] at H
           have c12b0 : decide (x4_2 < (l0.length : Int)) = true := decide_eq_true c12
           clear c12
           replace H := Option.bind_eq_some_iff.mp H
           obtain ⟨⟨t178, t179⟩, A130, H⟩ := H
           replace H : ((stratumref03_Next.f kj7 ((rd_T26 l0 x4_2).f0)).bind fun bt180 => (if t178 = bt180.1 then (if t179 = bt180.2 then ((utf_Fault.f kj7 ((rd_T26 l0 x4_2).f0)).bind fun t182 => ((stratumref03_Fault.f kj7 ((rd_T26 l0 x4_2).f0)).bind fun t183 => (if t182 = t183 then ((utf_Valid.f kj7 ((rd_T26 l0 x4_2).f0)).bind fun t184 => ((stratumref03_Valid.f kj7 ((rd_T26 l0 x4_2).f0)).bind fun t185 => (if (t184 == t185) = true then ((utf_Count.f kj7 ((rd_T26 l0 x4_2).f0)).bind fun t186 => ((stratumref03_Count.f kj7 ((rd_T26 l0 x4_2).f0)).bind fun t187 => (if t186 = t187 then ((utf_Mend.f ((rd_T26 l0 x4_2).f0)).bind fun t188 => ((stratumref03_Mend.f kj7 ((rd_T26 l0 x4_2).f0)).bind fun t189 => (if t188.toList = t189.toList then ((utf_Put.f ((rd_T26 l0 x4_2).f1)).bind fun t191 => ((stratumref03_Put.f kj7 ((rd_T26 l0 x4_2).f1)).bind fun t193 => (stratumlaw03_UtfAll.l0 kj7 l0 (t191.toList == t193.toList) (wrap64 (x4_2 + 1))))) else (stratumlaw03_UtfAll.l0 kj7 l0 false (wrap64 (x4_2 + 1)))))) else (stratumlaw03_UtfAll.l0 kj7 l0 false (wrap64 (x4_2 + 1)))))) else (stratumlaw03_UtfAll.l0 kj7 l0 false (wrap64 (x4_2 + 1)))))) else (stratumlaw03_UtfAll.l0 kj7 l0 false (wrap64 (x4_2 + 1)))))) else (stratumlaw03_UtfAll.l0 kj7 l0 false (wrap64 (x4_2 + 1)))) else (stratumlaw03_UtfAll.l0 kj7 l0 false (wrap64 (x4_2 + 1))))) = some r := H
           have A13 := Aside0.mk A130
           clear A130
           replace H := Option.bind_eq_some_iff.mp H
           obtain ⟨⟨t180, t181⟩, A140, H⟩ := H
           replace H : (if t178 = t180 then (if t179 = t181 then ((utf_Fault.f kj7 ((rd_T26 l0 x4_2).f0)).bind fun t182 => ((stratumref03_Fault.f kj7 ((rd_T26 l0 x4_2).f0)).bind fun t183 => (if t182 = t183 then ((utf_Valid.f kj7 ((rd_T26 l0 x4_2).f0)).bind fun t184 => ((stratumref03_Valid.f kj7 ((rd_T26 l0 x4_2).f0)).bind fun t185 => (if (t184 == t185) = true then ((utf_Count.f kj7 ((rd_T26 l0 x4_2).f0)).bind fun t186 => ((stratumref03_Count.f kj7 ((rd_T26 l0 x4_2).f0)).bind fun t187 => (if t186 = t187 then ((utf_Mend.f ((rd_T26 l0 x4_2).f0)).bind fun t188 => ((stratumref03_Mend.f kj7 ((rd_T26 l0 x4_2).f0)).bind fun t189 => (if t188.toList = t189.toList then ((utf_Put.f ((rd_T26 l0 x4_2).f1)).bind fun t191 => ((stratumref03_Put.f kj7 ((rd_T26 l0 x4_2).f1)).bind fun t193 => (stratumlaw03_UtfAll.l0 kj7 l0 (t191.toList == t193.toList) (wrap64 (x4_2 + 1))))) else (stratumlaw03_UtfAll.l0 kj7 l0 false (wrap64 (x4_2 + 1)))))) else (stratumlaw03_UtfAll.l0 kj7 l0 false (wrap64 (x4_2 + 1)))))) else (stratumlaw03_UtfAll.l0 kj7 l0 false (wrap64 (x4_2 + 1)))))) else (stratumlaw03_UtfAll.l0 kj7 l0 false (wrap64 (x4_2 + 1)))))) else (stratumlaw03_UtfAll.l0 kj7 l0 false (wrap64 (x4_2 + 1)))) else (stratumlaw03_UtfAll.l0 kj7 l0 false (wrap64 (x4_2 + 1)))) = some r := H
           have A14 := Aside0.mk A140
           clear A140
           by_cases c15 : t178 = t180
           ·rw [if_pos c15] at H
            have c15b0 : (t178 == t180) = true := beq_iff_eq.mpr c15
            have c15b1 : (t178 != t180) = false := bne_eq_false_iff_eq.mpr c15
            clear c15
            by_cases c16 : t179 = t181
            ·rw [if_pos c16] at H
             have c16b0 : (t179 == t181) = true := beq_iff_eq.mpr c16
             have c16b1 : (t179 != t181) = false := bne_eq_false_iff_eq.mpr c16
             clear c16
             replace H := Option.bind_eq_some_iff.mp H
             obtain ⟨t182, A170, H⟩ := H
             replace H : ((stratumref03_Fault.f kj7 ((rd_T26 l0 x4_2).f0)).bind fun t183 => (if t182 = t183 then ((utf_Valid.f kj7 ((rd_T26 l0 x4_2).f0)).bind fun t184 => ((stratumref03_Valid.f kj7 ((rd_T26 l0 x4_2).f0)).bind fun t185 => (if (t184 == t185) = true then ((utf_Count.f kj7 ((rd_T26 l0 x4_2).f0)).bind fun t186 => ((stratumref03_Count.f kj7 ((rd_T26 l0 x4_2).f0)).bind fun t187 => (if t186 = t187 then ((utf_Mend.f ((rd_T26 l0 x4_2).f0)).bind fun t188 => ((stratumref03_Mend.f kj7 ((rd_T26 l0 x4_2).f0)).bind fun t189 => (if t188.toList = t189.toList then ((utf_Put.f ((rd_T26 l0 x4_2).f1)).bind fun t191 => ((stratumref03_Put.f kj7 ((rd_T26 l0 x4_2).f1)).bind fun t193 => (stratumlaw03_UtfAll.l0 kj7 l0 (t191.toList == t193.toList) (wrap64 (x4_2 + 1))))) else (stratumlaw03_UtfAll.l0 kj7 l0 false (wrap64 (x4_2 + 1)))))) else (stratumlaw03_UtfAll.l0 kj7 l0 false (wrap64 (x4_2 + 1)))))) else (stratumlaw03_UtfAll.l0 kj7 l0 false (wrap64 (x4_2 + 1)))))) else (stratumlaw03_UtfAll.l0 kj7 l0 false (wrap64 (x4_2 + 1))))) = some r := H
             have A17 := Aside0.mk A170
             clear A170
             replace H := Option.bind_eq_some_iff.mp H
             obtain ⟨t183, A180, H⟩ := H
             replace H : (if t182 = t183 then ((utf_Valid.f kj7 ((rd_T26 l0 x4_2).f0)).bind fun t184 => ((stratumref03_Valid.f kj7 ((rd_T26 l0 x4_2).f0)).bind fun t185 => (if (t184 == t185) = true then ((utf_Count.f kj7 ((rd_T26 l0 x4_2).f0)).bind fun t186 => ((stratumref03_Count.f kj7 ((rd_T26 l0 x4_2).f0)).bind fun t187 => (if t186 = t187 then ((utf_Mend.f ((rd_T26 l0 x4_2).f0)).bind fun t188 => ((stratumref03_Mend.f kj7 ((rd_T26 l0 x4_2).f0)).bind fun t189 => (if t188.toList = t189.toList then ((utf_Put.f ((rd_T26 l0 x4_2).f1)).bind fun t191 => ((stratumref03_Put.f kj7 ((rd_T26 l0 x4_2).f1)).bind fun t193 => (stratumlaw03_UtfAll.l0 kj7 l0 (t191.toList == t193.toList) (wrap64 (x4_2 + 1))))) else (stratumlaw03_UtfAll.l0 kj7 l0 false (wrap64 (x4_2 + 1)))))) else (stratumlaw03_UtfAll.l0 kj7 l0 false (wrap64 (x4_2 + 1)))))) else (stratumlaw03_UtfAll.l0 kj7 l0 false (wrap64 (x4_2 + 1)))))) else (stratumlaw03_UtfAll.l0 kj7 l0 false (wrap64 (x4_2 + 1)))) = some r := H
             have A18 := Aside0.mk A180
             clear A180
             by_cases c19 : t182 = t183
             ·rw [if_pos c19] at H
              have c19b0 : (t182 == t183) = true := beq_iff_eq.mpr c19
              have c19b1 : (t182 != t183) = false := bne_eq_false_iff_eq.mpr c19
              clear c19
              replace H := Option.bind_eq_some_iff.mp H
              obtain ⟨t184, A200, H⟩ := H
              replace H : ((stratumref03_Valid.f kj7 ((rd_T26 l0 x4_2).f0)).bind fun t185 => (if (t184 == t185) = true then ((utf_Count.f kj7 ((rd_T26 l0 x4_2).f0)).bind fun t186 => ((stratumref03_Count.f kj7 ((rd_T26 l0 x4_2).f0)).bind fun t187 => (if t186 = t187 then ((utf_Mend.f ((rd_T26 l0 x4_2).f0)).bind fun t188 => ((stratumref03_Mend.f kj7 ((rd_T26 l0 x4_2).f0)).bind fun t189 => (if t188.toList = t189.toList then ((utf_Put.f ((rd_T26 l0 x4_2).f1)).bind fun t191 => ((stratumref03_Put.f kj7 ((rd_T26 l0 x4_2).f1)).bind fun t193 => (stratumlaw03_UtfAll.l0 kj7 l0 (t191.toList == t193.toList) (wrap64 (x4_2 + 1))))) else (stratumlaw03_UtfAll.l0 kj7 l0 false (wrap64 (x4_2 + 1)))))) else (stratumlaw03_UtfAll.l0 kj7 l0 false (wrap64 (x4_2 + 1)))))) else (stratumlaw03_UtfAll.l0 kj7 l0 false (wrap64 (x4_2 + 1))))) = some r := H
              have A20 := Aside0.mk A200
              clear A200
              replace H := Option.bind_eq_some_iff.mp H
              obtain ⟨t185, A210, H⟩ := H
              replace H : (if (t184 == t185) = true then ((utf_Count.f kj7 ((rd_T26 l0 x4_2).f0)).bind fun t186 => ((stratumref03_Count.f kj7 ((rd_T26 l0 x4_2).f0)).bind fun t187 => (if t186 = t187 then ((utf_Mend.f ((rd_T26 l0 x4_2).f0)).bind fun t188 => ((stratumref03_Mend.f kj7 ((rd_T26 l0 x4_2).f0)).bind fun t189 => (if t188.toList = t189.toList then ((utf_Put.f ((rd_T26 l0 x4_2).f1)).bind fun t191 => ((stratumref03_Put.f kj7 ((rd_T26 l0 x4_2).f1)).bind fun t193 => (stratumlaw03_UtfAll.l0 kj7 l0 (t191.toList == t193.toList) (wrap64 (x4_2 + 1))))) else (stratumlaw03_UtfAll.l0 kj7 l0 false (wrap64 (x4_2 + 1)))))) else (stratumlaw03_UtfAll.l0 kj7 l0 false (wrap64 (x4_2 + 1)))))) else (stratumlaw03_UtfAll.l0 kj7 l0 false (wrap64 (x4_2 + 1)))) = some r := H
              have A21 := Aside0.mk A210
              clear A210
              by_cases c22 : (t184 == t185) = true
              ·rw [if_pos c22] at H
               have c22b0 : (t184 == t185) = true := c22
               (try (have c22b1 : decide (t184 = t185) = true := by simpa using c22))
               (try (have c22b2 : (t184 == t185) = true := by simpa using c22))
               clear c22
               replace H := Option.bind_eq_some_iff.mp H
               obtain ⟨t186, A230, H⟩ := H
               replace H : ((stratumref03_Count.f kj7 ((rd_T26 l0 x4_2).f0)).bind fun t187 => (if t186 = t187 then ((utf_Mend.f ((rd_T26 l0 x4_2).f0)).bind fun t188 => ((stratumref03_Mend.f kj7 ((rd_T26 l0 x4_2).f0)).bind fun t189 => (if t188.toList = t189.toList then ((utf_Put.f ((rd_T26 l0 x4_2).f1)).bind fun t191 => ((stratumref03_Put.f kj7 ((rd_T26 l0 x4_2).f1)).bind fun t193 => (stratumlaw03_UtfAll.l0 kj7 l0 (t191.toList == t193.toList) (wrap64 (x4_2 + 1))))) else (stratumlaw03_UtfAll.l0 kj7 l0 false (wrap64 (x4_2 + 1)))))) else (stratumlaw03_UtfAll.l0 kj7 l0 false (wrap64 (x4_2 + 1))))) = some r := H
               have A23 := Aside0.mk A230
               clear A230
               replace H := Option.bind_eq_some_iff.mp H
               obtain ⟨t187, A240, H⟩ := H
               replace H : (if t186 = t187 then ((utf_Mend.f ((rd_T26 l0 x4_2).f0)).bind fun t188 => ((stratumref03_Mend.f kj7 ((rd_T26 l0 x4_2).f0)).bind fun t189 => (if t188.toList = t189.toList then ((utf_Put.f ((rd_T26 l0 x4_2).f1)).bind fun t191 => ((stratumref03_Put.f kj7 ((rd_T26 l0 x4_2).f1)).bind fun t193 => (stratumlaw03_UtfAll.l0 kj7 l0 (t191.toList == t193.toList) (wrap64 (x4_2 + 1))))) else (stratumlaw03_UtfAll.l0 kj7 l0 false (wrap64 (x4_2 + 1)))))) else (stratumlaw03_UtfAll.l0 kj7 l0 false (wrap64 (x4_2 + 1)))) = some r := H
               have A24 := Aside0.mk A240
               clear A240
               by_cases c25 : t186 = t187
               ·rw [if_pos c25] at H
                have c25b0 : (t186 == t187) = true := beq_iff_eq.mpr c25
                have c25b1 : (t186 != t187) = false := bne_eq_false_iff_eq.mpr c25
                clear c25
                replace H := Option.bind_eq_some_iff.mp H
                obtain ⟨t188, A260, H⟩ := H
                replace H : ((stratumref03_Mend.f kj7 ((rd_T26 l0 x4_2).f0)).bind fun t189 => (if t188.toList = t189.toList then ((utf_Put.f ((rd_T26 l0 x4_2).f1)).bind fun t191 => ((stratumref03_Put.f kj7 ((rd_T26 l0 x4_2).f1)).bind fun t193 => (stratumlaw03_UtfAll.l0 kj7 l0 (t191.toList == t193.toList) (wrap64 (x4_2 + 1))))) else (stratumlaw03_UtfAll.l0 kj7 l0 false (wrap64 (x4_2 + 1))))) = some r := H
                have A26 := Aside0.mk A260
                clear A260
                replace H := Option.bind_eq_some_iff.mp H
                obtain ⟨t189, A270, H⟩ := H
                replace H : (if t188.toList = t189.toList then ((utf_Put.f ((rd_T26 l0 x4_2).f1)).bind fun t191 => ((stratumref03_Put.f kj7 ((rd_T26 l0 x4_2).f1)).bind fun t193 => (stratumlaw03_UtfAll.l0 kj7 l0 (t191.toList == t193.toList) (wrap64 (x4_2 + 1))))) else (stratumlaw03_UtfAll.l0 kj7 l0 false (wrap64 (x4_2 + 1)))) = some r := H
                have A27 := Aside0.mk A270
                clear A270
                by_cases c28 : t188.toList = t189.toList
                ·rw [if_pos c28] at H
                 have c28b0 : (t188.toList == t189.toList) = true := beq_iff_eq.mpr c28
                 have c28b1 : (t188.toList != t189.toList) = false := bne_eq_false_iff_eq.mpr c28
                 clear c28
                 replace H := Option.bind_eq_some_iff.mp H
                 obtain ⟨t191, A290, H⟩ := H
                 replace H : ((stratumref03_Put.f kj7 ((rd_T26 l0 x4_2).f1)).bind fun t193 => (stratumlaw03_UtfAll.l0 kj7 l0 (t191.toList == t193.toList) (wrap64 (x4_2 + 1)))) = some r := H
                 have A29 := Aside0.mk A290
                 clear A290
                 replace H := Option.bind_eq_some_iff.mp H
                 obtain ⟨t193, A300, H⟩ := H
                 replace H : (stratumlaw03_UtfAll.l0 kj7 l0 (t191.toList == t193.toList) (wrap64 (x4_2 + 1))) = some r := H
                 have A30 := Aside0.mk A300
                 clear A300
                 have H' := Aside0.mk H
                 clear H
                 have p177 : 0 ≤ (x4_2 : Int) := of_decide_eq_true (by first | (with_reducible assumption) | assumption)
                 have q177 : x4_2 < (l0.length : Int) := of_decide_eq_true (by first | (with_reducible assumption) | assumption)
                 obtain ⟨ad177, e177, hx177_0, hx177_1⟩ := at_T26 HR0.out x4_2 p177 q177
                 cases e177
                 replace hx177_0 := (HB.out.cell (World.block_lt_of_cell? w _ hx177_0)).trans hx177_0
                 replace hx177_1 := (HB.out.cell (World.block_lt_of_cell? w _ hx177_1)).trans hx177_1
                 replace p177 := eq_true p177
                 replace q177 := eq_true q177
                 try go_wp2_with (first | ((with_reducible refine gate_callee (f := 11) rfl ?_); refine goesL_ (some 32) rfl rfl Try.func11 (by kernel_rfl) rfl #[.string ((rd_T26 l0 x4_2).f0)] rfl (by (try simp only [List.map_toArray, List.map_cons, List.map_nil]); first | done | rfl | (simp only [List.length_drop, List.length_take]; rfl)) ?_; (with_reducible refine (utf_Next.calls ((rd_T26 l0 x4_2).f0) t178 t179 _ A13.out).mono ?_); rintro e w31 ⟨rfl, hb⟩; refine ⟨_, rfl, ?_⟩; have n0_ := Aside0.mk (below_step (by repeat (first | (with_reducible first | exact HB.out | apply below_alloc | apply pw_below_drewN | apply below_drew1) | exact HB.out)) hb); clear HB; have HB := n0_; clear n0_; (try clear hb); (try clear hb2); (try clear hk); (try clear hi)) | ((with_reducible refine gate_callee (f := 12) rfl ?_); refine goesL_ (some 37) rfl rfl Try.func12 (by kernel_rfl) rfl #[.string ((rd_T26 l0 x4_2).f0)] rfl (by (try simp only [List.map_toArray, List.map_cons, List.map_nil]); first | done | rfl | (simp only [List.length_drop, List.length_take]; rfl)) ?_; (with_reducible refine (stratumref03_Next.calls kj7 ((rd_T26 l0 x4_2).f0) t180 t181 _ A14.out).mono ?_); rintro e w32 ⟨rfl, hb⟩; refine ⟨_, rfl, ?_⟩; have n0_ := Aside0.mk (below_step (by repeat (first | (with_reducible first | exact HB.out | apply below_alloc | apply pw_below_drewN | apply below_drew1) | exact HB.out)) hb); clear HB; have HB := n0_; clear n0_; (try clear hb); (try clear hb2); (try clear hk); (try clear hi)))
                 have n0_ := Aside0.mk (below_drew1 HB.out)
                 clear HB
                 have HB := n0_
                 clear n0_
                 have p190 : 0 ≤ (x4_2 : Int) := of_decide_eq_true (by first | (with_reducible assumption) | assumption)
                 have q190 : x4_2 < (l0.length : Int) := of_decide_eq_true (by first | (with_reducible assumption) | assumption)
                 obtain ⟨ad190, e190, hx190_0, hx190_1⟩ := at_T26 HR0.out x4_2 p190 q190
                 have hw190_1 := hx190_1
                 have hw190_0 := hx190_0
                 obtain rfl : ad177 = ad190 := (by injection e190)
                 replace hx190_0 := (HB.out.cell (World.block_lt_of_cell? w _ hx190_0)).trans hx190_0
                 replace hx190_1 := (HB.out.cell (World.block_lt_of_cell? w _ hx190_1)).trans hx190_1
                 replace p190 := eq_true p190
                 replace q190 := eq_true q190
                 have p192 : 0 ≤ (x4_2 : Int) := of_decide_eq_true (by first | (with_reducible assumption) | assumption)
                 have q192 : x4_2 < (l0.length : Int) := of_decide_eq_true (by first | (with_reducible assumption) | assumption)
                 obtain ⟨ad192, e192, hx192_0, hx192_1⟩ := at_T26 HR0.out x4_2 p192 q192
                 have hw192_1 := hx192_1
                 have hw192_0 := hx192_0
                 obtain rfl : ad177 = ad192 := (by injection e192)
                 replace hx192_0 := (HB.out.cell (World.block_lt_of_cell? w _ hx192_0)).trans hx192_0
                 replace hx192_1 := (HB.out.cell (World.block_lt_of_cell? w _ hx192_1)).trans hx192_1
                 replace p192 := eq_true p192
                 replace q192 := eq_true q192
                 refine start_ (n := 52) (S := fun w' => w'.cell? (ad177.add ((x4_2).toNat * 2)) = some (.string ((rd_T26 l0 x4_2).f0)) ∧ w'.cell? ⟨(ad177.add ((x4_2).toNat * 2)).block, (ad177.add ((x4_2).toNat * 2)).off + 1, none⟩ = some (.int .i64 ((rd_T26 l0 x4_2).f1)) ∧ w'.cell? (ad177.add ((x4_2).toNat * 2)) = some (.string ((rd_T26 l0 x4_2).f0)) ∧ w'.cell? ⟨(ad177.add ((x4_2).toNat * 2)).block, (ad177.add ((x4_2).toNat * 2)).off + 1, none⟩ = some (.int .i64 ((rd_T26 l0 x4_2).f1))) (ds := []) #[fb,fb,fb,fb,fb,fb,fb,fb,fb,fb,fb,fb,fb,fb,fb,fb,fb,fb,fb,fb,fb,fb,fb,fb,fb,fb,fb,fb,fb,fb,fb,fb,fb,fb,fb,fb,fb,fb,fb,fb,fb,fb,fb,fb,fb,fb,fb,fb,fb,fb,fb,fb] (by kernel_rfl) rfl rfl ⟨((HB.out.cell (World.block_lt_of_cell? w _ hw190_0)).trans hw190_0), ((HB.out.cell (World.block_lt_of_cell? w _ hw190_1)).trans hw190_1), ((HB.out.cell (World.block_lt_of_cell? w _ hw192_0)).trans hw192_0), ((HB.out.cell (World.block_lt_of_cell? w _ hw192_1)).trans hw192_1)⟩ (fun hHeld => ?_); refine with_tabW stratumlaw03_UtfAll.tab10 stratumlaw03_UtfAll.bits10 (fun HT_ HW_ => ?_)
                 generalize w32.drew = w33 at HB hx190_0 hx190_1 hx192_0 hx192_1 hHeld ⊢
                 refine pure_ (i := 0) (N := some 40) (v := ?_) (a' := ?_) #[tb,fb,fb,fb,fb,fb,fb,fb,fb,fb,fb,fb,fb,fb,fb,fb,fb,fb,fb,fb,fb,fb,fb,fb,fb,fb,fb,fb,fb,fb,fb,fb,fb,fb,fb,fb,fb,fb,fb,fb,fb,fb,fb,fb,fb,fb,fb,fb,fb,fb,fb,fb] rfl rfl (any_of HT_.out (by kernel_rfl)) (fun _ _ _ h => h) (Or.inl ⟨by rfl, ?_⟩) ?_ ?_
                 rotate_left
                 ·intro w'
                  go_simp
                  with_reducible rfl
                 rotate_left
                 ·simp only [Act.put, sT, sZ, sS, i64_w, i32_w]
                  rfl
                 refine pure_ (i := 1) (N := some 41) (v := ?_) (a' := ?_) #[tb,tb,fb,fb,fb,fb,fb,fb,fb,fb,fb,fb,fb,fb,fb,fb,fb,fb,fb,fb,fb,fb,fb,fb,fb,fb,fb,fb,fb,fb,fb,fb,fb,fb,fb,fb,fb,fb,fb,fb,fb,fb,fb,fb,fb,fb,fb,fb,fb,fb,fb,fb] rfl rfl (any_of HT_.out (by kernel_rfl)) (fun _ _ _ h => h) (Or.inl ⟨by rfl, ?_⟩) ?_ ?_
                 rotate_left
                 ·intro w'
                  go_simp
                  with_reducible rfl
                 rotate_left
                 ·simp only [Act.put, sT, sZ, sS, i64_w, i32_w]
                  rfl
                 refine pure_ (i := 2) (N := some 42) (v := ?_) (a' := ?_) #[tb,tb,tb,fb,fb,fb,fb,fb,fb,fb,fb,fb,fb,fb,fb,fb,fb,fb,fb,fb,fb,fb,fb,fb,fb,fb,fb,fb,fb,fb,fb,fb,fb,fb,fb,fb,fb,fb,fb,fb,fb,fb,fb,fb,fb,fb,fb,fb,fb,fb,fb,fb] rfl rfl (any_of HT_.out (by kernel_rfl)) (fun _ _ _ h => h) (Or.inl ⟨by rfl, ?_⟩) ?_ ?_
                 rotate_left
                 ·intro w'
                  go_simp
                  with_reducible rfl
                 rotate_left
                 ·simp only [Act.put, sT, sZ, sS, i64_w, i32_w]
                  rfl
                 refine pure_ (i := 3) (N := some 43) (v := ?_) (a' := ?_) #[tb,tb,tb,tb,fb,fb,fb,fb,fb,fb,fb,fb,fb,fb,fb,fb,fb,fb,fb,fb,fb,fb,fb,fb,fb,fb,fb,fb,fb,fb,fb,fb,fb,fb,fb,fb,fb,fb,fb,fb,fb,fb,fb,fb,fb,fb,fb,fb,fb,fb,fb,fb] rfl rfl (any_of HT_.out (by kernel_rfl)) (fun _ _ _ h => h) (Or.inl ⟨by rfl, ?_⟩) ?_ ?_
                 rotate_left
                 ·intro w'
                  go_simp
                  with_reducible rfl
                 rotate_left
                 ·simp only [Act.put, sT, sZ, sS, i64_w, i32_w]
                  rfl
                 refine pure_ (i := 4) (N := some 44) (v := ?_) (a' := ?_) #[tb,tb,tb,tb,tb,fb,fb,fb,fb,fb,fb,fb,fb,fb,fb,fb,fb,fb,fb,fb,fb,fb,fb,fb,fb,fb,fb,fb,fb,fb,fb,fb,fb,fb,fb,fb,fb,fb,fb,fb,fb,fb,fb,fb,fb,fb,fb,fb,fb,fb,fb,fb] rfl rfl (any_of HT_.out (by kernel_rfl)) (fun _ _ _ h => h) (Or.inl ⟨by rfl, ?_⟩) ?_ ?_
                 rotate_left
                 ·intro w'
                  go_simp
                  with_reducible rfl
                 rotate_left
                 ·simp only [Act.put, sT, sZ, sS, i64_w, i32_w]
                  rfl
                 refine pure_ (i := 5) (N := some 45) (v := ?_) (a' := ?_) #[tb,tb,tb,tb,tb,tb,fb,fb,fb,fb,fb,fb,fb,fb,fb,fb,fb,fb,fb,fb,fb,fb,fb,fb,fb,fb,fb,fb,fb,fb,fb,fb,fb,fb,fb,fb,fb,fb,fb,fb,fb,fb,fb,fb,fb,fb,fb,fb,fb,fb,fb,fb] rfl rfl (any_of HT_.out (by kernel_rfl)) (fun _ _ _ h => h) (Or.inl ⟨by rfl, ?_⟩) ?_ ?_
                 rotate_left
                 ·intro w'
                  go_simp
                  with_reducible rfl
                 rotate_left
                 ·simp only [Act.put, sT, sZ, sS, i64_w, i32_w]
                  rfl
                 refine pure_ (i := 6) (N := some 46) (v := ?_) (a' := ?_) #[tb,tb,tb,tb,tb,tb,tb,fb,fb,fb,fb,fb,fb,fb,fb,fb,fb,fb,fb,fb,fb,fb,fb,fb,fb,fb,fb,fb,fb,fb,fb,fb,fb,fb,fb,fb,fb,fb,fb,fb,fb,fb,fb,fb,fb,fb,fb,fb,fb,fb,fb,fb] rfl rfl (any_of HT_.out (by kernel_rfl)) (fun _ _ _ h => h) (Or.inl ⟨by rfl, ?_⟩) ?_ ?_
                 rotate_left
                 ·intro w'
                  go_simp
                  with_reducible rfl
                 rotate_left
                 ·simp only [Act.put, sT, sZ, sS, i64_w, i32_w]
                  rfl
                 refine pure_ (i := 7) (N := some 47) (v := ?_) (a' := ?_) #[tb,tb,tb,tb,tb,tb,tb,tb,fb,fb,fb,fb,fb,fb,fb,fb,fb,fb,fb,fb,fb,fb,fb,fb,fb,fb,fb,fb,fb,fb,fb,fb,fb,fb,fb,fb,fb,fb,fb,fb,fb,fb,fb,fb,fb,fb,fb,fb,fb,fb,fb,fb] rfl rfl (any_of HT_.out (by kernel_rfl)) (fun _ _ _ h => h) (Or.inl ⟨by rfl, ?_⟩) ?_ ?_
                 rotate_left
                 ·intro w'
                  go_simp
                  with_reducible rfl
                 rotate_left
                 ·simp only [Act.put, sT, sZ, sS, i64_w, i32_w]
                  rfl
                 refine pure_ (i := 8) (N := some 48) (v := ?_) (a' := ?_) #[tb,tb,tb,tb,tb,tb,tb,tb,tb,fb,fb,fb,fb,fb,fb,fb,fb,fb,fb,fb,fb,fb,fb,fb,fb,fb,fb,fb,fb,fb,fb,fb,fb,fb,fb,fb,fb,fb,fb,fb,fb,fb,fb,fb,fb,fb,fb,fb,fb,fb,fb,fb] rfl rfl (any_of HT_.out (by kernel_rfl)) (fun _ _ _ h => h) (Or.inl ⟨by rfl, ?_⟩) ?_ ?_
                 rotate_left
                 ·intro w'
                  go_simp
                  with_reducible rfl
                 rotate_left
                 ·simp only [Act.put, sT, sZ, sS, i64_w, i32_w]
                  rfl
                 refine pure_ (i := 9) (N := some 49) (v := ?_) (a' := ?_) #[tb,tb,tb,tb,tb,tb,tb,tb,tb,tb,fb,fb,fb,fb,fb,fb,fb,fb,fb,fb,fb,fb,fb,fb,fb,fb,fb,fb,fb,fb,fb,fb,fb,fb,fb,fb,fb,fb,fb,fb,fb,fb,fb,fb,fb,fb,fb,fb,fb,fb,fb,fb] rfl rfl (any_of HT_.out (by kernel_rfl)) (fun _ _ _ h => h) (Or.inl ⟨by rfl, ?_⟩) ?_ ?_
                 rotate_left
                 ·intro w'
                  go_simp
                  with_reducible rfl
                 rotate_left
                 ·simp only [Act.put, sT, sZ, sS, i64_w, i32_w]
                  rfl
                 refine pure_ (i := 11) (N := some 51) (v := ?_) (a' := ?_) #[tb,tb,tb,tb,tb,tb,tb,tb,tb,tb,fb,tb,fb,fb,fb,fb,fb,fb,fb,fb,fb,fb,fb,fb,fb,fb,fb,fb,fb,fb,fb,fb,fb,fb,fb,fb,fb,fb,fb,fb,fb,fb,fb,fb,fb,fb,fb,fb,fb,fb,fb,fb] rfl rfl (any_of HT_.out (by kernel_rfl)) (fun _ _ _ h => h) (Or.inl ⟨by rfl, ?_⟩) ?_ ?_
                 rotate_left
                 ·intro w'
                  go_simp
                  with_reducible rfl
                 rotate_left
                 ·simp only [Act.put, sT, sZ, sS, i64_w, i32_w]
                  rfl
                 refine one_ (i := 10) (N := some 50) #[tb,tb,tb,tb,tb,tb,tb,tb,tb,tb,tb,tb,fb,fb,fb,fb,fb,fb,fb,fb,fb,fb,fb,fb,fb,fb,fb,fb,fb,fb,fb,fb,fb,fb,fb,fb,fb,fb,fb,fb,fb,fb,fb,fb,fb,fb,fb,fb,fb,fb,fb,fb] rfl rfl (one_of HT_.out (by kernel_rfl)) (by decide) (fun K hK => ?_)
                 refine goes_ Try.func13 (by kernel_rfl) rfl #[.string ((rd_T26 l0 x4_2).f0)] (by rfl) rfl rfl (by (try simp only [List.map_toArray, List.map_cons, List.map_nil]); first | done | rfl | (simp only [List.length_drop, List.length_take]; rfl)) ?_
                 with_reducible refine (utf_Fault.calls kj7 ((rd_T26 l0 x4_2).f0) t182 _ A17.out).mono ?_
                 rintro e w34 ⟨rfl, hb⟩
                 refine ⟨_, rfl, ?_⟩
                 have n0_ := Aside0.mk (below_step (by repeat (first | (with_reducible first | exact HB.out | apply below_alloc | apply pw_below_drewN | apply below_drew1) | exact HB.out)) hb)
                 clear HB
                 have HB := n0_
                 clear n0_
                 (try clear hb)
                 (try clear hb2)
                 (try clear hk)
                 (try clear hi)
                 refine hK.out _ _ ⟨((HB.out.cell (World.block_lt_of_cell? w _ hw190_0)).trans hw190_0), ((HB.out.cell (World.block_lt_of_cell? w _ hw190_1)).trans hw190_1), ((HB.out.cell (World.block_lt_of_cell? w _ hw192_0)).trans hw192_0), ((HB.out.cell (World.block_lt_of_cell? w _ hw192_1)).trans hw192_1)⟩ (fun hHeld => ?_)
                 clear hK K
                 refine norm_ (a' := ?_) ?_ ?_
                 rotate_left
                 ·show Act.put _ (some 50) _ = _
                  simp only [Act.put, sT, sZ, sS, i64_w, i32_w]
                  rfl
                 refine one_ (i := 12) (N := some 52) #[tb,tb,tb,tb,tb,tb,tb,tb,tb,tb,tb,tb,tb,fb,fb,fb,fb,fb,fb,fb,fb,fb,fb,fb,fb,fb,fb,fb,fb,fb,fb,fb,fb,fb,fb,fb,fb,fb,fb,fb,fb,fb,fb,fb,fb,fb,fb,fb,fb,fb,fb,fb] rfl rfl (one_of HT_.out (by kernel_rfl)) (by decide) (fun K hK => ?_)
                 refine goes_ Try.func14 (by kernel_rfl) rfl #[.string ((rd_T26 l0 x4_2).f0)] (by rfl) rfl rfl (by (try simp only [List.map_toArray, List.map_cons, List.map_nil]); first | done | rfl | (simp only [List.length_drop, List.length_take]; rfl)) ?_
                 with_reducible refine (stratumref03_Fault.calls kj7 ((rd_T26 l0 x4_2).f0) t183 _ A18.out).mono ?_
                 rintro e w35 ⟨rfl, hb⟩
                 refine ⟨_, rfl, ?_⟩
                 have n0_ := Aside0.mk (below_step (by repeat (first | (with_reducible first | exact HB.out | apply below_alloc | apply pw_below_drewN | apply below_drew1) | exact HB.out)) hb)
                 clear HB
                 have HB := n0_
                 clear n0_
                 (try clear hb)
                 (try clear hb2)
                 (try clear hk)
                 (try clear hi)
                 refine hK.out _ _ ⟨((HB.out.cell (World.block_lt_of_cell? w _ hw190_0)).trans hw190_0), ((HB.out.cell (World.block_lt_of_cell? w _ hw190_1)).trans hw190_1), ((HB.out.cell (World.block_lt_of_cell? w _ hw192_0)).trans hw192_0), ((HB.out.cell (World.block_lt_of_cell? w _ hw192_1)).trans hw192_1)⟩ (fun hHeld => ?_)
                 clear hK K
                 refine norm_ (a' := ?_) ?_ ?_
                 rotate_left
                 ·show Act.put _ (some 52) _ = _
                  simp only [Act.put, sT, sZ, sS, i64_w, i32_w]
                  rfl
                 refine pure_ (i := 13) (N := some 53) (v := ?_) (a' := ?_) #[tb,tb,tb,tb,tb,tb,tb,tb,tb,tb,tb,tb,tb,tb,fb,fb,fb,fb,fb,fb,fb,fb,fb,fb,fb,fb,fb,fb,fb,fb,fb,fb,fb,fb,fb,fb,fb,fb,fb,fb,fb,fb,fb,fb,fb,fb,fb,fb,fb,fb,fb,fb] rfl rfl (any_of HT_.out (by kernel_rfl)) (fun _ _ _ h => h) (Or.inl ⟨by rfl, ?_⟩) ?_ ?_
                 rotate_left
                 ·intro w'
                  go_simp
                  with_reducible rfl
                 rotate_left
                 ·simp only [Act.put, sT, sZ, sS, i64_w, i32_w]
                  rfl
                 refine pure_ (i := 14) (N := some 54) (v := ?_) (a' := ?_) #[tb,tb,tb,tb,tb,tb,tb,tb,tb,tb,tb,tb,tb,tb,tb,fb,fb,fb,fb,fb,fb,fb,fb,fb,fb,fb,fb,fb,fb,fb,fb,fb,fb,fb,fb,fb,fb,fb,fb,fb,fb,fb,fb,fb,fb,fb,fb,fb,fb,fb,fb,fb] rfl rfl (any_of HT_.out (by kernel_rfl)) (fun _ _ _ h => h) (Or.inl ⟨by rfl, ?_⟩) ?_ ?_
                 rotate_left
                 ·intro w'
                  go_simp
                  with_reducible rfl
                 rotate_left
                 ·simp only [Act.put, sT, sZ, sS, i64_w, i32_w]
                  rfl
                 refine pure_ (i := 15) (N := some 55) (v := ?_) (a' := ?_) #[tb,tb,tb,tb,tb,tb,tb,tb,tb,tb,tb,tb,tb,tb,tb,tb,fb,fb,fb,fb,fb,fb,fb,fb,fb,fb,fb,fb,fb,fb,fb,fb,fb,fb,fb,fb,fb,fb,fb,fb,fb,fb,fb,fb,fb,fb,fb,fb,fb,fb,fb,fb] rfl rfl (any_of HT_.out (by kernel_rfl)) (fun _ _ _ h => h) (Or.inl ⟨by rfl, ?_⟩) ?_ ?_
                 rotate_left
                 ·intro w'
                  go_simp
                  with_reducible rfl
                 rotate_left
                 ·simp only [Act.put, sT, sZ, sS, i64_w, i32_w]
                  rfl
                 refine pure_ (i := 16) (N := some 56) (v := ?_) (a' := ?_) #[tb,tb,tb,tb,tb,tb,tb,tb,tb,tb,tb,tb,tb,tb,tb,tb,tb,fb,fb,fb,fb,fb,fb,fb,fb,fb,fb,fb,fb,fb,fb,fb,fb,fb,fb,fb,fb,fb,fb,fb,fb,fb,fb,fb,fb,fb,fb,fb,fb,fb,fb,fb] rfl rfl (any_of HT_.out (by kernel_rfl)) (fun _ _ _ h => h) (Or.inl ⟨by rfl, ?_⟩) ?_ ?_
                 rotate_left
                 ·intro w'
                  go_simp
                  with_reducible rfl
                 rotate_left
                 ·simp only [Act.put, sT, sZ, sS, i64_w, i32_w]
                  rfl
                 refine pure_ (i := 18) (N := some 58) (v := ?_) (a' := ?_) #[tb,tb,tb,tb,tb,tb,tb,tb,tb,tb,tb,tb,tb,tb,tb,tb,tb,fb,tb,fb,fb,fb,fb,fb,fb,fb,fb,fb,fb,fb,fb,fb,fb,fb,fb,fb,fb,fb,fb,fb,fb,fb,fb,fb,fb,fb,fb,fb,fb,fb,fb,fb] rfl rfl (any_of HT_.out (by kernel_rfl)) (fun _ _ _ h => h) (Or.inl ⟨by rfl, ?_⟩) ?_ ?_
                 rotate_left
                 ·intro w'
                  go_simp
                  with_reducible rfl
                 rotate_left
                 ·simp only [Act.put, sT, sZ, sS, i64_w, i32_w]
                  rfl
                 refine one_ (i := 17) (N := some 57) #[tb,tb,tb,tb,tb,tb,tb,tb,tb,tb,tb,tb,tb,tb,tb,tb,tb,tb,tb,fb,fb,fb,fb,fb,fb,fb,fb,fb,fb,fb,fb,fb,fb,fb,fb,fb,fb,fb,fb,fb,fb,fb,fb,fb,fb,fb,fb,fb,fb,fb,fb,fb] rfl rfl (one_of HT_.out (by kernel_rfl)) (by decide) (fun K hK => ?_)
                 refine goes_ Try.func15 (by kernel_rfl) rfl #[.string ((rd_T26 l0 x4_2).f0)] (by rfl) rfl rfl (by (try simp only [List.map_toArray, List.map_cons, List.map_nil]); first | done | rfl | (simp only [List.length_drop, List.length_take]; rfl)) ?_
                 with_reducible refine (utf_Valid.calls kj7 ((rd_T26 l0 x4_2).f0) t184 _ A20.out).mono ?_
                 rintro e w36 ⟨rfl, hb⟩
                 refine ⟨_, rfl, ?_⟩
                 have n0_ := Aside0.mk (below_step (by repeat (first | (with_reducible first | exact HB.out | apply below_alloc | apply pw_below_drewN | apply below_drew1) | exact HB.out)) hb)
                 clear HB
                 have HB := n0_
                 clear n0_
                 (try clear hb)
                 (try clear hb2)
                 (try clear hk)
                 (try clear hi)
                 refine hK.out _ _ ⟨((HB.out.cell (World.block_lt_of_cell? w _ hw190_0)).trans hw190_0), ((HB.out.cell (World.block_lt_of_cell? w _ hw190_1)).trans hw190_1), ((HB.out.cell (World.block_lt_of_cell? w _ hw192_0)).trans hw192_0), ((HB.out.cell (World.block_lt_of_cell? w _ hw192_1)).trans hw192_1)⟩ (fun hHeld => ?_)
                 clear hK K
                 refine norm_ (a' := ?_) ?_ ?_
                 rotate_left
                 ·show Act.put _ (some 57) _ = _
                  simp only [Act.put, sT, sZ, sS, i64_w, i32_w]
                  rfl
                 refine one_ (i := 19) (N := some 59) #[tb,tb,tb,tb,tb,tb,tb,tb,tb,tb,tb,tb,tb,tb,tb,tb,tb,tb,tb,tb,fb,fb,fb,fb,fb,fb,fb,fb,fb,fb,fb,fb,fb,fb,fb,fb,fb,fb,fb,fb,fb,fb,fb,fb,fb,fb,fb,fb,fb,fb,fb,fb] rfl rfl (one_of HT_.out (by kernel_rfl)) (by decide) (fun K hK => ?_)
                 refine goes_ Try.func16 (by kernel_rfl) rfl #[.string ((rd_T26 l0 x4_2).f0)] (by rfl) rfl rfl (by (try simp only [List.map_toArray, List.map_cons, List.map_nil]); first | done | rfl | (simp only [List.length_drop, List.length_take]; rfl)) ?_
                 with_reducible refine (stratumref03_Valid.calls kj7 ((rd_T26 l0 x4_2).f0) t185 _ A21.out).mono ?_
                 rintro e w37 ⟨rfl, hb⟩
                 refine ⟨_, rfl, ?_⟩
                 have n0_ := Aside0.mk (below_step (by repeat (first | (with_reducible first | exact HB.out | apply below_alloc | apply pw_below_drewN | apply below_drew1) | exact HB.out)) hb)
                 clear HB
                 have HB := n0_
                 clear n0_
                 (try clear hb)
                 (try clear hb2)
                 (try clear hk)
                 (try clear hi)
                 refine hK.out _ _ ⟨((HB.out.cell (World.block_lt_of_cell? w _ hw190_0)).trans hw190_0), ((HB.out.cell (World.block_lt_of_cell? w _ hw190_1)).trans hw190_1), ((HB.out.cell (World.block_lt_of_cell? w _ hw192_0)).trans hw192_0), ((HB.out.cell (World.block_lt_of_cell? w _ hw192_1)).trans hw192_1)⟩ (fun hHeld => ?_)
                 clear hK K
                 refine norm_ (a' := ?_) ?_ ?_
                 rotate_left
                 ·show Act.put _ (some 59) _ = _
                  simp only [Act.put, sT, sZ, sS, i64_w, i32_w]
                  rfl
                 refine pure_ (i := 20) (N := some 60) (v := ?_) (a' := ?_) #[tb,tb,tb,tb,tb,tb,tb,tb,tb,tb,tb,tb,tb,tb,tb,tb,tb,tb,tb,tb,tb,fb,fb,fb,fb,fb,fb,fb,fb,fb,fb,fb,fb,fb,fb,fb,fb,fb,fb,fb,fb,fb,fb,fb,fb,fb,fb,fb,fb,fb,fb,fb] rfl rfl (any_of HT_.out (by kernel_rfl)) (fun _ _ _ h => h) (Or.inl ⟨by rfl, ?_⟩) ?_ ?_
                 rotate_left
                 ·intro w'
                  go_simp
                  with_reducible rfl
                 rotate_left
                 ·simp only [Act.put, sT, sZ, sS, i64_w, i32_w]
                  rfl
                 refine pure_ (i := 21) (N := some 61) (v := ?_) (a' := ?_) #[tb,tb,tb,tb,tb,tb,tb,tb,tb,tb,tb,tb,tb,tb,tb,tb,tb,tb,tb,tb,tb,tb,fb,fb,fb,fb,fb,fb,fb,fb,fb,fb,fb,fb,fb,fb,fb,fb,fb,fb,fb,fb,fb,fb,fb,fb,fb,fb,fb,fb,fb,fb] rfl rfl (any_of HT_.out (by kernel_rfl)) (fun _ _ _ h => h) (Or.inl ⟨by rfl, ?_⟩) ?_ ?_
                 rotate_left
                 ·intro w'
                  go_simp
                  with_reducible rfl
                 rotate_left
                 ·simp only [Act.put, sT, sZ, sS, i64_w, i32_w]
                  rfl
                 refine pure_ (i := 22) (N := some 62) (v := ?_) (a' := ?_) #[tb,tb,tb,tb,tb,tb,tb,tb,tb,tb,tb,tb,tb,tb,tb,tb,tb,tb,tb,tb,tb,tb,tb,fb,fb,fb,fb,fb,fb,fb,fb,fb,fb,fb,fb,fb,fb,fb,fb,fb,fb,fb,fb,fb,fb,fb,fb,fb,fb,fb,fb,fb] rfl rfl (any_of HT_.out (by kernel_rfl)) (fun _ _ _ h => h) (Or.inl ⟨by rfl, ?_⟩) ?_ ?_
                 rotate_left
                 ·intro w'
                  go_simp
                  with_reducible rfl
                 rotate_left
                 ·simp only [Act.put, sT, sZ, sS, i64_w, i32_w]
                  rfl
                 refine pure_ (i := 23) (N := some 63) (v := ?_) (a' := ?_) #[tb,tb,tb,tb,tb,tb,tb,tb,tb,tb,tb,tb,tb,tb,tb,tb,tb,tb,tb,tb,tb,tb,tb,tb,fb,fb,fb,fb,fb,fb,fb,fb,fb,fb,fb,fb,fb,fb,fb,fb,fb,fb,fb,fb,fb,fb,fb,fb,fb,fb,fb,fb] rfl rfl (any_of HT_.out (by kernel_rfl)) (fun _ _ _ h => h) (Or.inl ⟨by rfl, ?_⟩) ?_ ?_
                 rotate_left
                 ·intro w'
                  go_simp
                  with_reducible rfl
                 rotate_left
                 ·simp only [Act.put, sT, sZ, sS, i64_w, i32_w]
                  rfl
                 refine pure_ (i := 25) (N := some 65) (v := ?_) (a' := ?_) #[tb,tb,tb,tb,tb,tb,tb,tb,tb,tb,tb,tb,tb,tb,tb,tb,tb,tb,tb,tb,tb,tb,tb,tb,fb,tb,fb,fb,fb,fb,fb,fb,fb,fb,fb,fb,fb,fb,fb,fb,fb,fb,fb,fb,fb,fb,fb,fb,fb,fb,fb,fb] rfl rfl (any_of HT_.out (by kernel_rfl)) (fun _ _ _ h => h) (Or.inl ⟨by rfl, ?_⟩) ?_ ?_
                 rotate_left
                 ·intro w'
                  go_simp
                  with_reducible rfl
                 rotate_left
                 ·simp only [Act.put, sT, sZ, sS, i64_w, i32_w]
                  rfl
                 refine one_ (i := 24) (N := some 64) #[tb,tb,tb,tb,tb,tb,tb,tb,tb,tb,tb,tb,tb,tb,tb,tb,tb,tb,tb,tb,tb,tb,tb,tb,tb,tb,fb,fb,fb,fb,fb,fb,fb,fb,fb,fb,fb,fb,fb,fb,fb,fb,fb,fb,fb,fb,fb,fb,fb,fb,fb,fb] rfl rfl (one_of HT_.out (by kernel_rfl)) (by decide) (fun K hK => ?_)
                 refine goes_ Try.func17 (by kernel_rfl) rfl #[.string ((rd_T26 l0 x4_2).f0)] (by rfl) rfl rfl (by (try simp only [List.map_toArray, List.map_cons, List.map_nil]); first | done | rfl | (simp only [List.length_drop, List.length_take]; rfl)) ?_
                 with_reducible refine (utf_Count.calls kj7 ((rd_T26 l0 x4_2).f0) t186 _ A23.out).mono ?_
                 rintro e w38 ⟨rfl, hb⟩
                 refine ⟨_, rfl, ?_⟩
                 have n0_ := Aside0.mk (below_step (by repeat (first | (with_reducible first | exact HB.out | apply below_alloc | apply pw_below_drewN | apply below_drew1) | exact HB.out)) hb)
                 clear HB
                 have HB := n0_
                 clear n0_
                 (try clear hb)
                 (try clear hb2)
                 (try clear hk)
                 (try clear hi)
                 refine hK.out _ _ ⟨((HB.out.cell (World.block_lt_of_cell? w _ hw190_0)).trans hw190_0), ((HB.out.cell (World.block_lt_of_cell? w _ hw190_1)).trans hw190_1), ((HB.out.cell (World.block_lt_of_cell? w _ hw192_0)).trans hw192_0), ((HB.out.cell (World.block_lt_of_cell? w _ hw192_1)).trans hw192_1)⟩ (fun hHeld => ?_)
                 clear hK K
                 refine norm_ (a' := ?_) ?_ ?_
                 rotate_left
                 ·show Act.put _ (some 64) _ = _
                  simp only [Act.put, sT, sZ, sS, i64_w, i32_w]
                  rfl
                 refine one_ (i := 26) (N := some 66) #[tb,tb,tb,tb,tb,tb,tb,tb,tb,tb,tb,tb,tb,tb,tb,tb,tb,tb,tb,tb,tb,tb,tb,tb,tb,tb,tb,fb,fb,fb,fb,fb,fb,fb,fb,fb,fb,fb,fb,fb,fb,fb,fb,fb,fb,fb,fb,fb,fb,fb,fb,fb] rfl rfl (one_of HT_.out (by kernel_rfl)) (by decide) (fun K hK => ?_)
                 refine goes_ Try.func18 (by kernel_rfl) rfl #[.string ((rd_T26 l0 x4_2).f0)] (by rfl) rfl rfl (by (try simp only [List.map_toArray, List.map_cons, List.map_nil]); first | done | rfl | (simp only [List.length_drop, List.length_take]; rfl)) ?_
                 with_reducible refine (stratumref03_Count.calls kj7 ((rd_T26 l0 x4_2).f0) t187 _ A24.out).mono ?_
                 rintro e w39 ⟨rfl, hb⟩
                 refine ⟨_, rfl, ?_⟩
                 have n0_ := Aside0.mk (below_step (by repeat (first | (with_reducible first | exact HB.out | apply below_alloc | apply pw_below_drewN | apply below_drew1) | exact HB.out)) hb)
                 clear HB
                 have HB := n0_
                 clear n0_
                 (try clear hb)
                 (try clear hb2)
                 (try clear hk)
                 (try clear hi)
                 refine hK.out _ _ ⟨((HB.out.cell (World.block_lt_of_cell? w _ hw190_0)).trans hw190_0), ((HB.out.cell (World.block_lt_of_cell? w _ hw190_1)).trans hw190_1), ((HB.out.cell (World.block_lt_of_cell? w _ hw192_0)).trans hw192_0), ((HB.out.cell (World.block_lt_of_cell? w _ hw192_1)).trans hw192_1)⟩ (fun hHeld => ?_)
                 clear hK K
                 refine norm_ (a' := ?_) ?_ ?_
                 rotate_left
                 ·show Act.put _ (some 66) _ = _
                  simp only [Act.put, sT, sZ, sS, i64_w, i32_w]
                  rfl
                 refine pure_ (i := 27) (N := some 67) (v := ?_) (a' := ?_) #[tb,tb,tb,tb,tb,tb,tb,tb,tb,tb,tb,tb,tb,tb,tb,tb,tb,tb,tb,tb,tb,tb,tb,tb,tb,tb,tb,tb,fb,fb,fb,fb,fb,fb,fb,fb,fb,fb,fb,fb,fb,fb,fb,fb,fb,fb,fb,fb,fb,fb,fb,fb] rfl rfl (any_of HT_.out (by kernel_rfl)) (fun _ _ _ h => h) (Or.inl ⟨by rfl, ?_⟩) ?_ ?_
                 rotate_left
                 ·intro w'
                  go_simp
                  with_reducible rfl
                 rotate_left
                 ·simp only [Act.put, sT, sZ, sS, i64_w, i32_w]
                  rfl
                 refine pure_ (i := 28) (N := some 68) (v := ?_) (a' := ?_) #[tb,tb,tb,tb,tb,tb,tb,tb,tb,tb,tb,tb,tb,tb,tb,tb,tb,tb,tb,tb,tb,tb,tb,tb,tb,tb,tb,tb,tb,fb,fb,fb,fb,fb,fb,fb,fb,fb,fb,fb,fb,fb,fb,fb,fb,fb,fb,fb,fb,fb,fb,fb] rfl rfl (any_of HT_.out (by kernel_rfl)) (fun _ _ _ h => h) (Or.inl ⟨by rfl, ?_⟩) ?_ ?_
                 rotate_left
                 ·intro w'
                  go_simp
                  with_reducible rfl
                 rotate_left
                 ·simp only [Act.put, sT, sZ, sS, i64_w, i32_w]
                  rfl
                 refine pure_ (i := 29) (N := some 69) (v := ?_) (a' := ?_) #[tb,tb,tb,tb,tb,tb,tb,tb,tb,tb,tb,tb,tb,tb,tb,tb,tb,tb,tb,tb,tb,tb,tb,tb,tb,tb,tb,tb,tb,tb,fb,fb,fb,fb,fb,fb,fb,fb,fb,fb,fb,fb,fb,fb,fb,fb,fb,fb,fb,fb,fb,fb] rfl rfl (any_of HT_.out (by kernel_rfl)) (fun _ _ _ h => h) (Or.inl ⟨by rfl, ?_⟩) ?_ ?_
                 rotate_left
                 ·intro w'
                  go_simp
                  with_reducible rfl
                 rotate_left
                 ·simp only [Act.put, sT, sZ, sS, i64_w, i32_w]
                  rfl
                 refine pure_ (i := 30) (N := some 70) (v := ?_) (a' := ?_) #[tb,tb,tb,tb,tb,tb,tb,tb,tb,tb,tb,tb,tb,tb,tb,tb,tb,tb,tb,tb,tb,tb,tb,tb,tb,tb,tb,tb,tb,tb,tb,fb,fb,fb,fb,fb,fb,fb,fb,fb,fb,fb,fb,fb,fb,fb,fb,fb,fb,fb,fb,fb] rfl rfl (any_of HT_.out (by kernel_rfl)) (fun _ _ _ h => h) (Or.inl ⟨by rfl, ?_⟩) ?_ ?_
                 rotate_left
                 ·intro w'
                  go_simp
                  with_reducible rfl
                 rotate_left
                 ·simp only [Act.put, sT, sZ, sS, i64_w, i32_w]
                  rfl
                 refine pure_ (i := 32) (N := some 72) (v := ?_) (a' := ?_) #[tb,tb,tb,tb,tb,tb,tb,tb,tb,tb,tb,tb,tb,tb,tb,tb,tb,tb,tb,tb,tb,tb,tb,tb,tb,tb,tb,tb,tb,tb,tb,fb,tb,fb,fb,fb,fb,fb,fb,fb,fb,fb,fb,fb,fb,fb,fb,fb,fb,fb,fb,fb] rfl rfl (any_of HT_.out (by kernel_rfl)) (fun _ _ _ h => h) (Or.inl ⟨by rfl, ?_⟩) ?_ ?_
                 rotate_left
                 ·intro w'
                  go_simp
                  with_reducible rfl
                 rotate_left
                 ·simp only [Act.put, sT, sZ, sS, i64_w, i32_w]
                  rfl
                 refine one_ (i := 31) (N := some 71) #[tb,tb,tb,tb,tb,tb,tb,tb,tb,tb,tb,tb,tb,tb,tb,tb,tb,tb,tb,tb,tb,tb,tb,tb,tb,tb,tb,tb,tb,tb,tb,tb,tb,fb,fb,fb,fb,fb,fb,fb,fb,fb,fb,fb,fb,fb,fb,fb,fb,fb,fb,fb] rfl rfl (one_of HT_.out (by kernel_rfl)) (by decide) (fun K hK => ?_)
                 refine goes_ Try.func19 (by kernel_rfl) rfl #[.string ((rd_T26 l0 x4_2).f0)] (by rfl) rfl rfl (by (try simp only [List.map_toArray, List.map_cons, List.map_nil]); first | done | rfl | (simp only [List.length_drop, List.length_take]; rfl)) ?_
                 with_reducible refine (utf_Mend.calls ((rd_T26 l0 x4_2).f0) t188 _ A26.out).mono ?_
                 rintro e w40 ⟨rfl, hb⟩
                 refine ⟨_, rfl, ?_⟩
                 have n0_ := Aside0.mk (below_step (by repeat (first | (with_reducible first | exact HB.out | apply below_alloc | apply pw_below_drewN | apply below_drew1) | exact HB.out)) hb)
                 clear HB
                 have HB := n0_
                 clear n0_
                 (try clear hb)
                 (try clear hb2)
                 (try clear hk)
                 (try clear hi)
                 refine hK.out _ _ ⟨((HB.out.cell (World.block_lt_of_cell? w _ hw190_0)).trans hw190_0), ((HB.out.cell (World.block_lt_of_cell? w _ hw190_1)).trans hw190_1), ((HB.out.cell (World.block_lt_of_cell? w _ hw192_0)).trans hw192_0), ((HB.out.cell (World.block_lt_of_cell? w _ hw192_1)).trans hw192_1)⟩ (fun hHeld => ?_)
                 clear hK K
                 refine norm_ (a' := ?_) ?_ ?_
                 rotate_left
                 ·show Act.put _ (some 71) _ = _
                  simp only [Act.put, sT, sZ, sS, i64_w, i32_w]
                  rfl
                 refine one_ (i := 33) (N := some 73) #[tb,tb,tb,tb,tb,tb,tb,tb,tb,tb,tb,tb,tb,tb,tb,tb,tb,tb,tb,tb,tb,tb,tb,tb,tb,tb,tb,tb,tb,tb,tb,tb,tb,tb,fb,fb,fb,fb,fb,fb,fb,fb,fb,fb,fb,fb,fb,fb,fb,fb,fb,fb] rfl rfl (one_of HT_.out (by kernel_rfl)) (by decide) (fun K hK => ?_)
                 refine goes_ Try.func20 (by kernel_rfl) rfl #[.string ((rd_T26 l0 x4_2).f0)] (by rfl) rfl rfl (by (try simp only [List.map_toArray, List.map_cons, List.map_nil]); first | done | rfl | (simp only [List.length_drop, List.length_take]; rfl)) ?_
                 with_reducible refine (stratumref03_Mend.calls kj7 ((rd_T26 l0 x4_2).f0) t189 _ A27.out).mono ?_
                 rintro e w41 ⟨rfl, hb⟩
                 refine ⟨_, rfl, ?_⟩
                 have n0_ := Aside0.mk (below_step (by repeat (first | (with_reducible first | exact HB.out | apply below_alloc | apply pw_below_drewN | apply below_drew1) | exact HB.out)) hb)
                 clear HB
                 have HB := n0_
                 clear n0_
                 (try clear hb)
                 (try clear hb2)
                 (try clear hk)
                 (try clear hi)
                 refine hK.out _ _ ⟨((HB.out.cell (World.block_lt_of_cell? w _ hw190_0)).trans hw190_0), ((HB.out.cell (World.block_lt_of_cell? w _ hw190_1)).trans hw190_1), ((HB.out.cell (World.block_lt_of_cell? w _ hw192_0)).trans hw192_0), ((HB.out.cell (World.block_lt_of_cell? w _ hw192_1)).trans hw192_1)⟩ (fun hHeld => ?_)
                 clear hK K
                 refine norm_ (a' := ?_) ?_ ?_
                 rotate_left
                 ·show Act.put _ (some 73) _ = _
                  simp only [Act.put, sT, sZ, sS, i64_w, i32_w]
                  rfl
                 refine pure_ (i := 34) (N := some 74) (v := ?_) (a' := ?_) #[tb,tb,tb,tb,tb,tb,tb,tb,tb,tb,tb,tb,tb,tb,tb,tb,tb,tb,tb,tb,tb,tb,tb,tb,tb,tb,tb,tb,tb,tb,tb,tb,tb,tb,tb,fb,fb,fb,fb,fb,fb,fb,fb,fb,fb,fb,fb,fb,fb,fb,fb,fb] rfl rfl (any_of HT_.out (by kernel_rfl)) (fun _ _ _ h => h) (Or.inl ⟨by rfl, ?_⟩) ?_ ?_
                 rotate_left
                 ·intro w'
                  go_simp
                  with_reducible rfl
                 rotate_left
                 ·simp only [Act.put, sT, sZ, sS, i64_w, i32_w]
                  rfl
                 refine pure_ (i := 35) (N := some 75) (v := ?_) (a' := ?_) #[tb,tb,tb,tb,tb,tb,tb,tb,tb,tb,tb,tb,tb,tb,tb,tb,tb,tb,tb,tb,tb,tb,tb,tb,tb,tb,tb,tb,tb,tb,tb,tb,tb,tb,tb,tb,fb,fb,fb,fb,fb,fb,fb,fb,fb,fb,fb,fb,fb,fb,fb,fb] rfl rfl (any_of HT_.out (by kernel_rfl)) (fun _ _ _ h => h) (Or.inl ⟨by rfl, ?_⟩) ?_ ?_
                 rotate_left
                 ·intro w'
                  go_simp
                  with_reducible rfl
                 rotate_left
                 ·simp only [Act.put, sT, sZ, sS, i64_w, i32_w]
                  rfl
                 refine pure_ (i := 36) (N := some 76) (v := ?_) (a' := ?_) #[tb,tb,tb,tb,tb,tb,tb,tb,tb,tb,tb,tb,tb,tb,tb,tb,tb,tb,tb,tb,tb,tb,tb,tb,tb,tb,tb,tb,tb,tb,tb,tb,tb,tb,tb,tb,tb,fb,fb,fb,fb,fb,fb,fb,fb,fb,fb,fb,fb,fb,fb,fb] rfl rfl (any_of HT_.out (by kernel_rfl)) (fun _ _ _ h => h) (Or.inl ⟨by rfl, ?_⟩) ?_ ?_
                 rotate_left
                 ·intro w'
                  go_simp
                  with_reducible rfl
                 rotate_left
                 ·simp only [Act.put, sT, sZ, sS, i64_w, i32_w]
                  rfl
                 refine pure_ (i := 37) (N := some 77) (v := ?_) (a' := ?_) #[tb,tb,tb,tb,tb,tb,tb,tb,tb,tb,tb,tb,tb,tb,tb,tb,tb,tb,tb,tb,tb,tb,tb,tb,tb,tb,tb,tb,tb,tb,tb,tb,tb,tb,tb,tb,tb,tb,fb,fb,fb,fb,fb,fb,fb,fb,fb,fb,fb,fb,fb,fb] rfl rfl (any_of HT_.out (by kernel_rfl)) (fun _ _ _ h => h) (Or.inl ⟨by rfl, ?_⟩) ?_ ?_
                 rotate_left
                 ·intro w'
                  go_simp
                  with_reducible rfl
                 rotate_left
                 ·simp only [Act.put, sT, sZ, sS, i64_w, i32_w]
                  rfl
                 refine pure_ (i := 38) (N := some 78) (v := ?_) (a' := ?_) #[tb,tb,tb,tb,tb,tb,tb,tb,tb,tb,tb,tb,tb,tb,tb,tb,tb,tb,tb,tb,tb,tb,tb,tb,tb,tb,tb,tb,tb,tb,tb,tb,tb,tb,tb,tb,tb,tb,tb,fb,fb,fb,fb,fb,fb,fb,fb,fb,fb,fb,fb,fb] rfl rfl (any_of HT_.out (by kernel_rfl)) (fun _ _ _ h => h) (Or.inl ⟨by rfl, ?_⟩) ?_ ?_
                 rotate_left
                 ·intro w'
                  go_simp
                  with_reducible rfl
                 rotate_left
                 ·simp only [Act.put, sT, sZ, sS, i64_w, i32_w]
                  rfl
                 refine pure_ (i := 39) (N := some 79) (v := ?_) (a' := ?_) #[tb,tb,tb,tb,tb,tb,tb,tb,tb,tb,tb,tb,tb,tb,tb,tb,tb,tb,tb,tb,tb,tb,tb,tb,tb,tb,tb,tb,tb,tb,tb,tb,tb,tb,tb,tb,tb,tb,tb,tb,fb,fb,fb,fb,fb,fb,fb,fb,fb,fb,fb,fb] rfl rfl (any_of HT_.out (by kernel_rfl)) (fun _ _ _ h => h) (Or.inl ⟨by rfl, ?_⟩) ?_ ?_
                 rotate_left
                 ·intro w'
                  go_simp
                  with_reducible rfl
                 rotate_left
                 ·simp only [Act.put, sT, sZ, sS, i64_w, i32_w]
                  rfl
                 refine pure_ (i := 40) (N := some 80) (v := ?_) (a' := ?_) #[tb,tb,tb,tb,tb,tb,tb,tb,tb,tb,tb,tb,tb,tb,tb,tb,tb,tb,tb,tb,tb,tb,tb,tb,tb,tb,tb,tb,tb,tb,tb,tb,tb,tb,tb,tb,tb,tb,tb,tb,tb,fb,fb,fb,fb,fb,fb,fb,fb,fb,fb,fb] rfl rfl (any_of HT_.out (by kernel_rfl)) (fun _ _ _ h => h) (Or.inl ⟨by rfl, ?_⟩) ?_ ?_
                 rotate_left
                 ·intro w'
                  go_simp
                  with_reducible rfl
                 rotate_left
                 ·simp only [Act.put, sT, sZ, sS, i64_w, i32_w]
                  rfl
                 refine pure_ (i := 43) (N := some 83) (v := ?_) (a' := ?_) #[tb,tb,tb,tb,tb,tb,tb,tb,tb,tb,tb,tb,tb,tb,tb,tb,tb,tb,tb,tb,tb,tb,tb,tb,tb,tb,tb,tb,tb,tb,tb,tb,tb,tb,tb,tb,tb,tb,tb,tb,tb,fb,fb,tb,fb,fb,fb,fb,fb,fb,fb,fb] rfl rfl (any_of HT_.out (by kernel_rfl)) (fun _ _ _ h => h) (Or.inl ⟨by rfl, ?_⟩) ?_ ?_
                 rotate_left
                 ·intro w'
                  go_simp
                  with_reducible rfl
                 rotate_left
                 ·simp only [Act.put, sT, sZ, sS, i64_w, i32_w]
                  rfl
                 refine pure_ (i := 44) (N := some 84) (v := ?_) (a' := ?_) #[tb,tb,tb,tb,tb,tb,tb,tb,tb,tb,tb,tb,tb,tb,tb,tb,tb,tb,tb,tb,tb,tb,tb,tb,tb,tb,tb,tb,tb,tb,tb,tb,tb,tb,tb,tb,tb,tb,tb,tb,tb,fb,fb,tb,tb,fb,fb,fb,fb,fb,fb,fb] rfl rfl (any_of HT_.out (by kernel_rfl)) (fun _ _ _ h => h) (Or.inl ⟨by rfl, ?_⟩) ?_ ?_
                 rotate_left
                 ·intro w'
                  go_simp
                  with_reducible rfl
                 rotate_left
                 ·simp only [Act.put, sT, sZ, sS, i64_w, i32_w]
                  rfl
                 refine pure_ (i := 45) (N := some 85) (v := ?_) (a' := ?_) #[tb,tb,tb,tb,tb,tb,tb,tb,tb,tb,tb,tb,tb,tb,tb,tb,tb,tb,tb,tb,tb,tb,tb,tb,tb,tb,tb,tb,tb,tb,tb,tb,tb,tb,tb,tb,tb,tb,tb,tb,tb,fb,fb,tb,tb,tb,fb,fb,fb,fb,fb,fb] rfl rfl (any_of HT_.out (by kernel_rfl)) (fun _ _ _ h => h) (Or.inl ⟨by rfl, ?_⟩) ?_ ?_
                 rotate_left
                 ·intro w'
                  go_simp
                  with_reducible rfl
                 rotate_left
                 ·simp only [Act.put, sT, sZ, sS, i64_w, i32_w]
                  rfl
                 refine pure_ (i := 46) (N := some 86) (v := ?_) (a' := ?_) #[tb,tb,tb,tb,tb,tb,tb,tb,tb,tb,tb,tb,tb,tb,tb,tb,tb,tb,tb,tb,tb,tb,tb,tb,tb,tb,tb,tb,tb,tb,tb,tb,tb,tb,tb,tb,tb,tb,tb,tb,tb,fb,fb,tb,tb,tb,tb,fb,fb,fb,fb,fb] rfl rfl (any_of HT_.out (by kernel_rfl)) (fun _ _ _ h => h) (Or.inl ⟨by rfl, ?_⟩) ?_ ?_
                 rotate_left
                 ·intro w'
                  go_simp
                  with_reducible rfl
                 rotate_left
                 ·simp only [Act.put, sT, sZ, sS, i64_w, i32_w]
                  rfl
                 refine take_ (i := 41) (N := some 81) (v := ?_) (a' := ?_) #[tb,tb,tb,tb,tb,tb,tb,tb,tb,tb,tb,tb,tb,tb,tb,tb,tb,tb,tb,tb,tb,tb,tb,tb,tb,tb,tb,tb,tb,tb,tb,tb,tb,tb,tb,tb,tb,tb,tb,tb,tb,tb,fb,tb,tb,tb,tb,fb,fb,fb,fb,fb] rfl rfl (take_ofW HT_.out HW_.out (by kernel_rfl)) (fun _ _ _ h => h) (Or.inl ⟨by rfl, ?_⟩) hHeld ?_ ?_
                 rotate_left
                 ·rintro w' ⟨s0, s1, s2, s3⟩
                  go_simp
                  with_reducible rfl
                 rotate_left
                 ·simp only [Act.put, sT, sZ, sS, i64_w, i32_w]
                  rfl
                 refine take_ (i := 47) (N := some 87) (v := ?_) (a' := ?_) #[tb,tb,tb,tb,tb,tb,tb,tb,tb,tb,tb,tb,tb,tb,tb,tb,tb,tb,tb,tb,tb,tb,tb,tb,tb,tb,tb,tb,tb,tb,tb,tb,tb,tb,tb,tb,tb,tb,tb,tb,tb,tb,fb,tb,tb,tb,tb,tb,fb,fb,fb,fb] rfl rfl (take_ofW HT_.out HW_.out (by kernel_rfl)) (fun _ _ _ h => h) (Or.inl ⟨by rfl, ?_⟩) hHeld ?_ ?_
                 rotate_left
                 ·rintro w' ⟨s0, s1, s2, s3⟩
                  go_simp
                  with_reducible rfl
                 rotate_left
                 ·simp only [Act.put, sT, sZ, sS, i64_w, i32_w]
                  rfl
                 refine one_ (i := 42) (N := some 82) #[tb,tb,tb,tb,tb,tb,tb,tb,tb,tb,tb,tb,tb,tb,tb,tb,tb,tb,tb,tb,tb,tb,tb,tb,tb,tb,tb,tb,tb,tb,tb,tb,tb,tb,tb,tb,tb,tb,tb,tb,tb,tb,tb,tb,tb,tb,tb,tb,fb,fb,fb,fb] rfl rfl (one_of HT_.out (by kernel_rfl)) (by decide) (fun K hK => ?_)
                 refine goes_ Try.func21 (by kernel_rfl) rfl #[.int .i64 ((rd_T26 l0 x4_2).f1)] (by rfl) rfl rfl (by (try simp only [List.map_toArray, List.map_cons, List.map_nil]); first | done | rfl | (simp only [List.length_drop, List.length_take]; rfl)) ?_
                 with_reducible refine (utf_Put.calls ((rd_T26 l0 x4_2).f1) t191 _ A29.out).mono ?_
                 rintro e w42 ⟨rfl, hb⟩
                 refine ⟨_, rfl, ?_⟩
                 have n0_ := Aside0.mk (below_step (by repeat (first | (with_reducible first | exact HB.out | apply below_alloc | apply pw_below_drewN | apply below_drew1) | exact HB.out)) hb)
                 clear HB
                 have HB := n0_
                 clear n0_
                 (try clear hb)
                 (try clear hb2)
                 (try clear hk)
                 (try clear hi)
                 refine hK.out _ _ ⟨((HB.out.cell (World.block_lt_of_cell? w _ hw190_0)).trans hw190_0), ((HB.out.cell (World.block_lt_of_cell? w _ hw190_1)).trans hw190_1), ((HB.out.cell (World.block_lt_of_cell? w _ hw192_0)).trans hw192_0), ((HB.out.cell (World.block_lt_of_cell? w _ hw192_1)).trans hw192_1)⟩ (fun hHeld => ?_)
                 clear hK K
                 refine norm_ (a' := ?_) ?_ ?_
                 rotate_left
                 ·show Act.put _ (some 82) _ = _
                  simp only [Act.put, sT, sZ, sS, i64_w, i32_w]
                  rfl
                 refine one_ (i := 48) (N := some 88) #[tb,tb,tb,tb,tb,tb,tb,tb,tb,tb,tb,tb,tb,tb,tb,tb,tb,tb,tb,tb,tb,tb,tb,tb,tb,tb,tb,tb,tb,tb,tb,tb,tb,tb,tb,tb,tb,tb,tb,tb,tb,tb,tb,tb,tb,tb,tb,tb,tb,fb,fb,fb] rfl rfl (one_of HT_.out (by kernel_rfl)) (by decide) (fun K hK => ?_)
                 refine goes_ Try.func22 (by kernel_rfl) rfl #[.int .i64 ((rd_T26 l0 x4_2).f1)] (by rfl) rfl rfl (by (try simp only [List.map_toArray, List.map_cons, List.map_nil]); first | done | rfl | (simp only [List.length_drop, List.length_take]; rfl)) ?_
                 with_reducible refine (stratumref03_Put.calls kj7 ((rd_T26 l0 x4_2).f1) t193 _ A30.out).mono ?_
                 rintro e w43 ⟨rfl, hb⟩
                 refine ⟨_, rfl, ?_⟩
                 have n0_ := Aside0.mk (below_step (by repeat (first | (with_reducible first | exact HB.out | apply below_alloc | apply pw_below_drewN | apply below_drew1) | exact HB.out)) hb)
                 clear HB
                 have HB := n0_
                 clear n0_
                 (try clear hb)
                 (try clear hb2)
                 (try clear hk)
                 (try clear hi)
                 refine hK.out _ _ ⟨((HB.out.cell (World.block_lt_of_cell? w _ hw190_0)).trans hw190_0), ((HB.out.cell (World.block_lt_of_cell? w _ hw190_1)).trans hw190_1), ((HB.out.cell (World.block_lt_of_cell? w _ hw192_0)).trans hw192_0), ((HB.out.cell (World.block_lt_of_cell? w _ hw192_1)).trans hw192_1)⟩ (fun hHeld => ?_)
                 clear hK K
                 refine norm_ (a' := ?_) ?_ ?_
                 rotate_left
                 ·show Act.put _ (some 88) _ = _
                  simp only [Act.put, sT, sZ, sS, i64_w, i32_w]
                  rfl
                 refine pure_ (i := 49) (N := some 89) (v := ?_) (a' := ?_) #[tb,tb,tb,tb,tb,tb,tb,tb,tb,tb,tb,tb,tb,tb,tb,tb,tb,tb,tb,tb,tb,tb,tb,tb,tb,tb,tb,tb,tb,tb,tb,tb,tb,tb,tb,tb,tb,tb,tb,tb,tb,tb,tb,tb,tb,tb,tb,tb,tb,tb,fb,fb] rfl rfl (any_of HT_.out (by kernel_rfl)) (fun _ _ _ h => h) (Or.inl ⟨by rfl, ?_⟩) ?_ ?_
                 rotate_left
                 ·intro w'
                  go_simp
                  with_reducible rfl
                 rotate_left
                 ·simp only [Act.put, sT, sZ, sS, i64_w, i32_w]
                  rfl
                 refine pure_ (i := 50) (N := some 90) (v := ?_) (a' := ?_) #[tb,tb,tb,tb,tb,tb,tb,tb,tb,tb,tb,tb,tb,tb,tb,tb,tb,tb,tb,tb,tb,tb,tb,tb,tb,tb,tb,tb,tb,tb,tb,tb,tb,tb,tb,tb,tb,tb,tb,tb,tb,tb,tb,tb,tb,tb,tb,tb,tb,tb,tb,fb] rfl rfl (any_of HT_.out (by kernel_rfl)) (fun _ _ _ h => h) (Or.inl ⟨by rfl, ?_⟩) ?_ ?_
                 rotate_left
                 ·intro w'
                  go_simp
                  with_reducible rfl
                 rotate_left
                 ·simp only [Act.put, sT, sZ, sS, i64_w, i32_w]
                  rfl
                 refine pure_ (i := 51) (N := some 3) (v := ?_) (a' := ?_) #[tb,tb,tb,tb,tb,tb,tb,tb,tb,tb,tb,tb,tb,tb,tb,tb,tb,tb,tb,tb,tb,tb,tb,tb,tb,tb,tb,tb,tb,tb,tb,tb,tb,tb,tb,tb,tb,tb,tb,tb,tb,tb,tb,tb,tb,tb,tb,tb,tb,tb,tb,tb] rfl rfl (any_of HT_.out (by kernel_rfl)) (fun _ _ _ h => h) (Or.inl ⟨by rfl, ?_⟩) ?_ ?_
                 rotate_left
                 ·intro w'
                  go_simp
                  with_reducible rfl
                 rotate_left
                 ·simp only [Act.put, sT, sZ, sS, i64_w, i32_w]
                  rfl
                 refine done_ (done_of HT_.out (by kernel_rfl)) ?_
                 try go_wp2
                 go_roundg kj7
                 case measure => have := HJ2.out; have := HK2.out; have := HJ7.out; omega
                 case rel => exact ⟨((t191.toList == t193.toList)), (wrap64 (x4_2 + 1)), (by first | rfl | (simp; done) | (simp [*]; done)), (by first | rfl | (simp; done) | (simp [*]; done)), H', ⟨by have := HJ2.out; have := HK2.out; have := HJ7.out; omega⟩, ⟨by repeat (first | (with_reducible first | exact HB.out | apply below_alloc | apply pw_below_drewN | apply below_drew1) | exact HB.out)⟩⟩
                ·rw [if_neg c28] at H
                 have c28b0 : (t188.toList == t189.toList) = false := beq_eq_false_iff_ne.mpr c28
                 have c28b1 : (t188.toList != t189.toList) = true := bne_iff_ne.mpr c28
                 have H' := Aside0.mk H
                 clear H
                 have p177 : 0 ≤ (x4_2 : Int) := of_decide_eq_true (by first | (with_reducible assumption) | assumption)
                 have q177 : x4_2 < (l0.length : Int) := of_decide_eq_true (by first | (with_reducible assumption) | assumption)
                 obtain ⟨ad177, e177, hx177_0, hx177_1⟩ := at_T26 HR0.out x4_2 p177 q177
                 cases e177
                 replace hx177_0 := (HB.out.cell (World.block_lt_of_cell? w _ hx177_0)).trans hx177_0
                 replace hx177_1 := (HB.out.cell (World.block_lt_of_cell? w _ hx177_1)).trans hx177_1
                 replace p177 := eq_true p177
                 replace q177 := eq_true q177
                 try go_wp2_with (first | ((with_reducible refine gate_callee (f := 11) rfl ?_); refine goesL_ (some 32) rfl rfl Try.func11 (by kernel_rfl) rfl #[.string ((rd_T26 l0 x4_2).f0)] rfl (by (try simp only [List.map_toArray, List.map_cons, List.map_nil]); first | done | rfl | (simp only [List.length_drop, List.length_take]; rfl)) ?_; (with_reducible refine (utf_Next.calls ((rd_T26 l0 x4_2).f0) t178 t179 _ A13.out).mono ?_); rintro e w44 ⟨rfl, hb⟩; refine ⟨_, rfl, ?_⟩; have n0_ := Aside0.mk (below_step (by repeat (first | (with_reducible first | exact HB.out | apply below_alloc | apply pw_below_drewN | apply below_drew1) | exact HB.out)) hb); clear HB; have HB := n0_; clear n0_; (try clear hb); (try clear hb2); (try clear hk); (try clear hi)) | ((with_reducible refine gate_callee (f := 12) rfl ?_); refine goesL_ (some 37) rfl rfl Try.func12 (by kernel_rfl) rfl #[.string ((rd_T26 l0 x4_2).f0)] rfl (by (try simp only [List.map_toArray, List.map_cons, List.map_nil]); first | done | rfl | (simp only [List.length_drop, List.length_take]; rfl)) ?_; (with_reducible refine (stratumref03_Next.calls kj7 ((rd_T26 l0 x4_2).f0) t180 t181 _ A14.out).mono ?_); rintro e w45 ⟨rfl, hb⟩; refine ⟨_, rfl, ?_⟩; have n0_ := Aside0.mk (below_step (by repeat (first | (with_reducible first | exact HB.out | apply below_alloc | apply pw_below_drewN | apply below_drew1) | exact HB.out)) hb); clear HB; have HB := n0_; clear n0_; (try clear hb); (try clear hb2); (try clear hk); (try clear hi)))
                 have n0_ := Aside0.mk (below_drew1 HB.out)
                 clear HB
                 have HB := n0_
                 clear n0_
                 refine start_ (n := 52) (S := fun w' => True) (ds := []) #[fb,fb,fb,fb,fb,fb,fb,fb,fb,fb,fb,fb,fb,fb,fb,fb,fb,fb,fb,fb,fb,fb,fb,fb,fb,fb,fb,fb,fb,fb,fb,fb,fb,fb,fb,fb,fb,fb,fb,fb,fb,fb,fb,fb,fb,fb,fb,fb,fb,fb,fb,fb] (by kernel_rfl) rfl rfl trivial (fun hHeld => ?_); refine with_tabW stratumlaw03_UtfAll.tab10 stratumlaw03_UtfAll.bits10 (fun HT_ HW_ => ?_)
                 generalize w45.drew = w46 at HB hHeld ⊢
                 refine pure_ (i := 0) (N := some 40) (v := ?_) (a' := ?_) #[tb,fb,fb,fb,fb,fb,fb,fb,fb,fb,fb,fb,fb,fb,fb,fb,fb,fb,fb,fb,fb,fb,fb,fb,fb,fb,fb,fb,fb,fb,fb,fb,fb,fb,fb,fb,fb,fb,fb,fb,fb,fb,fb,fb,fb,fb,fb,fb,fb,fb,fb,fb] rfl rfl (any_of HT_.out (by kernel_rfl)) (fun _ _ _ h => h) (Or.inl ⟨by rfl, ?_⟩) ?_ ?_
                 rotate_left
                 ·intro w'
                  go_simp
                  with_reducible rfl
                 rotate_left
                 ·simp only [Act.put, sT, sZ, sS, i64_w, i32_w]
                  rfl
                 refine pure_ (i := 1) (N := some 41) (v := ?_) (a' := ?_) #[tb,tb,fb,fb,fb,fb,fb,fb,fb,fb,fb,fb,fb,fb,fb,fb,fb,fb,fb,fb,fb,fb,fb,fb,fb,fb,fb,fb,fb,fb,fb,fb,fb,fb,fb,fb,fb,fb,fb,fb,fb,fb,fb,fb,fb,fb,fb,fb,fb,fb,fb,fb] rfl rfl (any_of HT_.out (by kernel_rfl)) (fun _ _ _ h => h) (Or.inl ⟨by rfl, ?_⟩) ?_ ?_
                 rotate_left
                 ·intro w'
                  go_simp
                  with_reducible rfl
                 rotate_left
                 ·simp only [Act.put, sT, sZ, sS, i64_w, i32_w]
                  rfl
                 refine pure_ (i := 2) (N := some 42) (v := ?_) (a' := ?_) #[tb,tb,tb,fb,fb,fb,fb,fb,fb,fb,fb,fb,fb,fb,fb,fb,fb,fb,fb,fb,fb,fb,fb,fb,fb,fb,fb,fb,fb,fb,fb,fb,fb,fb,fb,fb,fb,fb,fb,fb,fb,fb,fb,fb,fb,fb,fb,fb,fb,fb,fb,fb] rfl rfl (any_of HT_.out (by kernel_rfl)) (fun _ _ _ h => h) (Or.inl ⟨by rfl, ?_⟩) ?_ ?_
                 rotate_left
                 ·intro w'
                  go_simp
                  with_reducible rfl
                 rotate_left
                 ·simp only [Act.put, sT, sZ, sS, i64_w, i32_w]
                  rfl
                 refine pure_ (i := 3) (N := some 43) (v := ?_) (a' := ?_) #[tb,tb,tb,tb,fb,fb,fb,fb,fb,fb,fb,fb,fb,fb,fb,fb,fb,fb,fb,fb,fb,fb,fb,fb,fb,fb,fb,fb,fb,fb,fb,fb,fb,fb,fb,fb,fb,fb,fb,fb,fb,fb,fb,fb,fb,fb,fb,fb,fb,fb,fb,fb] rfl rfl (any_of HT_.out (by kernel_rfl)) (fun _ _ _ h => h) (Or.inl ⟨by rfl, ?_⟩) ?_ ?_
                 rotate_left
                 ·intro w'
                  go_simp
                  with_reducible rfl
                 rotate_left
                 ·simp only [Act.put, sT, sZ, sS, i64_w, i32_w]
                  rfl
                 refine pure_ (i := 4) (N := some 44) (v := ?_) (a' := ?_) #[tb,tb,tb,tb,tb,fb,fb,fb,fb,fb,fb,fb,fb,fb,fb,fb,fb,fb,fb,fb,fb,fb,fb,fb,fb,fb,fb,fb,fb,fb,fb,fb,fb,fb,fb,fb,fb,fb,fb,fb,fb,fb,fb,fb,fb,fb,fb,fb,fb,fb,fb,fb] rfl rfl (any_of HT_.out (by kernel_rfl)) (fun _ _ _ h => h) (Or.inl ⟨by rfl, ?_⟩) ?_ ?_
                 rotate_left
                 ·intro w'
                  go_simp
                  with_reducible rfl
                 rotate_left
                 ·simp only [Act.put, sT, sZ, sS, i64_w, i32_w]
                  rfl
                 refine pure_ (i := 5) (N := some 45) (v := ?_) (a' := ?_) #[tb,tb,tb,tb,tb,tb,fb,fb,fb,fb,fb,fb,fb,fb,fb,fb,fb,fb,fb,fb,fb,fb,fb,fb,fb,fb,fb,fb,fb,fb,fb,fb,fb,fb,fb,fb,fb,fb,fb,fb,fb,fb,fb,fb,fb,fb,fb,fb,fb,fb,fb,fb] rfl rfl (any_of HT_.out (by kernel_rfl)) (fun _ _ _ h => h) (Or.inl ⟨by rfl, ?_⟩) ?_ ?_
                 rotate_left
                 ·intro w'
                  go_simp
                  with_reducible rfl
                 rotate_left
                 ·simp only [Act.put, sT, sZ, sS, i64_w, i32_w]
                  rfl
                 refine pure_ (i := 6) (N := some 46) (v := ?_) (a' := ?_) #[tb,tb,tb,tb,tb,tb,tb,fb,fb,fb,fb,fb,fb,fb,fb,fb,fb,fb,fb,fb,fb,fb,fb,fb,fb,fb,fb,fb,fb,fb,fb,fb,fb,fb,fb,fb,fb,fb,fb,fb,fb,fb,fb,fb,fb,fb,fb,fb,fb,fb,fb,fb] rfl rfl (any_of HT_.out (by kernel_rfl)) (fun _ _ _ h => h) (Or.inl ⟨by rfl, ?_⟩) ?_ ?_
                 rotate_left
                 ·intro w'
                  go_simp
                  with_reducible rfl
                 rotate_left
                 ·simp only [Act.put, sT, sZ, sS, i64_w, i32_w]
                  rfl
                 refine pure_ (i := 7) (N := some 47) (v := ?_) (a' := ?_) #[tb,tb,tb,tb,tb,tb,tb,tb,fb,fb,fb,fb,fb,fb,fb,fb,fb,fb,fb,fb,fb,fb,fb,fb,fb,fb,fb,fb,fb,fb,fb,fb,fb,fb,fb,fb,fb,fb,fb,fb,fb,fb,fb,fb,fb,fb,fb,fb,fb,fb,fb,fb] rfl rfl (any_of HT_.out (by kernel_rfl)) (fun _ _ _ h => h) (Or.inl ⟨by rfl, ?_⟩) ?_ ?_
                 rotate_left
                 ·intro w'
                  go_simp
                  with_reducible rfl
                 rotate_left
                 ·simp only [Act.put, sT, sZ, sS, i64_w, i32_w]
                  rfl
                 refine pure_ (i := 8) (N := some 48) (v := ?_) (a' := ?_) #[tb,tb,tb,tb,tb,tb,tb,tb,tb,fb,fb,fb,fb,fb,fb,fb,fb,fb,fb,fb,fb,fb,fb,fb,fb,fb,fb,fb,fb,fb,fb,fb,fb,fb,fb,fb,fb,fb,fb,fb,fb,fb,fb,fb,fb,fb,fb,fb,fb,fb,fb,fb] rfl rfl (any_of HT_.out (by kernel_rfl)) (fun _ _ _ h => h) (Or.inl ⟨by rfl, ?_⟩) ?_ ?_
                 rotate_left
                 ·intro w'
                  go_simp
                  with_reducible rfl
                 rotate_left
                 ·simp only [Act.put, sT, sZ, sS, i64_w, i32_w]
                  rfl
                 refine pure_ (i := 9) (N := some 49) (v := ?_) (a' := ?_) #[tb,tb,tb,tb,tb,tb,tb,tb,tb,tb,fb,fb,fb,fb,fb,fb,fb,fb,fb,fb,fb,fb,fb,fb,fb,fb,fb,fb,fb,fb,fb,fb,fb,fb,fb,fb,fb,fb,fb,fb,fb,fb,fb,fb,fb,fb,fb,fb,fb,fb,fb,fb] rfl rfl (any_of HT_.out (by kernel_rfl)) (fun _ _ _ h => h) (Or.inl ⟨by rfl, ?_⟩) ?_ ?_
                 rotate_left
                 ·intro w'
                  go_simp
                  with_reducible rfl
                 rotate_left
                 ·simp only [Act.put, sT, sZ, sS, i64_w, i32_w]
                  rfl
                 refine pure_ (i := 11) (N := some 51) (v := ?_) (a' := ?_) #[tb,tb,tb,tb,tb,tb,tb,tb,tb,tb,fb,tb,fb,fb,fb,fb,fb,fb,fb,fb,fb,fb,fb,fb,fb,fb,fb,fb,fb,fb,fb,fb,fb,fb,fb,fb,fb,fb,fb,fb,fb,fb,fb,fb,fb,fb,fb,fb,fb,fb,fb,fb] rfl rfl (any_of HT_.out (by kernel_rfl)) (fun _ _ _ h => h) (Or.inl ⟨by rfl, ?_⟩) ?_ ?_
                 rotate_left
                 ·intro w'
                  go_simp
                  with_reducible rfl
                 rotate_left
                 ·simp only [Act.put, sT, sZ, sS, i64_w, i32_w]
                  rfl
                 refine one_ (i := 10) (N := some 50) #[tb,tb,tb,tb,tb,tb,tb,tb,tb,tb,tb,tb,fb,fb,fb,fb,fb,fb,fb,fb,fb,fb,fb,fb,fb,fb,fb,fb,fb,fb,fb,fb,fb,fb,fb,fb,fb,fb,fb,fb,fb,fb,fb,fb,fb,fb,fb,fb,fb,fb,fb,fb] rfl rfl (one_of HT_.out (by kernel_rfl)) (by decide) (fun K hK => ?_)
                 refine goes_ Try.func13 (by kernel_rfl) rfl #[.string ((rd_T26 l0 x4_2).f0)] (by rfl) rfl rfl (by (try simp only [List.map_toArray, List.map_cons, List.map_nil]); first | done | rfl | (simp only [List.length_drop, List.length_take]; rfl)) ?_
                 with_reducible refine (utf_Fault.calls kj7 ((rd_T26 l0 x4_2).f0) t182 _ A17.out).mono ?_
                 rintro e w47 ⟨rfl, hb⟩
                 refine ⟨_, rfl, ?_⟩
                 have n0_ := Aside0.mk (below_step (by repeat (first | (with_reducible first | exact HB.out | apply below_alloc | apply pw_below_drewN | apply below_drew1) | exact HB.out)) hb)
                 clear HB
                 have HB := n0_
                 clear n0_
                 (try clear hb)
                 (try clear hb2)
                 (try clear hk)
                 (try clear hi)
                 refine hK.out _ _ trivial (fun hHeld => ?_)
                 clear hK K
                 refine norm_ (a' := ?_) ?_ ?_
                 rotate_left
                 ·show Act.put _ (some 50) _ = _
                  simp only [Act.put, sT, sZ, sS, i64_w, i32_w]
                  rfl
                 refine one_ (i := 12) (N := some 52) #[tb,tb,tb,tb,tb,tb,tb,tb,tb,tb,tb,tb,tb,fb,fb,fb,fb,fb,fb,fb,fb,fb,fb,fb,fb,fb,fb,fb,fb,fb,fb,fb,fb,fb,fb,fb,fb,fb,fb,fb,fb,fb,fb,fb,fb,fb,fb,fb,fb,fb,fb,fb] rfl rfl (one_of HT_.out (by kernel_rfl)) (by decide) (fun K hK => ?_)
                 refine goes_ Try.func14 (by kernel_rfl) rfl #[.string ((rd_T26 l0 x4_2).f0)] (by rfl) rfl rfl (by (try simp only [List.map_toArray, List.map_cons, List.map_nil]); first | done | rfl | (simp only [List.length_drop, List.length_take]; rfl)) ?_
                 with_reducible refine (stratumref03_Fault.calls kj7 ((rd_T26 l0 x4_2).f0) t183 _ A18.out).mono ?_
                 rintro e w48 ⟨rfl, hb⟩
                 refine ⟨_, rfl, ?_⟩
                 have n0_ := Aside0.mk (below_step (by repeat (first | (with_reducible first | exact HB.out | apply below_alloc | apply pw_below_drewN | apply below_drew1) | exact HB.out)) hb)
                 clear HB
                 have HB := n0_
                 clear n0_
                 (try clear hb)
                 (try clear hb2)
                 (try clear hk)
                 (try clear hi)
                 refine hK.out _ _ trivial (fun hHeld => ?_)
                 clear hK K
                 refine norm_ (a' := ?_) ?_ ?_
                 rotate_left
                 ·show Act.put _ (some 52) _ = _
                  simp only [Act.put, sT, sZ, sS, i64_w, i32_w]
                  rfl
                 refine pure_ (i := 13) (N := some 53) (v := ?_) (a' := ?_) #[tb,tb,tb,tb,tb,tb,tb,tb,tb,tb,tb,tb,tb,tb,fb,fb,fb,fb,fb,fb,fb,fb,fb,fb,fb,fb,fb,fb,fb,fb,fb,fb,fb,fb,fb,fb,fb,fb,fb,fb,fb,fb,fb,fb,fb,fb,fb,fb,fb,fb,fb,fb] rfl rfl (any_of HT_.out (by kernel_rfl)) (fun _ _ _ h => h) (Or.inl ⟨by rfl, ?_⟩) ?_ ?_
                 rotate_left
                 ·intro w'
                  go_simp
                  with_reducible rfl
                 rotate_left
                 ·simp only [Act.put, sT, sZ, sS, i64_w, i32_w]
                  rfl
                 refine pure_ (i := 14) (N := some 54) (v := ?_) (a' := ?_) #[tb,tb,tb,tb,tb,tb,tb,tb,tb,tb,tb,tb,tb,tb,tb,fb,fb,fb,fb,fb,fb,fb,fb,fb,fb,fb,fb,fb,fb,fb,fb,fb,fb,fb,fb,fb,fb,fb,fb,fb,fb,fb,fb,fb,fb,fb,fb,fb,fb,fb,fb,fb] rfl rfl (any_of HT_.out (by kernel_rfl)) (fun _ _ _ h => h) (Or.inl ⟨by rfl, ?_⟩) ?_ ?_
                 rotate_left
                 ·intro w'
                  go_simp
                  with_reducible rfl
                 rotate_left
                 ·simp only [Act.put, sT, sZ, sS, i64_w, i32_w]
                  rfl
                 refine pure_ (i := 15) (N := some 55) (v := ?_) (a' := ?_) #[tb,tb,tb,tb,tb,tb,tb,tb,tb,tb,tb,tb,tb,tb,tb,tb,fb,fb,fb,fb,fb,fb,fb,fb,fb,fb,fb,fb,fb,fb,fb,fb,fb,fb,fb,fb,fb,fb,fb,fb,fb,fb,fb,fb,fb,fb,fb,fb,fb,fb,fb,fb] rfl rfl (any_of HT_.out (by kernel_rfl)) (fun _ _ _ h => h) (Or.inl ⟨by rfl, ?_⟩) ?_ ?_
                 rotate_left
                 ·intro w'
                  go_simp
                  with_reducible rfl
                 rotate_left
                 ·simp only [Act.put, sT, sZ, sS, i64_w, i32_w]
                  rfl
                 refine pure_ (i := 16) (N := some 56) (v := ?_) (a' := ?_) #[tb,tb,tb,tb,tb,tb,tb,tb,tb,tb,tb,tb,tb,tb,tb,tb,tb,fb,fb,fb,fb,fb,fb,fb,fb,fb,fb,fb,fb,fb,fb,fb,fb,fb,fb,fb,fb,fb,fb,fb,fb,fb,fb,fb,fb,fb,fb,fb,fb,fb,fb,fb] rfl rfl (any_of HT_.out (by kernel_rfl)) (fun _ _ _ h => h) (Or.inl ⟨by rfl, ?_⟩) ?_ ?_
                 rotate_left
                 ·intro w'
                  go_simp
                  with_reducible rfl
                 rotate_left
                 ·simp only [Act.put, sT, sZ, sS, i64_w, i32_w]
                  rfl
                 refine pure_ (i := 18) (N := some 58) (v := ?_) (a' := ?_) #[tb,tb,tb,tb,tb,tb,tb,tb,tb,tb,tb,tb,tb,tb,tb,tb,tb,fb,tb,fb,fb,fb,fb,fb,fb,fb,fb,fb,fb,fb,fb,fb,fb,fb,fb,fb,fb,fb,fb,fb,fb,fb,fb,fb,fb,fb,fb,fb,fb,fb,fb,fb] rfl rfl (any_of HT_.out (by kernel_rfl)) (fun _ _ _ h => h) (Or.inl ⟨by rfl, ?_⟩) ?_ ?_
                 rotate_left
                 ·intro w'
                  go_simp
                  with_reducible rfl
                 rotate_left
                 ·simp only [Act.put, sT, sZ, sS, i64_w, i32_w]
                  rfl
                 refine one_ (i := 17) (N := some 57) #[tb,tb,tb,tb,tb,tb,tb,tb,tb,tb,tb,tb,tb,tb,tb,tb,tb,tb,tb,fb,fb,fb,fb,fb,fb,fb,fb,fb,fb,fb,fb,fb,fb,fb,fb,fb,fb,fb,fb,fb,fb,fb,fb,fb,fb,fb,fb,fb,fb,fb,fb,fb] rfl rfl (one_of HT_.out (by kernel_rfl)) (by decide) (fun K hK => ?_)
                 refine goes_ Try.func15 (by kernel_rfl) rfl #[.string ((rd_T26 l0 x4_2).f0)] (by rfl) rfl rfl (by (try simp only [List.map_toArray, List.map_cons, List.map_nil]); first | done | rfl | (simp only [List.length_drop, List.length_take]; rfl)) ?_
                 with_reducible refine (utf_Valid.calls kj7 ((rd_T26 l0 x4_2).f0) t184 _ A20.out).mono ?_
                 rintro e w49 ⟨rfl, hb⟩
                 refine ⟨_, rfl, ?_⟩
                 have n0_ := Aside0.mk (below_step (by repeat (first | (with_reducible first | exact HB.out | apply below_alloc | apply pw_below_drewN | apply below_drew1) | exact HB.out)) hb)
                 clear HB
                 have HB := n0_
                 clear n0_
                 (try clear hb)
                 (try clear hb2)
                 (try clear hk)
                 (try clear hi)
                 refine hK.out _ _ trivial (fun hHeld => ?_)
                 clear hK K
                 refine norm_ (a' := ?_) ?_ ?_
                 rotate_left
                 ·show Act.put _ (some 57) _ = _
                  simp only [Act.put, sT, sZ, sS, i64_w, i32_w]
                  rfl
                 refine one_ (i := 19) (N := some 59) #[tb,tb,tb,tb,tb,tb,tb,tb,tb,tb,tb,tb,tb,tb,tb,tb,tb,tb,tb,tb,fb,fb,fb,fb,fb,fb,fb,fb,fb,fb,fb,fb,fb,fb,fb,fb,fb,fb,fb,fb,fb,fb,fb,fb,fb,fb,fb,fb,fb,fb,fb,fb] rfl rfl (one_of HT_.out (by kernel_rfl)) (by decide) (fun K hK => ?_)
                 refine goes_ Try.func16 (by kernel_rfl) rfl #[.string ((rd_T26 l0 x4_2).f0)] (by rfl) rfl rfl (by (try simp only [List.map_toArray, List.map_cons, List.map_nil]); first | done | rfl | (simp only [List.length_drop, List.length_take]; rfl)) ?_
                 with_reducible refine (stratumref03_Valid.calls kj7 ((rd_T26 l0 x4_2).f0) t185 _ A21.out).mono ?_
                 rintro e w50 ⟨rfl, hb⟩
                 refine ⟨_, rfl, ?_⟩
                 have n0_ := Aside0.mk (below_step (by repeat (first | (with_reducible first | exact HB.out | apply below_alloc | apply pw_below_drewN | apply below_drew1) | exact HB.out)) hb)
                 clear HB
                 have HB := n0_
                 clear n0_
                 (try clear hb)
                 (try clear hb2)
                 (try clear hk)
                 (try clear hi)
                 refine hK.out _ _ trivial (fun hHeld => ?_)
                 clear hK K
                 refine norm_ (a' := ?_) ?_ ?_
                 rotate_left
                 ·show Act.put _ (some 59) _ = _
                  simp only [Act.put, sT, sZ, sS, i64_w, i32_w]
                  rfl
                 refine pure_ (i := 20) (N := some 60) (v := ?_) (a' := ?_) #[tb,tb,tb,tb,tb,tb,tb,tb,tb,tb,tb,tb,tb,tb,tb,tb,tb,tb,tb,tb,tb,fb,fb,fb,fb,fb,fb,fb,fb,fb,fb,fb,fb,fb,fb,fb,fb,fb,fb,fb,fb,fb,fb,fb,fb,fb,fb,fb,fb,fb,fb,fb] rfl rfl (any_of HT_.out (by kernel_rfl)) (fun _ _ _ h => h) (Or.inl ⟨by rfl, ?_⟩) ?_ ?_
                 rotate_left
                 ·intro w'
                  go_simp
                  with_reducible rfl
                 rotate_left
                 ·simp only [Act.put, sT, sZ, sS, i64_w, i32_w]
                  rfl
                 refine pure_ (i := 21) (N := some 61) (v := ?_) (a' := ?_) #[tb,tb,tb,tb,tb,tb,tb,tb,tb,tb,tb,tb,tb,tb,tb,tb,tb,tb,tb,tb,tb,tb,fb,fb,fb,fb,fb,fb,fb,fb,fb,fb,fb,fb,fb,fb,fb,fb,fb,fb,fb,fb,fb,fb,fb,fb,fb,fb,fb,fb,fb,fb] rfl rfl (any_of HT_.out (by kernel_rfl)) (fun _ _ _ h => h) (Or.inl ⟨by rfl, ?_⟩) ?_ ?_
                 rotate_left
                 ·intro w'
                  go_simp
                  with_reducible rfl
                 rotate_left
                 ·simp only [Act.put, sT, sZ, sS, i64_w, i32_w]
                  rfl
                 refine pure_ (i := 22) (N := some 62) (v := ?_) (a' := ?_) #[tb,tb,tb,tb,tb,tb,tb,tb,tb,tb,tb,tb,tb,tb,tb,tb,tb,tb,tb,tb,tb,tb,tb,fb,fb,fb,fb,fb,fb,fb,fb,fb,fb,fb,fb,fb,fb,fb,fb,fb,fb,fb,fb,fb,fb,fb,fb,fb,fb,fb,fb,fb] rfl rfl (any_of HT_.out (by kernel_rfl)) (fun _ _ _ h => h) (Or.inl ⟨by rfl, ?_⟩) ?_ ?_
                 rotate_left
                 ·intro w'
                  go_simp
                  with_reducible rfl
                 rotate_left
                 ·simp only [Act.put, sT, sZ, sS, i64_w, i32_w]
                  rfl
                 refine pure_ (i := 23) (N := some 63) (v := ?_) (a' := ?_) #[tb,tb,tb,tb,tb,tb,tb,tb,tb,tb,tb,tb,tb,tb,tb,tb,tb,tb,tb,tb,tb,tb,tb,tb,fb,fb,fb,fb,fb,fb,fb,fb,fb,fb,fb,fb,fb,fb,fb,fb,fb,fb,fb,fb,fb,fb,fb,fb,fb,fb,fb,fb] rfl rfl (any_of HT_.out (by kernel_rfl)) (fun _ _ _ h => h) (Or.inl ⟨by rfl, ?_⟩) ?_ ?_
                 rotate_left
                 ·intro w'
                  go_simp
                  with_reducible rfl
                 rotate_left
                 ·simp only [Act.put, sT, sZ, sS, i64_w, i32_w]
                  rfl
                 refine pure_ (i := 25) (N := some 65) (v := ?_) (a' := ?_) #[tb,tb,tb,tb,tb,tb,tb,tb,tb,tb,tb,tb,tb,tb,tb,tb,tb,tb,tb,tb,tb,tb,tb,tb,fb,tb,fb,fb,fb,fb,fb,fb,fb,fb,fb,fb,fb,fb,fb,fb,fb,fb,fb,fb,fb,fb,fb,fb,fb,fb,fb,fb] rfl rfl (any_of HT_.out (by kernel_rfl)) (fun _ _ _ h => h) (Or.inl ⟨by rfl, ?_⟩) ?_ ?_
                 rotate_left
                 ·intro w'
                  go_simp
                  with_reducible rfl
                 rotate_left
                 ·simp only [Act.put, sT, sZ, sS, i64_w, i32_w]
                  rfl
                 refine one_ (i := 24) (N := some 64) #[tb,tb,tb,tb,tb,tb,tb,tb,tb,tb,tb,tb,tb,tb,tb,tb,tb,tb,tb,tb,tb,tb,tb,tb,tb,tb,fb,fb,fb,fb,fb,fb,fb,fb,fb,fb,fb,fb,fb,fb,fb,fb,fb,fb,fb,fb,fb,fb,fb,fb,fb,fb] rfl rfl (one_of HT_.out (by kernel_rfl)) (by decide) (fun K hK => ?_)
                 refine goes_ Try.func17 (by kernel_rfl) rfl #[.string ((rd_T26 l0 x4_2).f0)] (by rfl) rfl rfl (by (try simp only [List.map_toArray, List.map_cons, List.map_nil]); first | done | rfl | (simp only [List.length_drop, List.length_take]; rfl)) ?_
                 with_reducible refine (utf_Count.calls kj7 ((rd_T26 l0 x4_2).f0) t186 _ A23.out).mono ?_
                 rintro e w51 ⟨rfl, hb⟩
                 refine ⟨_, rfl, ?_⟩
                 have n0_ := Aside0.mk (below_step (by repeat (first | (with_reducible first | exact HB.out | apply below_alloc | apply pw_below_drewN | apply below_drew1) | exact HB.out)) hb)
                 clear HB
                 have HB := n0_
                 clear n0_
                 (try clear hb)
                 (try clear hb2)
                 (try clear hk)
                 (try clear hi)
                 refine hK.out _ _ trivial (fun hHeld => ?_)
                 clear hK K
                 refine norm_ (a' := ?_) ?_ ?_
                 rotate_left
                 ·show Act.put _ (some 64) _ = _
                  simp only [Act.put, sT, sZ, sS, i64_w, i32_w]
                  rfl
                 refine one_ (i := 26) (N := some 66) #[tb,tb,tb,tb,tb,tb,tb,tb,tb,tb,tb,tb,tb,tb,tb,tb,tb,tb,tb,tb,tb,tb,tb,tb,tb,tb,tb,fb,fb,fb,fb,fb,fb,fb,fb,fb,fb,fb,fb,fb,fb,fb,fb,fb,fb,fb,fb,fb,fb,fb,fb,fb] rfl rfl (one_of HT_.out (by kernel_rfl)) (by decide) (fun K hK => ?_)
                 refine goes_ Try.func18 (by kernel_rfl) rfl #[.string ((rd_T26 l0 x4_2).f0)] (by rfl) rfl rfl (by (try simp only [List.map_toArray, List.map_cons, List.map_nil]); first | done | rfl | (simp only [List.length_drop, List.length_take]; rfl)) ?_
                 with_reducible refine (stratumref03_Count.calls kj7 ((rd_T26 l0 x4_2).f0) t187 _ A24.out).mono ?_
                 rintro e w52 ⟨rfl, hb⟩
                 refine ⟨_, rfl, ?_⟩
                 have n0_ := Aside0.mk (below_step (by repeat (first | (with_reducible first | exact HB.out | apply below_alloc | apply pw_below_drewN | apply below_drew1) | exact HB.out)) hb)
                 clear HB
                 have HB := n0_
                 clear n0_
                 (try clear hb)
                 (try clear hb2)
                 (try clear hk)
                 (try clear hi)
                 refine hK.out _ _ trivial (fun hHeld => ?_)
                 clear hK K
                 refine norm_ (a' := ?_) ?_ ?_
                 rotate_left
                 ·show Act.put _ (some 66) _ = _
                  simp only [Act.put, sT, sZ, sS, i64_w, i32_w]
                  rfl
                 refine pure_ (i := 27) (N := some 67) (v := ?_) (a' := ?_) #[tb,tb,tb,tb,tb,tb,tb,tb,tb,tb,tb,tb,tb,tb,tb,tb,tb,tb,tb,tb,tb,tb,tb,tb,tb,tb,tb,tb,fb,fb,fb,fb,fb,fb,fb,fb,fb,fb,fb,fb,fb,fb,fb,fb,fb,fb,fb,fb,fb,fb,fb,fb] rfl rfl (any_of HT_.out (by kernel_rfl)) (fun _ _ _ h => h) (Or.inl ⟨by rfl, ?_⟩) ?_ ?_
                 rotate_left
                 ·intro w'
                  go_simp
                  with_reducible rfl
                 rotate_left
                 ·simp only [Act.put, sT, sZ, sS, i64_w, i32_w]
                  rfl
                 refine pure_ (i := 28) (N := some 68) (v := ?_) (a' := ?_) #[tb,tb,tb,tb,tb,tb,tb,tb,tb,tb,tb,tb,tb,tb,tb,tb,tb,tb,tb,tb,tb,tb,tb,tb,tb,tb,tb,tb,tb,fb,fb,fb,fb,fb,fb,fb,fb,fb,fb,fb,fb,fb,fb,fb,fb,fb,fb,fb,fb,fb,fb,fb] rfl rfl (any_of HT_.out (by kernel_rfl)) (fun _ _ _ h => h) (Or.inl ⟨by rfl, ?_⟩) ?_ ?_
                 rotate_left
                 ·intro w'
                  go_simp
                  with_reducible rfl
                 rotate_left
                 ·simp only [Act.put, sT, sZ, sS, i64_w, i32_w]
                  rfl
                 refine pure_ (i := 29) (N := some 69) (v := ?_) (a' := ?_) #[tb,tb,tb,tb,tb,tb,tb,tb,tb,tb,tb,tb,tb,tb,tb,tb,tb,tb,tb,tb,tb,tb,tb,tb,tb,tb,tb,tb,tb,tb,fb,fb,fb,fb,fb,fb,fb,fb,fb,fb,fb,fb,fb,fb,fb,fb,fb,fb,fb,fb,fb,fb] rfl rfl (any_of HT_.out (by kernel_rfl)) (fun _ _ _ h => h) (Or.inl ⟨by rfl, ?_⟩) ?_ ?_
                 rotate_left
                 ·intro w'
                  go_simp
                  with_reducible rfl
                 rotate_left
                 ·simp only [Act.put, sT, sZ, sS, i64_w, i32_w]
                  rfl
                 refine pure_ (i := 30) (N := some 70) (v := ?_) (a' := ?_) #[tb,tb,tb,tb,tb,tb,tb,tb,tb,tb,tb,tb,tb,tb,tb,tb,tb,tb,tb,tb,tb,tb,tb,tb,tb,tb,tb,tb,tb,tb,tb,fb,fb,fb,fb,fb,fb,fb,fb,fb,fb,fb,fb,fb,fb,fb,fb,fb,fb,fb,fb,fb] rfl rfl (any_of HT_.out (by kernel_rfl)) (fun _ _ _ h => h) (Or.inl ⟨by rfl, ?_⟩) ?_ ?_
                 rotate_left
                 ·intro w'
                  go_simp
                  with_reducible rfl
                 rotate_left
                 ·simp only [Act.put, sT, sZ, sS, i64_w, i32_w]
                  rfl
                 refine pure_ (i := 32) (N := some 72) (v := ?_) (a' := ?_) #[tb,tb,tb,tb,tb,tb,tb,tb,tb,tb,tb,tb,tb,tb,tb,tb,tb,tb,tb,tb,tb,tb,tb,tb,tb,tb,tb,tb,tb,tb,tb,fb,tb,fb,fb,fb,fb,fb,fb,fb,fb,fb,fb,fb,fb,fb,fb,fb,fb,fb,fb,fb] rfl rfl (any_of HT_.out (by kernel_rfl)) (fun _ _ _ h => h) (Or.inl ⟨by rfl, ?_⟩) ?_ ?_
                 rotate_left
                 ·intro w'
                  go_simp
                  with_reducible rfl
                 rotate_left
                 ·simp only [Act.put, sT, sZ, sS, i64_w, i32_w]
                  rfl
                 refine one_ (i := 31) (N := some 71) #[tb,tb,tb,tb,tb,tb,tb,tb,tb,tb,tb,tb,tb,tb,tb,tb,tb,tb,tb,tb,tb,tb,tb,tb,tb,tb,tb,tb,tb,tb,tb,tb,tb,fb,fb,fb,fb,fb,fb,fb,fb,fb,fb,fb,fb,fb,fb,fb,fb,fb,fb,fb] rfl rfl (one_of HT_.out (by kernel_rfl)) (by decide) (fun K hK => ?_)
                 refine goes_ Try.func19 (by kernel_rfl) rfl #[.string ((rd_T26 l0 x4_2).f0)] (by rfl) rfl rfl (by (try simp only [List.map_toArray, List.map_cons, List.map_nil]); first | done | rfl | (simp only [List.length_drop, List.length_take]; rfl)) ?_
                 with_reducible refine (utf_Mend.calls ((rd_T26 l0 x4_2).f0) t188 _ A26.out).mono ?_
                 rintro e w53 ⟨rfl, hb⟩
                 refine ⟨_, rfl, ?_⟩
                 have n0_ := Aside0.mk (below_step (by repeat (first | (with_reducible first | exact HB.out | apply below_alloc | apply pw_below_drewN | apply below_drew1) | exact HB.out)) hb)
                 clear HB
                 have HB := n0_
                 clear n0_
                 (try clear hb)
                 (try clear hb2)
                 (try clear hk)
                 (try clear hi)
                 refine hK.out _ _ trivial (fun hHeld => ?_)
                 clear hK K
                 refine norm_ (a' := ?_) ?_ ?_
                 rotate_left
                 ·show Act.put _ (some 71) _ = _
                  simp only [Act.put, sT, sZ, sS, i64_w, i32_w]
                  rfl
                 refine one_ (i := 33) (N := some 73) #[tb,tb,tb,tb,tb,tb,tb,tb,tb,tb,tb,tb,tb,tb,tb,tb,tb,tb,tb,tb,tb,tb,tb,tb,tb,tb,tb,tb,tb,tb,tb,tb,tb,tb,fb,fb,fb,fb,fb,fb,fb,fb,fb,fb,fb,fb,fb,fb,fb,fb,fb,fb] rfl rfl (one_of HT_.out (by kernel_rfl)) (by decide) (fun K hK => ?_)
                 refine goes_ Try.func20 (by kernel_rfl) rfl #[.string ((rd_T26 l0 x4_2).f0)] (by rfl) rfl rfl (by (try simp only [List.map_toArray, List.map_cons, List.map_nil]); first | done | rfl | (simp only [List.length_drop, List.length_take]; rfl)) ?_
                 with_reducible refine (stratumref03_Mend.calls kj7 ((rd_T26 l0 x4_2).f0) t189 _ A27.out).mono ?_
                 rintro e w54 ⟨rfl, hb⟩
                 refine ⟨_, rfl, ?_⟩
                 have n0_ := Aside0.mk (below_step (by repeat (first | (with_reducible first | exact HB.out | apply below_alloc | apply pw_below_drewN | apply below_drew1) | exact HB.out)) hb)
                 clear HB
                 have HB := n0_
                 clear n0_
                 (try clear hb)
                 (try clear hb2)
                 (try clear hk)
                 (try clear hi)
                 refine hK.out _ _ trivial (fun hHeld => ?_)
                 clear hK K
                 refine norm_ (a' := ?_) ?_ ?_
                 rotate_left
                 ·show Act.put _ (some 73) _ = _
                  simp only [Act.put, sT, sZ, sS, i64_w, i32_w]
                  rfl
                 refine pure_ (i := 34) (N := some 74) (v := ?_) (a' := ?_) #[tb,tb,tb,tb,tb,tb,tb,tb,tb,tb,tb,tb,tb,tb,tb,tb,tb,tb,tb,tb,tb,tb,tb,tb,tb,tb,tb,tb,tb,tb,tb,tb,tb,tb,tb,fb,fb,fb,fb,fb,fb,fb,fb,fb,fb,fb,fb,fb,fb,fb,fb,fb] rfl rfl (any_of HT_.out (by kernel_rfl)) (fun _ _ _ h => h) (Or.inl ⟨by rfl, ?_⟩) ?_ ?_
                 rotate_left
                 ·intro w'
                  go_simp
                  with_reducible rfl
                 rotate_left
                 ·simp only [Act.put, sT, sZ, sS, i64_w, i32_w]
                  rfl
                 refine pure_ (i := 35) (N := some 75) (v := ?_) (a' := ?_) #[tb,tb,tb,tb,tb,tb,tb,tb,tb,tb,tb,tb,tb,tb,tb,tb,tb,tb,tb,tb,tb,tb,tb,tb,tb,tb,tb,tb,tb,tb,tb,tb,tb,tb,tb,tb,fb,fb,fb,fb,fb,fb,fb,fb,fb,fb,fb,fb,fb,fb,fb,fb] rfl rfl (any_of HT_.out (by kernel_rfl)) (fun _ _ _ h => h) (Or.inl ⟨by rfl, ?_⟩) ?_ ?_
                 rotate_left
                 ·intro w'
                  go_simp
                  with_reducible rfl
                 rotate_left
                 ·simp only [Act.put, sT, sZ, sS, i64_w, i32_w]
                  rfl
                 refine pure_ (i := 36) (N := some 76) (v := ?_) (a' := ?_) #[tb,tb,tb,tb,tb,tb,tb,tb,tb,tb,tb,tb,tb,tb,tb,tb,tb,tb,tb,tb,tb,tb,tb,tb,tb,tb,tb,tb,tb,tb,tb,tb,tb,tb,tb,tb,tb,fb,fb,fb,fb,fb,fb,fb,fb,fb,fb,fb,fb,fb,fb,fb] rfl rfl (any_of HT_.out (by kernel_rfl)) (fun _ _ _ h => h) (Or.inl ⟨by rfl, ?_⟩) ?_ ?_
                 rotate_left
                 ·intro w'
                  go_simp
                  with_reducible rfl
                 rotate_left
                 ·simp only [Act.put, sT, sZ, sS, i64_w, i32_w]
                  rfl
                 refine pure_ (i := 37) (N := some 77) (v := undef) (a' := ?_) #[tb,tb,tb,tb,tb,tb,tb,tb,tb,tb,tb,tb,tb,tb,tb,tb,tb,tb,tb,tb,tb,tb,tb,tb,tb,tb,tb,tb,tb,tb,tb,tb,tb,tb,tb,tb,tb,tb,fb,fb,fb,fb,fb,fb,fb,fb,fb,fb,fb,fb,fb,fb] rfl rfl (any_of HT_.out (by kernel_rfl)) (fun _ _ _ h => h) (Or.inr ⟨by rfl, rfl⟩) ?_ ?_
                 rotate_left
                 ·simp only [Act.put, sT, sZ, sS, i64_w, i32_w]
                  rfl
                 refine pure_ (i := 38) (N := some 78) (v := undef) (a' := ?_) #[tb,tb,tb,tb,tb,tb,tb,tb,tb,tb,tb,tb,tb,tb,tb,tb,tb,tb,tb,tb,tb,tb,tb,tb,tb,tb,tb,tb,tb,tb,tb,tb,tb,tb,tb,tb,tb,tb,tb,fb,fb,fb,fb,fb,fb,fb,fb,fb,fb,fb,fb,fb] rfl rfl (any_of HT_.out (by kernel_rfl)) (fun _ _ _ h => h) (Or.inr ⟨by rfl, rfl⟩) ?_ ?_
                 rotate_left
                 ·simp only [Act.put, sT, sZ, sS, i64_w, i32_w]
                  rfl
                 refine pure_ (i := 39) (N := some 79) (v := undef) (a' := ?_) #[tb,tb,tb,tb,tb,tb,tb,tb,tb,tb,tb,tb,tb,tb,tb,tb,tb,tb,tb,tb,tb,tb,tb,tb,tb,tb,tb,tb,tb,tb,tb,tb,tb,tb,tb,tb,tb,tb,tb,tb,fb,fb,fb,fb,fb,fb,fb,fb,fb,fb,fb,fb] rfl rfl (any_of HT_.out (by kernel_rfl)) (fun _ _ _ h => h) (Or.inr ⟨by rfl, rfl⟩) ?_ ?_
                 rotate_left
                 ·simp only [Act.put, sT, sZ, sS, i64_w, i32_w]
                  rfl
                 refine pure_ (i := 40) (N := some 80) (v := undef) (a' := ?_) #[tb,tb,tb,tb,tb,tb,tb,tb,tb,tb,tb,tb,tb,tb,tb,tb,tb,tb,tb,tb,tb,tb,tb,tb,tb,tb,tb,tb,tb,tb,tb,tb,tb,tb,tb,tb,tb,tb,tb,tb,tb,fb,fb,fb,fb,fb,fb,fb,fb,fb,fb,fb] rfl rfl (any_of HT_.out (by kernel_rfl)) (fun _ _ _ h => h) (Or.inr ⟨by rfl, rfl⟩) ?_ ?_
                 rotate_left
                 ·simp only [Act.put, sT, sZ, sS, i64_w, i32_w]
                  rfl
                 refine pure_ (i := 41) (N := some 81) (v := undef) (a' := ?_) #[tb,tb,tb,tb,tb,tb,tb,tb,tb,tb,tb,tb,tb,tb,tb,tb,tb,tb,tb,tb,tb,tb,tb,tb,tb,tb,tb,tb,tb,tb,tb,tb,tb,tb,tb,tb,tb,tb,tb,tb,tb,tb,fb,fb,fb,fb,fb,fb,fb,fb,fb,fb] rfl rfl (any_of HT_.out (by kernel_rfl)) (fun _ _ _ h => h) (Or.inr ⟨by rfl, rfl⟩) ?_ ?_
                 rotate_left
                 ·simp only [Act.put, sT, sZ, sS, i64_w, i32_w]
                  rfl
                 refine pure_ (i := 42) (N := some 82) (v := undef) (a' := ?_) #[tb,tb,tb,tb,tb,tb,tb,tb,tb,tb,tb,tb,tb,tb,tb,tb,tb,tb,tb,tb,tb,tb,tb,tb,tb,tb,tb,tb,tb,tb,tb,tb,tb,tb,tb,tb,tb,tb,tb,tb,tb,tb,tb,fb,fb,fb,fb,fb,fb,fb,fb,fb] rfl rfl (any_of HT_.out (by kernel_rfl)) (fun _ _ _ h => h) (Or.inr ⟨by rfl, rfl⟩) ?_ ?_
                 rotate_left
                 ·simp only [Act.put, sT, sZ, sS, i64_w, i32_w]
                  rfl
                 refine pure_ (i := 43) (N := some 83) (v := undef) (a' := ?_) #[tb,tb,tb,tb,tb,tb,tb,tb,tb,tb,tb,tb,tb,tb,tb,tb,tb,tb,tb,tb,tb,tb,tb,tb,tb,tb,tb,tb,tb,tb,tb,tb,tb,tb,tb,tb,tb,tb,tb,tb,tb,tb,tb,tb,fb,fb,fb,fb,fb,fb,fb,fb] rfl rfl (any_of HT_.out (by kernel_rfl)) (fun _ _ _ h => h) (Or.inr ⟨by rfl, rfl⟩) ?_ ?_
                 rotate_left
                 ·simp only [Act.put, sT, sZ, sS, i64_w, i32_w]
                  rfl
                 refine pure_ (i := 44) (N := some 84) (v := undef) (a' := ?_) #[tb,tb,tb,tb,tb,tb,tb,tb,tb,tb,tb,tb,tb,tb,tb,tb,tb,tb,tb,tb,tb,tb,tb,tb,tb,tb,tb,tb,tb,tb,tb,tb,tb,tb,tb,tb,tb,tb,tb,tb,tb,tb,tb,tb,tb,fb,fb,fb,fb,fb,fb,fb] rfl rfl (any_of HT_.out (by kernel_rfl)) (fun _ _ _ h => h) (Or.inr ⟨by rfl, rfl⟩) ?_ ?_
                 rotate_left
                 ·simp only [Act.put, sT, sZ, sS, i64_w, i32_w]
                  rfl
                 refine pure_ (i := 45) (N := some 85) (v := undef) (a' := ?_) #[tb,tb,tb,tb,tb,tb,tb,tb,tb,tb,tb,tb,tb,tb,tb,tb,tb,tb,tb,tb,tb,tb,tb,tb,tb,tb,tb,tb,tb,tb,tb,tb,tb,tb,tb,tb,tb,tb,tb,tb,tb,tb,tb,tb,tb,tb,fb,fb,fb,fb,fb,fb] rfl rfl (any_of HT_.out (by kernel_rfl)) (fun _ _ _ h => h) (Or.inr ⟨by rfl, rfl⟩) ?_ ?_
                 rotate_left
                 ·simp only [Act.put, sT, sZ, sS, i64_w, i32_w]
                  rfl
                 refine pure_ (i := 46) (N := some 86) (v := undef) (a' := ?_) #[tb,tb,tb,tb,tb,tb,tb,tb,tb,tb,tb,tb,tb,tb,tb,tb,tb,tb,tb,tb,tb,tb,tb,tb,tb,tb,tb,tb,tb,tb,tb,tb,tb,tb,tb,tb,tb,tb,tb,tb,tb,tb,tb,tb,tb,tb,tb,fb,fb,fb,fb,fb] rfl rfl (any_of HT_.out (by kernel_rfl)) (fun _ _ _ h => h) (Or.inr ⟨by rfl, rfl⟩) ?_ ?_
                 rotate_left
                 ·simp only [Act.put, sT, sZ, sS, i64_w, i32_w]
                  rfl
                 refine pure_ (i := 47) (N := some 87) (v := undef) (a' := ?_) #[tb,tb,tb,tb,tb,tb,tb,tb,tb,tb,tb,tb,tb,tb,tb,tb,tb,tb,tb,tb,tb,tb,tb,tb,tb,tb,tb,tb,tb,tb,tb,tb,tb,tb,tb,tb,tb,tb,tb,tb,tb,tb,tb,tb,tb,tb,tb,tb,fb,fb,fb,fb] rfl rfl (any_of HT_.out (by kernel_rfl)) (fun _ _ _ h => h) (Or.inr ⟨by rfl, rfl⟩) ?_ ?_
                 rotate_left
                 ·simp only [Act.put, sT, sZ, sS, i64_w, i32_w]
                  rfl
                 refine pure_ (i := 48) (N := some 88) (v := undef) (a' := ?_) #[tb,tb,tb,tb,tb,tb,tb,tb,tb,tb,tb,tb,tb,tb,tb,tb,tb,tb,tb,tb,tb,tb,tb,tb,tb,tb,tb,tb,tb,tb,tb,tb,tb,tb,tb,tb,tb,tb,tb,tb,tb,tb,tb,tb,tb,tb,tb,tb,tb,fb,fb,fb] rfl rfl (any_of HT_.out (by kernel_rfl)) (fun _ _ _ h => h) (Or.inr ⟨by rfl, rfl⟩) ?_ ?_
                 rotate_left
                 ·simp only [Act.put, sT, sZ, sS, i64_w, i32_w]
                  rfl
                 refine pure_ (i := 49) (N := some 89) (v := undef) (a' := ?_) #[tb,tb,tb,tb,tb,tb,tb,tb,tb,tb,tb,tb,tb,tb,tb,tb,tb,tb,tb,tb,tb,tb,tb,tb,tb,tb,tb,tb,tb,tb,tb,tb,tb,tb,tb,tb,tb,tb,tb,tb,tb,tb,tb,tb,tb,tb,tb,tb,tb,tb,fb,fb] rfl rfl (any_of HT_.out (by kernel_rfl)) (fun _ _ _ h => h) (Or.inr ⟨by rfl, rfl⟩) ?_ ?_
                 rotate_left
                 ·simp only [Act.put, sT, sZ, sS, i64_w, i32_w]
                  rfl
                 refine pure_ (i := 50) (N := some 90) (v := ?_) (a' := ?_) #[tb,tb,tb,tb,tb,tb,tb,tb,tb,tb,tb,tb,tb,tb,tb,tb,tb,tb,tb,tb,tb,tb,tb,tb,tb,tb,tb,tb,tb,tb,tb,tb,tb,tb,tb,tb,tb,tb,tb,tb,tb,tb,tb,tb,tb,tb,tb,tb,tb,tb,tb,fb] rfl rfl (any_of HT_.out (by kernel_rfl)) (fun _ _ _ h => h) (Or.inl ⟨by rfl, ?_⟩) ?_ ?_
                 rotate_left
                 ·intro w'
                  go_simp
                  with_reducible rfl
                 rotate_left
                 ·simp only [Act.put, sT, sZ, sS, i64_w, i32_w]
                  rfl
                 refine pure_ (i := 51) (N := some 3) (v := ?_) (a' := ?_) #[tb,tb,tb,tb,tb,tb,tb,tb,tb,tb,tb,tb,tb,tb,tb,tb,tb,tb,tb,tb,tb,tb,tb,tb,tb,tb,tb,tb,tb,tb,tb,tb,tb,tb,tb,tb,tb,tb,tb,tb,tb,tb,tb,tb,tb,tb,tb,tb,tb,tb,tb,tb] rfl rfl (any_of HT_.out (by kernel_rfl)) (fun _ _ _ h => h) (Or.inl ⟨by rfl, ?_⟩) ?_ ?_
                 rotate_left
                 ·intro w'
                  go_simp
                  with_reducible rfl
                 rotate_left
                 ·simp only [Act.put, sT, sZ, sS, i64_w, i32_w]
                  rfl
                 refine done_ (done_of HT_.out (by kernel_rfl)) ?_
                 try go_wp2
                 go_roundg kj7
                 case measure => have := HJ2.out; have := HK2.out; have := HJ7.out; omega
                 case rel => exact ⟨(false), (wrap64 (x4_2 + 1)), (by first | rfl | (simp; done) | (simp [*]; done)), (by first | rfl | (simp; done) | (simp [*]; done)), H', ⟨by have := HJ2.out; have := HK2.out; have := HJ7.out; omega⟩, ⟨by repeat (first | (with_reducible first | exact HB.out | apply below_alloc | apply pw_below_drewN | apply below_drew1) | exact HB.out)⟩⟩
               ·rw [if_neg c25] at H
                have c25b0 : (t186 == t187) = false := beq_eq_false_iff_ne.mpr c25
                have c25b1 : (t186 != t187) = true := bne_iff_ne.mpr c25
                have H' := Aside0.mk H
                clear H
                have p177 : 0 ≤ (x4_2 : Int) := of_decide_eq_true (by first | (with_reducible assumption) | assumption)
                have q177 : x4_2 < (l0.length : Int) := of_decide_eq_true (by first | (with_reducible assumption) | assumption)
                obtain ⟨ad177, e177, hx177_0, hx177_1⟩ := at_T26 HR0.out x4_2 p177 q177
                cases e177
                replace hx177_0 := (HB.out.cell (World.block_lt_of_cell? w _ hx177_0)).trans hx177_0
                replace hx177_1 := (HB.out.cell (World.block_lt_of_cell? w _ hx177_1)).trans hx177_1
                replace p177 := eq_true p177
                replace q177 := eq_true q177
                try go_wp2_with (first | ((with_reducible refine gate_callee (f := 11) rfl ?_); refine goesL_ (some 32) rfl rfl Try.func11 (by kernel_rfl) rfl #[.string ((rd_T26 l0 x4_2).f0)] rfl (by (try simp only [List.map_toArray, List.map_cons, List.map_nil]); first | done | rfl | (simp only [List.length_drop, List.length_take]; rfl)) ?_; (with_reducible refine (utf_Next.calls ((rd_T26 l0 x4_2).f0) t178 t179 _ A13.out).mono ?_); rintro e w55 ⟨rfl, hb⟩; refine ⟨_, rfl, ?_⟩; have n0_ := Aside0.mk (below_step (by repeat (first | (with_reducible first | exact HB.out | apply below_alloc | apply pw_below_drewN | apply below_drew1) | exact HB.out)) hb); clear HB; have HB := n0_; clear n0_; (try clear hb); (try clear hb2); (try clear hk); (try clear hi)) | ((with_reducible refine gate_callee (f := 12) rfl ?_); refine goesL_ (some 37) rfl rfl Try.func12 (by kernel_rfl) rfl #[.string ((rd_T26 l0 x4_2).f0)] rfl (by (try simp only [List.map_toArray, List.map_cons, List.map_nil]); first | done | rfl | (simp only [List.length_drop, List.length_take]; rfl)) ?_; (with_reducible refine (stratumref03_Next.calls kj7 ((rd_T26 l0 x4_2).f0) t180 t181 _ A14.out).mono ?_); rintro e w56 ⟨rfl, hb⟩; refine ⟨_, rfl, ?_⟩; have n0_ := Aside0.mk (below_step (by repeat (first | (with_reducible first | exact HB.out | apply below_alloc | apply pw_below_drewN | apply below_drew1) | exact HB.out)) hb); clear HB; have HB := n0_; clear n0_; (try clear hb); (try clear hb2); (try clear hk); (try clear hi)))
                have n0_ := Aside0.mk (below_drew1 HB.out)
                clear HB
                have HB := n0_
                clear n0_
                refine start_ (n := 52) (S := fun w' => True) (ds := []) #[fb,fb,fb,fb,fb,fb,fb,fb,fb,fb,fb,fb,fb,fb,fb,fb,fb,fb,fb,fb,fb,fb,fb,fb,fb,fb,fb,fb,fb,fb,fb,fb,fb,fb,fb,fb,fb,fb,fb,fb,fb,fb,fb,fb,fb,fb,fb,fb,fb,fb,fb,fb] (by kernel_rfl) rfl rfl trivial (fun hHeld => ?_); refine with_tabW stratumlaw03_UtfAll.tab10 stratumlaw03_UtfAll.bits10 (fun HT_ HW_ => ?_)
                generalize w56.drew = w57 at HB hHeld ⊢
                refine pure_ (i := 0) (N := some 40) (v := ?_) (a' := ?_) #[tb,fb,fb,fb,fb,fb,fb,fb,fb,fb,fb,fb,fb,fb,fb,fb,fb,fb,fb,fb,fb,fb,fb,fb,fb,fb,fb,fb,fb,fb,fb,fb,fb,fb,fb,fb,fb,fb,fb,fb,fb,fb,fb,fb,fb,fb,fb,fb,fb,fb,fb,fb] rfl rfl (any_of HT_.out (by kernel_rfl)) (fun _ _ _ h => h) (Or.inl ⟨by rfl, ?_⟩) ?_ ?_
                rotate_left
                ·intro w'
                 go_simp
                 with_reducible rfl
                rotate_left
                ·simp only [Act.put, sT, sZ, sS, i64_w, i32_w]
                 rfl
                refine pure_ (i := 1) (N := some 41) (v := ?_) (a' := ?_) #[tb,tb,fb,fb,fb,fb,fb,fb,fb,fb,fb,fb,fb,fb,fb,fb,fb,fb,fb,fb,fb,fb,fb,fb,fb,fb,fb,fb,fb,fb,fb,fb,fb,fb,fb,fb,fb,fb,fb,fb,fb,fb,fb,fb,fb,fb,fb,fb,fb,fb,fb,fb] rfl rfl (any_of HT_.out (by kernel_rfl)) (fun _ _ _ h => h) (Or.inl ⟨by rfl, ?_⟩) ?_ ?_
                rotate_left
                ·intro w'
                 go_simp
                 with_reducible rfl
                rotate_left
                ·simp only [Act.put, sT, sZ, sS, i64_w, i32_w]
                 rfl
                refine pure_ (i := 2) (N := some 42) (v := ?_) (a' := ?_) #[tb,tb,tb,fb,fb,fb,fb,fb,fb,fb,fb,fb,fb,fb,fb,fb,fb,fb,fb,fb,fb,fb,fb,fb,fb,fb,fb,fb,fb,fb,fb,fb,fb,fb,fb,fb,fb,fb,fb,fb,fb,fb,fb,fb,fb,fb,fb,fb,fb,fb,fb,fb] rfl rfl (any_of HT_.out (by kernel_rfl)) (fun _ _ _ h => h) (Or.inl ⟨by rfl, ?_⟩) ?_ ?_
                rotate_left
                ·intro w'
                 go_simp
                 with_reducible rfl
                rotate_left
                ·simp only [Act.put, sT, sZ, sS, i64_w, i32_w]
                 rfl
                refine pure_ (i := 3) (N := some 43) (v := ?_) (a' := ?_) #[tb,tb,tb,tb,fb,fb,fb,fb,fb,fb,fb,fb,fb,fb,fb,fb,fb,fb,fb,fb,fb,fb,fb,fb,fb,fb,fb,fb,fb,fb,fb,fb,fb,fb,fb,fb,fb,fb,fb,fb,fb,fb,fb,fb,fb,fb,fb,fb,fb,fb,fb,fb] rfl rfl (any_of HT_.out (by kernel_rfl)) (fun _ _ _ h => h) (Or.inl ⟨by rfl, ?_⟩) ?_ ?_
                rotate_left
                ·intro w'
                 go_simp
                 with_reducible rfl
                rotate_left
                ·simp only [Act.put, sT, sZ, sS, i64_w, i32_w]
                 rfl
                refine pure_ (i := 4) (N := some 44) (v := ?_) (a' := ?_) #[tb,tb,tb,tb,tb,fb,fb,fb,fb,fb,fb,fb,fb,fb,fb,fb,fb,fb,fb,fb,fb,fb,fb,fb,fb,fb,fb,fb,fb,fb,fb,fb,fb,fb,fb,fb,fb,fb,fb,fb,fb,fb,fb,fb,fb,fb,fb,fb,fb,fb,fb,fb] rfl rfl (any_of HT_.out (by kernel_rfl)) (fun _ _ _ h => h) (Or.inl ⟨by rfl, ?_⟩) ?_ ?_
                rotate_left
                ·intro w'
                 go_simp
                 with_reducible rfl
                rotate_left
                ·simp only [Act.put, sT, sZ, sS, i64_w, i32_w]
                 rfl
                refine pure_ (i := 5) (N := some 45) (v := ?_) (a' := ?_) #[tb,tb,tb,tb,tb,tb,fb,fb,fb,fb,fb,fb,fb,fb,fb,fb,fb,fb,fb,fb,fb,fb,fb,fb,fb,fb,fb,fb,fb,fb,fb,fb,fb,fb,fb,fb,fb,fb,fb,fb,fb,fb,fb,fb,fb,fb,fb,fb,fb,fb,fb,fb] rfl rfl (any_of HT_.out (by kernel_rfl)) (fun _ _ _ h => h) (Or.inl ⟨by rfl, ?_⟩) ?_ ?_
                rotate_left
                ·intro w'
                 go_simp
                 with_reducible rfl
                rotate_left
                ·simp only [Act.put, sT, sZ, sS, i64_w, i32_w]
                 rfl
                refine pure_ (i := 6) (N := some 46) (v := ?_) (a' := ?_) #[tb,tb,tb,tb,tb,tb,tb,fb,fb,fb,fb,fb,fb,fb,fb,fb,fb,fb,fb,fb,fb,fb,fb,fb,fb,fb,fb,fb,fb,fb,fb,fb,fb,fb,fb,fb,fb,fb,fb,fb,fb,fb,fb,fb,fb,fb,fb,fb,fb,fb,fb,fb] rfl rfl (any_of HT_.out (by kernel_rfl)) (fun _ _ _ h => h) (Or.inl ⟨by rfl, ?_⟩) ?_ ?_
                rotate_left
                ·intro w'
                 go_simp
                 with_reducible rfl
                rotate_left
                ·simp only [Act.put, sT, sZ, sS, i64_w, i32_w]
                 rfl
                refine pure_ (i := 7) (N := some 47) (v := ?_) (a' := ?_) #[tb,tb,tb,tb,tb,tb,tb,tb,fb,fb,fb,fb,fb,fb,fb,fb,fb,fb,fb,fb,fb,fb,fb,fb,fb,fb,fb,fb,fb,fb,fb,fb,fb,fb,fb,fb,fb,fb,fb,fb,fb,fb,fb,fb,fb,fb,fb,fb,fb,fb,fb,fb] rfl rfl (any_of HT_.out (by kernel_rfl)) (fun _ _ _ h => h) (Or.inl ⟨by rfl, ?_⟩) ?_ ?_
                rotate_left
                ·intro w'
                 go_simp
                 with_reducible rfl
                rotate_left
                ·simp only [Act.put, sT, sZ, sS, i64_w, i32_w]
                 rfl
                refine pure_ (i := 8) (N := some 48) (v := ?_) (a' := ?_) #[tb,tb,tb,tb,tb,tb,tb,tb,tb,fb,fb,fb,fb,fb,fb,fb,fb,fb,fb,fb,fb,fb,fb,fb,fb,fb,fb,fb,fb,fb,fb,fb,fb,fb,fb,fb,fb,fb,fb,fb,fb,fb,fb,fb,fb,fb,fb,fb,fb,fb,fb,fb] rfl rfl (any_of HT_.out (by kernel_rfl)) (fun _ _ _ h => h) (Or.inl ⟨by rfl, ?_⟩) ?_ ?_
                rotate_left
                ·intro w'
                 go_simp
                 with_reducible rfl
                rotate_left
                ·simp only [Act.put, sT, sZ, sS, i64_w, i32_w]
                 rfl
                refine pure_ (i := 9) (N := some 49) (v := ?_) (a' := ?_) #[tb,tb,tb,tb,tb,tb,tb,tb,tb,tb,fb,fb,fb,fb,fb,fb,fb,fb,fb,fb,fb,fb,fb,fb,fb,fb,fb,fb,fb,fb,fb,fb,fb,fb,fb,fb,fb,fb,fb,fb,fb,fb,fb,fb,fb,fb,fb,fb,fb,fb,fb,fb] rfl rfl (any_of HT_.out (by kernel_rfl)) (fun _ _ _ h => h) (Or.inl ⟨by rfl, ?_⟩) ?_ ?_
                rotate_left
                ·intro w'
                 go_simp
                 with_reducible rfl
                rotate_left
                ·simp only [Act.put, sT, sZ, sS, i64_w, i32_w]
                 rfl
                refine pure_ (i := 11) (N := some 51) (v := ?_) (a' := ?_) #[tb,tb,tb,tb,tb,tb,tb,tb,tb,tb,fb,tb,fb,fb,fb,fb,fb,fb,fb,fb,fb,fb,fb,fb,fb,fb,fb,fb,fb,fb,fb,fb,fb,fb,fb,fb,fb,fb,fb,fb,fb,fb,fb,fb,fb,fb,fb,fb,fb,fb,fb,fb] rfl rfl (any_of HT_.out (by kernel_rfl)) (fun _ _ _ h => h) (Or.inl ⟨by rfl, ?_⟩) ?_ ?_
                rotate_left
                ·intro w'
                 go_simp
                 with_reducible rfl
                rotate_left
                ·simp only [Act.put, sT, sZ, sS, i64_w, i32_w]
                 rfl
                refine one_ (i := 10) (N := some 50) #[tb,tb,tb,tb,tb,tb,tb,tb,tb,tb,tb,tb,fb,fb,fb,fb,fb,fb,fb,fb,fb,fb,fb,fb,fb,fb,fb,fb,fb,fb,fb,fb,fb,fb,fb,fb,fb,fb,fb,fb,fb,fb,fb,fb,fb,fb,fb,fb,fb,fb,fb,fb] rfl rfl (one_of HT_.out (by kernel_rfl)) (by decide) (fun K hK => ?_)
                refine goes_ Try.func13 (by kernel_rfl) rfl #[.string ((rd_T26 l0 x4_2).f0)] (by rfl) rfl rfl (by (try simp only [List.map_toArray, List.map_cons, List.map_nil]); first | done | rfl | (simp only [List.length_drop, List.length_take]; rfl)) ?_
                with_reducible refine (utf_Fault.calls kj7 ((rd_T26 l0 x4_2).f0) t182 _ A17.out).mono ?_
                rintro e w58 ⟨rfl, hb⟩
                refine ⟨_, rfl, ?_⟩
                have n0_ := Aside0.mk (below_step (by repeat (first | (with_reducible first | exact HB.out | apply below_alloc | apply pw_below_drewN | apply below_drew1) | exact HB.out)) hb)
                clear HB
                have HB := n0_
                clear n0_
                (try clear hb)
                (try clear hb2)
                (try clear hk)
                (try clear hi)
                refine hK.out _ _ trivial (fun hHeld => ?_)
                clear hK K
                refine norm_ (a' := ?_) ?_ ?_
                rotate_left
                ·show Act.put _ (some 50) _ = _
                 simp only [Act.put, sT, sZ, sS, i64_w, i32_w]
                 rfl
                refine one_ (i := 12) (N := some 52) #[tb,tb,tb,tb,tb,tb,tb,tb,tb,tb,tb,tb,tb,fb,fb,fb,fb,fb,fb,fb,fb,fb,fb,fb,fb,fb,fb,fb,fb,fb,fb,fb,fb,fb,fb,fb,fb,fb,fb,fb,fb,fb,fb,fb,fb,fb,fb,fb,fb,fb,fb,fb] rfl rfl (one_of HT_.out (by kernel_rfl)) (by decide) (fun K hK => ?_)
                refine goes_ Try.func14 (by kernel_rfl) rfl #[.string ((rd_T26 l0 x4_2).f0)] (by rfl) rfl rfl (by (try simp only [List.map_toArray, List.map_cons, List.map_nil]); first | done | rfl | (simp only [List.length_drop, List.length_take]; rfl)) ?_
                with_reducible refine (stratumref03_Fault.calls kj7 ((rd_T26 l0 x4_2).f0) t183 _ A18.out).mono ?_
                rintro e w59 ⟨rfl, hb⟩
                refine ⟨_, rfl, ?_⟩
                have n0_ := Aside0.mk (below_step (by repeat (first | (with_reducible first | exact HB.out | apply below_alloc | apply pw_below_drewN | apply below_drew1) | exact HB.out)) hb)
                clear HB
                have HB := n0_
                clear n0_
                (try clear hb)
                (try clear hb2)
                (try clear hk)
                (try clear hi)
                refine hK.out _ _ trivial (fun hHeld => ?_)
                clear hK K
                refine norm_ (a' := ?_) ?_ ?_
                rotate_left
                ·show Act.put _ (some 52) _ = _
                 simp only [Act.put, sT, sZ, sS, i64_w, i32_w]
                 rfl
                refine pure_ (i := 13) (N := some 53) (v := ?_) (a' := ?_) #[tb,tb,tb,tb,tb,tb,tb,tb,tb,tb,tb,tb,tb,tb,fb,fb,fb,fb,fb,fb,fb,fb,fb,fb,fb,fb,fb,fb,fb,fb,fb,fb,fb,fb,fb,fb,fb,fb,fb,fb,fb,fb,fb,fb,fb,fb,fb,fb,fb,fb,fb,fb] rfl rfl (any_of HT_.out (by kernel_rfl)) (fun _ _ _ h => h) (Or.inl ⟨by rfl, ?_⟩) ?_ ?_
                rotate_left
                ·intro w'
                 go_simp
                 with_reducible rfl
                rotate_left
                ·simp only [Act.put, sT, sZ, sS, i64_w, i32_w]
                 rfl
                refine pure_ (i := 14) (N := some 54) (v := ?_) (a' := ?_) #[tb,tb,tb,tb,tb,tb,tb,tb,tb,tb,tb,tb,tb,tb,tb,fb,fb,fb,fb,fb,fb,fb,fb,fb,fb,fb,fb,fb,fb,fb,fb,fb,fb,fb,fb,fb,fb,fb,fb,fb,fb,fb,fb,fb,fb,fb,fb,fb,fb,fb,fb,fb] rfl rfl (any_of HT_.out (by kernel_rfl)) (fun _ _ _ h => h) (Or.inl ⟨by rfl, ?_⟩) ?_ ?_
                rotate_left
                ·intro w'
                 go_simp
                 with_reducible rfl
                rotate_left
                ·simp only [Act.put, sT, sZ, sS, i64_w, i32_w]
                 rfl
                refine pure_ (i := 15) (N := some 55) (v := ?_) (a' := ?_) #[tb,tb,tb,tb,tb,tb,tb,tb,tb,tb,tb,tb,tb,tb,tb,tb,fb,fb,fb,fb,fb,fb,fb,fb,fb,fb,fb,fb,fb,fb,fb,fb,fb,fb,fb,fb,fb,fb,fb,fb,fb,fb,fb,fb,fb,fb,fb,fb,fb,fb,fb,fb] rfl rfl (any_of HT_.out (by kernel_rfl)) (fun _ _ _ h => h) (Or.inl ⟨by rfl, ?_⟩) ?_ ?_
                rotate_left
                ·intro w'
                 go_simp
                 with_reducible rfl
                rotate_left
                ·simp only [Act.put, sT, sZ, sS, i64_w, i32_w]
                 rfl
                refine pure_ (i := 16) (N := some 56) (v := ?_) (a' := ?_) #[tb,tb,tb,tb,tb,tb,tb,tb,tb,tb,tb,tb,tb,tb,tb,tb,tb,fb,fb,fb,fb,fb,fb,fb,fb,fb,fb,fb,fb,fb,fb,fb,fb,fb,fb,fb,fb,fb,fb,fb,fb,fb,fb,fb,fb,fb,fb,fb,fb,fb,fb,fb] rfl rfl (any_of HT_.out (by kernel_rfl)) (fun _ _ _ h => h) (Or.inl ⟨by rfl, ?_⟩) ?_ ?_
                rotate_left
                ·intro w'
                 go_simp
                 with_reducible rfl
                rotate_left
                ·simp only [Act.put, sT, sZ, sS, i64_w, i32_w]
                 rfl
                refine pure_ (i := 18) (N := some 58) (v := ?_) (a' := ?_) #[tb,tb,tb,tb,tb,tb,tb,tb,tb,tb,tb,tb,tb,tb,tb,tb,tb,fb,tb,fb,fb,fb,fb,fb,fb,fb,fb,fb,fb,fb,fb,fb,fb,fb,fb,fb,fb,fb,fb,fb,fb,fb,fb,fb,fb,fb,fb,fb,fb,fb,fb,fb] rfl rfl (any_of HT_.out (by kernel_rfl)) (fun _ _ _ h => h) (Or.inl ⟨by rfl, ?_⟩) ?_ ?_
                rotate_left
                ·intro w'
                 go_simp
                 with_reducible rfl
                rotate_left
                ·simp only [Act.put, sT, sZ, sS, i64_w, i32_w]
                 rfl
                refine one_ (i := 17) (N := some 57) #[tb,tb,tb,tb,tb,tb,tb,tb,tb,tb,tb,tb,tb,tb,tb,tb,tb,tb,tb,fb,fb,fb,fb,fb,fb,fb,fb,fb,fb,fb,fb,fb,fb,fb,fb,fb,fb,fb,fb,fb,fb,fb,fb,fb,fb,fb,fb,fb,fb,fb,fb,fb] rfl rfl (one_of HT_.out (by kernel_rfl)) (by decide) (fun K hK => ?_)
                refine goes_ Try.func15 (by kernel_rfl) rfl #[.string ((rd_T26 l0 x4_2).f0)] (by rfl) rfl rfl (by (try simp only [List.map_toArray, List.map_cons, List.map_nil]); first | done | rfl | (simp only [List.length_drop, List.length_take]; rfl)) ?_
                with_reducible refine (utf_Valid.calls kj7 ((rd_T26 l0 x4_2).f0) t184 _ A20.out).mono ?_
                rintro e w60 ⟨rfl, hb⟩
                refine ⟨_, rfl, ?_⟩
                have n0_ := Aside0.mk (below_step (by repeat (first | (with_reducible first | exact HB.out | apply below_alloc | apply pw_below_drewN | apply below_drew1) | exact HB.out)) hb)
                clear HB
                have HB := n0_
                clear n0_
                (try clear hb)
                (try clear hb2)
                (try clear hk)
                (try clear hi)
                refine hK.out _ _ trivial (fun hHeld => ?_)
                clear hK K
                refine norm_ (a' := ?_) ?_ ?_
                rotate_left
                ·show Act.put _ (some 57) _ = _
                 simp only [Act.put, sT, sZ, sS, i64_w, i32_w]
                 rfl
                refine one_ (i := 19) (N := some 59) #[tb,tb,tb,tb,tb,tb,tb,tb,tb,tb,tb,tb,tb,tb,tb,tb,tb,tb,tb,tb,fb,fb,fb,fb,fb,fb,fb,fb,fb,fb,fb,fb,fb,fb,fb,fb,fb,fb,fb,fb,fb,fb,fb,fb,fb,fb,fb,fb,fb,fb,fb,fb] rfl rfl (one_of HT_.out (by kernel_rfl)) (by decide) (fun K hK => ?_)
                refine goes_ Try.func16 (by kernel_rfl) rfl #[.string ((rd_T26 l0 x4_2).f0)] (by rfl) rfl rfl (by (try simp only [List.map_toArray, List.map_cons, List.map_nil]); first | done | rfl | (simp only [List.length_drop, List.length_take]; rfl)) ?_
                with_reducible refine (stratumref03_Valid.calls kj7 ((rd_T26 l0 x4_2).f0) t185 _ A21.out).mono ?_
                rintro e w61 ⟨rfl, hb⟩
                refine ⟨_, rfl, ?_⟩
                have n0_ := Aside0.mk (below_step (by repeat (first | (with_reducible first | exact HB.out | apply below_alloc | apply pw_below_drewN | apply below_drew1) | exact HB.out)) hb)
                clear HB
                have HB := n0_
                clear n0_
                (try clear hb)
                (try clear hb2)
                (try clear hk)
                (try clear hi)
                refine hK.out _ _ trivial (fun hHeld => ?_)
                clear hK K
                refine norm_ (a' := ?_) ?_ ?_
                rotate_left
                ·show Act.put _ (some 59) _ = _
                 simp only [Act.put, sT, sZ, sS, i64_w, i32_w]
                 rfl
                refine pure_ (i := 20) (N := some 60) (v := ?_) (a' := ?_) #[tb,tb,tb,tb,tb,tb,tb,tb,tb,tb,tb,tb,tb,tb,tb,tb,tb,tb,tb,tb,tb,fb,fb,fb,fb,fb,fb,fb,fb,fb,fb,fb,fb,fb,fb,fb,fb,fb,fb,fb,fb,fb,fb,fb,fb,fb,fb,fb,fb,fb,fb,fb] rfl rfl (any_of HT_.out (by kernel_rfl)) (fun _ _ _ h => h) (Or.inl ⟨by rfl, ?_⟩) ?_ ?_
                rotate_left
                ·intro w'
                 go_simp
                 with_reducible rfl
                rotate_left
                ·simp only [Act.put, sT, sZ, sS, i64_w, i32_w]
                 rfl
                refine pure_ (i := 21) (N := some 61) (v := ?_) (a' := ?_) #[tb,tb,tb,tb,tb,tb,tb,tb,tb,tb,tb,tb,tb,tb,tb,tb,tb,tb,tb,tb,tb,tb,fb,fb,fb,fb,fb,fb,fb,fb,fb,fb,fb,fb,fb,fb,fb,fb,fb,fb,fb,fb,fb,fb,fb,fb,fb,fb,fb,fb,fb,fb] rfl rfl (any_of HT_.out (by kernel_rfl)) (fun _ _ _ h => h) (Or.inl ⟨by rfl, ?_⟩) ?_ ?_
                rotate_left
                ·intro w'
                 go_simp
                 with_reducible rfl
                rotate_left
                ·simp only [Act.put, sT, sZ, sS, i64_w, i32_w]
                 rfl
                refine pure_ (i := 22) (N := some 62) (v := ?_) (a' := ?_) #[tb,tb,tb,tb,tb,tb,tb,tb,tb,tb,tb,tb,tb,tb,tb,tb,tb,tb,tb,tb,tb,tb,tb,fb,fb,fb,fb,fb,fb,fb,fb,fb,fb,fb,fb,fb,fb,fb,fb,fb,fb,fb,fb,fb,fb,fb,fb,fb,fb,fb,fb,fb] rfl rfl (any_of HT_.out (by kernel_rfl)) (fun _ _ _ h => h) (Or.inl ⟨by rfl, ?_⟩) ?_ ?_
                rotate_left
                ·intro w'
                 go_simp
                 with_reducible rfl
                rotate_left
                ·simp only [Act.put, sT, sZ, sS, i64_w, i32_w]
                 rfl
                refine pure_ (i := 23) (N := some 63) (v := ?_) (a' := ?_) #[tb,tb,tb,tb,tb,tb,tb,tb,tb,tb,tb,tb,tb,tb,tb,tb,tb,tb,tb,tb,tb,tb,tb,tb,fb,fb,fb,fb,fb,fb,fb,fb,fb,fb,fb,fb,fb,fb,fb,fb,fb,fb,fb,fb,fb,fb,fb,fb,fb,fb,fb,fb] rfl rfl (any_of HT_.out (by kernel_rfl)) (fun _ _ _ h => h) (Or.inl ⟨by rfl, ?_⟩) ?_ ?_
                rotate_left
                ·intro w'
                 go_simp
                 with_reducible rfl
                rotate_left
                ·simp only [Act.put, sT, sZ, sS, i64_w, i32_w]
                 rfl
                refine pure_ (i := 25) (N := some 65) (v := ?_) (a' := ?_) #[tb,tb,tb,tb,tb,tb,tb,tb,tb,tb,tb,tb,tb,tb,tb,tb,tb,tb,tb,tb,tb,tb,tb,tb,fb,tb,fb,fb,fb,fb,fb,fb,fb,fb,fb,fb,fb,fb,fb,fb,fb,fb,fb,fb,fb,fb,fb,fb,fb,fb,fb,fb] rfl rfl (any_of HT_.out (by kernel_rfl)) (fun _ _ _ h => h) (Or.inl ⟨by rfl, ?_⟩) ?_ ?_
                rotate_left
                ·intro w'
                 go_simp
                 with_reducible rfl
                rotate_left
                ·simp only [Act.put, sT, sZ, sS, i64_w, i32_w]
                 rfl
                refine one_ (i := 24) (N := some 64) #[tb,tb,tb,tb,tb,tb,tb,tb,tb,tb,tb,tb,tb,tb,tb,tb,tb,tb,tb,tb,tb,tb,tb,tb,tb,tb,fb,fb,fb,fb,fb,fb,fb,fb,fb,fb,fb,fb,fb,fb,fb,fb,fb,fb,fb,fb,fb,fb,fb,fb,fb,fb] rfl rfl (one_of HT_.out (by kernel_rfl)) (by decide) (fun K hK => ?_)
                refine goes_ Try.func17 (by kernel_rfl) rfl #[.string ((rd_T26 l0 x4_2).f0)] (by rfl) rfl rfl (by (try simp only [List.map_toArray, List.map_cons, List.map_nil]); first | done | rfl | (simp only [List.length_drop, List.length_take]; rfl)) ?_
                with_reducible refine (utf_Count.calls kj7 ((rd_T26 l0 x4_2).f0) t186 _ A23.out).mono ?_
                rintro e w62 ⟨rfl, hb⟩
                refine ⟨_, rfl, ?_⟩
                have n0_ := Aside0.mk (below_step (by repeat (first | (with_reducible first | exact HB.out | apply below_alloc | apply pw_below_drewN | apply below_drew1) | exact HB.out)) hb)
                clear HB
                have HB := n0_
                clear n0_
                (try clear hb)
                (try clear hb2)
                (try clear hk)
                (try clear hi)
                refine hK.out _ _ trivial (fun hHeld => ?_)
                clear hK K
                refine norm_ (a' := ?_) ?_ ?_
                rotate_left
                ·show Act.put _ (some 64) _ = _
                 simp only [Act.put, sT, sZ, sS, i64_w, i32_w]
                 rfl
                refine one_ (i := 26) (N := some 66) #[tb,tb,tb,tb,tb,tb,tb,tb,tb,tb,tb,tb,tb,tb,tb,tb,tb,tb,tb,tb,tb,tb,tb,tb,tb,tb,tb,fb,fb,fb,fb,fb,fb,fb,fb,fb,fb,fb,fb,fb,fb,fb,fb,fb,fb,fb,fb,fb,fb,fb,fb,fb] rfl rfl (one_of HT_.out (by kernel_rfl)) (by decide) (fun K hK => ?_)
                refine goes_ Try.func18 (by kernel_rfl) rfl #[.string ((rd_T26 l0 x4_2).f0)] (by rfl) rfl rfl (by (try simp only [List.map_toArray, List.map_cons, List.map_nil]); first | done | rfl | (simp only [List.length_drop, List.length_take]; rfl)) ?_
                with_reducible refine (stratumref03_Count.calls kj7 ((rd_T26 l0 x4_2).f0) t187 _ A24.out).mono ?_
                rintro e w63 ⟨rfl, hb⟩
                refine ⟨_, rfl, ?_⟩
                have n0_ := Aside0.mk (below_step (by repeat (first | (with_reducible first | exact HB.out | apply below_alloc | apply pw_below_drewN | apply below_drew1) | exact HB.out)) hb)
                clear HB
                have HB := n0_
                clear n0_
                (try clear hb)
                (try clear hb2)
                (try clear hk)
                (try clear hi)
                refine hK.out _ _ trivial (fun hHeld => ?_)
                clear hK K
                refine norm_ (a' := ?_) ?_ ?_
                rotate_left
                ·show Act.put _ (some 66) _ = _
                 simp only [Act.put, sT, sZ, sS, i64_w, i32_w]
                 rfl
                refine pure_ (i := 27) (N := some 67) (v := ?_) (a' := ?_) #[tb,tb,tb,tb,tb,tb,tb,tb,tb,tb,tb,tb,tb,tb,tb,tb,tb,tb,tb,tb,tb,tb,tb,tb,tb,tb,tb,tb,fb,fb,fb,fb,fb,fb,fb,fb,fb,fb,fb,fb,fb,fb,fb,fb,fb,fb,fb,fb,fb,fb,fb,fb] rfl rfl (any_of HT_.out (by kernel_rfl)) (fun _ _ _ h => h) (Or.inl ⟨by rfl, ?_⟩) ?_ ?_
                rotate_left
                ·intro w'
                 go_simp
                 with_reducible rfl
                rotate_left
                ·simp only [Act.put, sT, sZ, sS, i64_w, i32_w]
                 rfl
                refine pure_ (i := 28) (N := some 68) (v := ?_) (a' := ?_) #[tb,tb,tb,tb,tb,tb,tb,tb,tb,tb,tb,tb,tb,tb,tb,tb,tb,tb,tb,tb,tb,tb,tb,tb,tb,tb,tb,tb,tb,fb,fb,fb,fb,fb,fb,fb,fb,fb,fb,fb,fb,fb,fb,fb,fb,fb,fb,fb,fb,fb,fb,fb] rfl rfl (any_of HT_.out (by kernel_rfl)) (fun _ _ _ h => h) (Or.inl ⟨by rfl, ?_⟩) ?_ ?_
                rotate_left
                ·intro w'
                 go_simp
                 with_reducible rfl
                rotate_left
                ·simp only [Act.put, sT, sZ, sS, i64_w, i32_w]
                 rfl
                refine pure_ (i := 29) (N := some 69) (v := ?_) (a' := ?_) #[tb,tb,tb,tb,tb,tb,tb,tb,tb,tb,tb,tb,tb,tb,tb,tb,tb,tb,tb,tb,tb,tb,tb,tb,tb,tb,tb,tb,tb,tb,fb,fb,fb,fb,fb,fb,fb,fb,fb,fb,fb,fb,fb,fb,fb,fb,fb,fb,fb,fb,fb,fb] rfl rfl (any_of HT_.out (by kernel_rfl)) (fun _ _ _ h => h) (Or.inl ⟨by rfl, ?_⟩) ?_ ?_
                rotate_left
                ·intro w'
                 go_simp
                 with_reducible rfl
                rotate_left
                ·simp only [Act.put, sT, sZ, sS, i64_w, i32_w]
                 rfl
                refine pure_ (i := 30) (N := some 70) (v := undef) (a' := ?_) #[tb,tb,tb,tb,tb,tb,tb,tb,tb,tb,tb,tb,tb,tb,tb,tb,tb,tb,tb,tb,tb,tb,tb,tb,tb,tb,tb,tb,tb,tb,tb,fb,fb,fb,fb,fb,fb,fb,fb,fb,fb,fb,fb,fb,fb,fb,fb,fb,fb,fb,fb,fb] rfl rfl (any_of HT_.out (by kernel_rfl)) (fun _ _ _ h => h) (Or.inr ⟨by rfl, rfl⟩) ?_ ?_
                rotate_left
                ·simp only [Act.put, sT, sZ, sS, i64_w, i32_w]
                 rfl
                refine pure_ (i := 31) (N := some 71) (v := undef) (a' := ?_) #[tb,tb,tb,tb,tb,tb,tb,tb,tb,tb,tb,tb,tb,tb,tb,tb,tb,tb,tb,tb,tb,tb,tb,tb,tb,tb,tb,tb,tb,tb,tb,tb,fb,fb,fb,fb,fb,fb,fb,fb,fb,fb,fb,fb,fb,fb,fb,fb,fb,fb,fb,fb] rfl rfl (any_of HT_.out (by kernel_rfl)) (fun _ _ _ h => h) (Or.inr ⟨by rfl, rfl⟩) ?_ ?_
                rotate_left
                ·simp only [Act.put, sT, sZ, sS, i64_w, i32_w]
                 rfl
                refine pure_ (i := 32) (N := some 72) (v := undef) (a' := ?_) #[tb,tb,tb,tb,tb,tb,tb,tb,tb,tb,tb,tb,tb,tb,tb,tb,tb,tb,tb,tb,tb,tb,tb,tb,tb,tb,tb,tb,tb,tb,tb,tb,tb,fb,fb,fb,fb,fb,fb,fb,fb,fb,fb,fb,fb,fb,fb,fb,fb,fb,fb,fb] rfl rfl (any_of HT_.out (by kernel_rfl)) (fun _ _ _ h => h) (Or.inr ⟨by rfl, rfl⟩) ?_ ?_
                rotate_left
                ·simp only [Act.put, sT, sZ, sS, i64_w, i32_w]
                 rfl
                refine pure_ (i := 33) (N := some 73) (v := undef) (a' := ?_) #[tb,tb,tb,tb,tb,tb,tb,tb,tb,tb,tb,tb,tb,tb,tb,tb,tb,tb,tb,tb,tb,tb,tb,tb,tb,tb,tb,tb,tb,tb,tb,tb,tb,tb,fb,fb,fb,fb,fb,fb,fb,fb,fb,fb,fb,fb,fb,fb,fb,fb,fb,fb] rfl rfl (any_of HT_.out (by kernel_rfl)) (fun _ _ _ h => h) (Or.inr ⟨by rfl, rfl⟩) ?_ ?_
                rotate_left
                ·simp only [Act.put, sT, sZ, sS, i64_w, i32_w]
                 rfl
                refine pure_ (i := 34) (N := some 74) (v := undef) (a' := ?_) #[tb,tb,tb,tb,tb,tb,tb,tb,tb,tb,tb,tb,tb,tb,tb,tb,tb,tb,tb,tb,tb,tb,tb,tb,tb,tb,tb,tb,tb,tb,tb,tb,tb,tb,tb,fb,fb,fb,fb,fb,fb,fb,fb,fb,fb,fb,fb,fb,fb,fb,fb,fb] rfl rfl (any_of HT_.out (by kernel_rfl)) (fun _ _ _ h => h) (Or.inr ⟨by rfl, rfl⟩) ?_ ?_
                rotate_left
                ·simp only [Act.put, sT, sZ, sS, i64_w, i32_w]
                 rfl
                refine pure_ (i := 35) (N := some 75) (v := ?_) (a' := ?_) #[tb,tb,tb,tb,tb,tb,tb,tb,tb,tb,tb,tb,tb,tb,tb,tb,tb,tb,tb,tb,tb,tb,tb,tb,tb,tb,tb,tb,tb,tb,tb,tb,tb,tb,tb,tb,fb,fb,fb,fb,fb,fb,fb,fb,fb,fb,fb,fb,fb,fb,fb,fb] rfl rfl (any_of HT_.out (by kernel_rfl)) (fun _ _ _ h => h) (Or.inl ⟨by rfl, ?_⟩) ?_ ?_
                rotate_left
                ·intro w'
                 go_simp
                 with_reducible rfl
                rotate_left
                ·simp only [Act.put, sT, sZ, sS, i64_w, i32_w]
                 rfl
                refine pure_ (i := 36) (N := some 76) (v := ?_) (a' := ?_) #[tb,tb,tb,tb,tb,tb,tb,tb,tb,tb,tb,tb,tb,tb,tb,tb,tb,tb,tb,tb,tb,tb,tb,tb,tb,tb,tb,tb,tb,tb,tb,tb,tb,tb,tb,tb,tb,fb,fb,fb,fb,fb,fb,fb,fb,fb,fb,fb,fb,fb,fb,fb] rfl rfl (any_of HT_.out (by kernel_rfl)) (fun _ _ _ h => h) (Or.inl ⟨by rfl, ?_⟩) ?_ ?_
                rotate_left
                ·intro w'
                 go_simp
                 with_reducible rfl
                rotate_left
                ·simp only [Act.put, sT, sZ, sS, i64_w, i32_w]
                 rfl
                refine pure_ (i := 37) (N := some 77) (v := undef) (a' := ?_) #[tb,tb,tb,tb,tb,tb,tb,tb,tb,tb,tb,tb,tb,tb,tb,tb,tb,tb,tb,tb,tb,tb,tb,tb,tb,tb,tb,tb,tb,tb,tb,tb,tb,tb,tb,tb,tb,tb,fb,fb,fb,fb,fb,fb,fb,fb,fb,fb,fb,fb,fb,fb] rfl rfl (any_of HT_.out (by kernel_rfl)) (fun _ _ _ h => h) (Or.inr ⟨by rfl, rfl⟩) ?_ ?_
                rotate_left
                ·simp only [Act.put, sT, sZ, sS, i64_w, i32_w]
                 rfl
                refine pure_ (i := 38) (N := some 78) (v := undef) (a' := ?_) #[tb,tb,tb,tb,tb,tb,tb,tb,tb,tb,tb,tb,tb,tb,tb,tb,tb,tb,tb,tb,tb,tb,tb,tb,tb,tb,tb,tb,tb,tb,tb,tb,tb,tb,tb,tb,tb,tb,tb,fb,fb,fb,fb,fb,fb,fb,fb,fb,fb,fb,fb,fb] rfl rfl (any_of HT_.out (by kernel_rfl)) (fun _ _ _ h => h) (Or.inr ⟨by rfl, rfl⟩) ?_ ?_
                rotate_left
                ·simp only [Act.put, sT, sZ, sS, i64_w, i32_w]
                 rfl
                refine pure_ (i := 39) (N := some 79) (v := undef) (a' := ?_) #[tb,tb,tb,tb,tb,tb,tb,tb,tb,tb,tb,tb,tb,tb,tb,tb,tb,tb,tb,tb,tb,tb,tb,tb,tb,tb,tb,tb,tb,tb,tb,tb,tb,tb,tb,tb,tb,tb,tb,tb,fb,fb,fb,fb,fb,fb,fb,fb,fb,fb,fb,fb] rfl rfl (any_of HT_.out (by kernel_rfl)) (fun _ _ _ h => h) (Or.inr ⟨by rfl, rfl⟩) ?_ ?_
                rotate_left
                ·simp only [Act.put, sT, sZ, sS, i64_w, i32_w]
                 rfl
                refine pure_ (i := 40) (N := some 80) (v := undef) (a' := ?_) #[tb,tb,tb,tb,tb,tb,tb,tb,tb,tb,tb,tb,tb,tb,tb,tb,tb,tb,tb,tb,tb,tb,tb,tb,tb,tb,tb,tb,tb,tb,tb,tb,tb,tb,tb,tb,tb,tb,tb,tb,tb,fb,fb,fb,fb,fb,fb,fb,fb,fb,fb,fb] rfl rfl (any_of HT_.out (by kernel_rfl)) (fun _ _ _ h => h) (Or.inr ⟨by rfl, rfl⟩) ?_ ?_
                rotate_left
                ·simp only [Act.put, sT, sZ, sS, i64_w, i32_w]
                 rfl
                refine pure_ (i := 41) (N := some 81) (v := undef) (a' := ?_) #[tb,tb,tb,tb,tb,tb,tb,tb,tb,tb,tb,tb,tb,tb,tb,tb,tb,tb,tb,tb,tb,tb,tb,tb,tb,tb,tb,tb,tb,tb,tb,tb,tb,tb,tb,tb,tb,tb,tb,tb,tb,tb,fb,fb,fb,fb,fb,fb,fb,fb,fb,fb] rfl rfl (any_of HT_.out (by kernel_rfl)) (fun _ _ _ h => h) (Or.inr ⟨by rfl, rfl⟩) ?_ ?_
                rotate_left
                ·simp only [Act.put, sT, sZ, sS, i64_w, i32_w]
                 rfl
                refine pure_ (i := 42) (N := some 82) (v := undef) (a' := ?_) #[tb,tb,tb,tb,tb,tb,tb,tb,tb,tb,tb,tb,tb,tb,tb,tb,tb,tb,tb,tb,tb,tb,tb,tb,tb,tb,tb,tb,tb,tb,tb,tb,tb,tb,tb,tb,tb,tb,tb,tb,tb,tb,tb,fb,fb,fb,fb,fb,fb,fb,fb,fb] rfl rfl (any_of HT_.out (by kernel_rfl)) (fun _ _ _ h => h) (Or.inr ⟨by rfl, rfl⟩) ?_ ?_
                rotate_left
                ·simp only [Act.put, sT, sZ, sS, i64_w, i32_w]
                 rfl
                refine pure_ (i := 43) (N := some 83) (v := undef) (a' := ?_) #[tb,tb,tb,tb,tb,tb,tb,tb,tb,tb,tb,tb,tb,tb,tb,tb,tb,tb,tb,tb,tb,tb,tb,tb,tb,tb,tb,tb,tb,tb,tb,tb,tb,tb,tb,tb,tb,tb,tb,tb,tb,tb,tb,tb,fb,fb,fb,fb,fb,fb,fb,fb] rfl rfl (any_of HT_.out (by kernel_rfl)) (fun _ _ _ h => h) (Or.inr ⟨by rfl, rfl⟩) ?_ ?_
                rotate_left
                ·simp only [Act.put, sT, sZ, sS, i64_w, i32_w]
                 rfl
                refine pure_ (i := 44) (N := some 84) (v := undef) (a' := ?_) #[tb,tb,tb,tb,tb,tb,tb,tb,tb,tb,tb,tb,tb,tb,tb,tb,tb,tb,tb,tb,tb,tb,tb,tb,tb,tb,tb,tb,tb,tb,tb,tb,tb,tb,tb,tb,tb,tb,tb,tb,tb,tb,tb,tb,tb,fb,fb,fb,fb,fb,fb,fb] rfl rfl (any_of HT_.out (by kernel_rfl)) (fun _ _ _ h => h) (Or.inr ⟨by rfl, rfl⟩) ?_ ?_
                rotate_left
                ·simp only [Act.put, sT, sZ, sS, i64_w, i32_w]
                 rfl
                refine pure_ (i := 45) (N := some 85) (v := undef) (a' := ?_) #[tb,tb,tb,tb,tb,tb,tb,tb,tb,tb,tb,tb,tb,tb,tb,tb,tb,tb,tb,tb,tb,tb,tb,tb,tb,tb,tb,tb,tb,tb,tb,tb,tb,tb,tb,tb,tb,tb,tb,tb,tb,tb,tb,tb,tb,tb,fb,fb,fb,fb,fb,fb] rfl rfl (any_of HT_.out (by kernel_rfl)) (fun _ _ _ h => h) (Or.inr ⟨by rfl, rfl⟩) ?_ ?_
                rotate_left
                ·simp only [Act.put, sT, sZ, sS, i64_w, i32_w]
                 rfl
                refine pure_ (i := 46) (N := some 86) (v := undef) (a' := ?_) #[tb,tb,tb,tb,tb,tb,tb,tb,tb,tb,tb,tb,tb,tb,tb,tb,tb,tb,tb,tb,tb,tb,tb,tb,tb,tb,tb,tb,tb,tb,tb,tb,tb,tb,tb,tb,tb,tb,tb,tb,tb,tb,tb,tb,tb,tb,tb,fb,fb,fb,fb,fb] rfl rfl (any_of HT_.out (by kernel_rfl)) (fun _ _ _ h => h) (Or.inr ⟨by rfl, rfl⟩) ?_ ?_
                rotate_left
                ·simp only [Act.put, sT, sZ, sS, i64_w, i32_w]
                 rfl
                refine pure_ (i := 47) (N := some 87) (v := undef) (a' := ?_) #[tb,tb,tb,tb,tb,tb,tb,tb,tb,tb,tb,tb,tb,tb,tb,tb,tb,tb,tb,tb,tb,tb,tb,tb,tb,tb,tb,tb,tb,tb,tb,tb,tb,tb,tb,tb,tb,tb,tb,tb,tb,tb,tb,tb,tb,tb,tb,tb,fb,fb,fb,fb] rfl rfl (any_of HT_.out (by kernel_rfl)) (fun _ _ _ h => h) (Or.inr ⟨by rfl, rfl⟩) ?_ ?_
                rotate_left
                ·simp only [Act.put, sT, sZ, sS, i64_w, i32_w]
                 rfl
                refine pure_ (i := 48) (N := some 88) (v := undef) (a' := ?_) #[tb,tb,tb,tb,tb,tb,tb,tb,tb,tb,tb,tb,tb,tb,tb,tb,tb,tb,tb,tb,tb,tb,tb,tb,tb,tb,tb,tb,tb,tb,tb,tb,tb,tb,tb,tb,tb,tb,tb,tb,tb,tb,tb,tb,tb,tb,tb,tb,tb,fb,fb,fb] rfl rfl (any_of HT_.out (by kernel_rfl)) (fun _ _ _ h => h) (Or.inr ⟨by rfl, rfl⟩) ?_ ?_
                rotate_left
                ·simp only [Act.put, sT, sZ, sS, i64_w, i32_w]
                 rfl
                refine pure_ (i := 49) (N := some 89) (v := undef) (a' := ?_) #[tb,tb,tb,tb,tb,tb,tb,tb,tb,tb,tb,tb,tb,tb,tb,tb,tb,tb,tb,tb,tb,tb,tb,tb,tb,tb,tb,tb,tb,tb,tb,tb,tb,tb,tb,tb,tb,tb,tb,tb,tb,tb,tb,tb,tb,tb,tb,tb,tb,tb,fb,fb] rfl rfl (any_of HT_.out (by kernel_rfl)) (fun _ _ _ h => h) (Or.inr ⟨by rfl, rfl⟩) ?_ ?_
                rotate_left
                ·simp only [Act.put, sT, sZ, sS, i64_w, i32_w]
                 rfl
                refine pure_ (i := 50) (N := some 90) (v := ?_) (a' := ?_) #[tb,tb,tb,tb,tb,tb,tb,tb,tb,tb,tb,tb,tb,tb,tb,tb,tb,tb,tb,tb,tb,tb,tb,tb,tb,tb,tb,tb,tb,tb,tb,tb,tb,tb,tb,tb,tb,tb,tb,tb,tb,tb,tb,tb,tb,tb,tb,tb,tb,tb,tb,fb] rfl rfl (any_of HT_.out (by kernel_rfl)) (fun _ _ _ h => h) (Or.inl ⟨by rfl, ?_⟩) ?_ ?_
                rotate_left
                ·intro w'
                 go_simp
                 with_reducible rfl
                rotate_left
                ·simp only [Act.put, sT, sZ, sS, i64_w, i32_w]
                 rfl
                refine pure_ (i := 51) (N := some 3) (v := ?_) (a' := ?_) #[tb,tb,tb,tb,tb,tb,tb,tb,tb,tb,tb,tb,tb,tb,tb,tb,tb,tb,tb,tb,tb,tb,tb,tb,tb,tb,tb,tb,tb,tb,tb,tb,tb,tb,tb,tb,tb,tb,tb,tb,tb,tb,tb,tb,tb,tb,tb,tb,tb,tb,tb,tb] rfl rfl (any_of HT_.out (by kernel_rfl)) (fun _ _ _ h => h) (Or.inl ⟨by rfl, ?_⟩) ?_ ?_
                rotate_left
                ·intro w'
                 go_simp
                 with_reducible rfl
                rotate_left
                ·simp only [Act.put, sT, sZ, sS, i64_w, i32_w]
                 rfl
                refine done_ (done_of HT_.out (by kernel_rfl)) ?_
                try go_wp2
                go_roundg kj7
                case measure => have := HJ2.out; have := HK2.out; have := HJ7.out; omega
                case rel => exact ⟨(false), (wrap64 (x4_2 + 1)), (by first | rfl | (simp; done) | (simp [*]; done)), (by first | rfl | (simp; done) | (simp [*]; done)), H', ⟨by have := HJ2.out; have := HK2.out; have := HJ7.out; omega⟩, ⟨by repeat (first | (with_reducible first | exact HB.out | apply below_alloc | apply pw_below_drewN | apply below_drew1) | exact HB.out)⟩⟩
              ·rw [if_neg c22] at H
               have c22b0 : (t184 == t185) = false := by simpa using c22
               (try (have c22b1 : decide (t184 = t185) = false := by simpa using c22))
               (try (have c22b2 : (t184 == t185) = false := by simpa using c22))
               (try (have c22b3 : ¬ (t184 = t185) := by simpa using c22))
               clear c22
               have H' := Aside0.mk H
               clear H
               have p177 : 0 ≤ (x4_2 : Int) := of_decide_eq_true (by first | (with_reducible assumption) | assumption)
               have q177 : x4_2 < (l0.length : Int) := of_decide_eq_true (by first | (with_reducible assumption) | assumption)
               obtain ⟨ad177, e177, hx177_0, hx177_1⟩ := at_T26 HR0.out x4_2 p177 q177
               cases e177
               replace hx177_0 := (HB.out.cell (World.block_lt_of_cell? w _ hx177_0)).trans hx177_0
               replace hx177_1 := (HB.out.cell (World.block_lt_of_cell? w _ hx177_1)).trans hx177_1
               replace p177 := eq_true p177
               replace q177 := eq_true q177
               try go_wp2_with (first | ((with_reducible refine gate_callee (f := 11) rfl ?_); refine goesL_ (some 32) rfl rfl Try.func11 (by kernel_rfl) rfl #[.string ((rd_T26 l0 x4_2).f0)] rfl (by (try simp only [List.map_toArray, List.map_cons, List.map_nil]); first | done | rfl | (simp only [List.length_drop, List.length_take]; rfl)) ?_; (with_reducible refine (utf_Next.calls ((rd_T26 l0 x4_2).f0) t178 t179 _ A13.out).mono ?_); rintro e w64 ⟨rfl, hb⟩; refine ⟨_, rfl, ?_⟩; have n0_ := Aside0.mk (below_step (by repeat (first | (with_reducible first | exact HB.out | apply below_alloc | apply pw_below_drewN | apply below_drew1) | exact HB.out)) hb); clear HB; have HB := n0_; clear n0_; (try clear hb); (try clear hb2); (try clear hk); (try clear hi)) | ((with_reducible refine gate_callee (f := 12) rfl ?_); refine goesL_ (some 37) rfl rfl Try.func12 (by kernel_rfl) rfl #[.string ((rd_T26 l0 x4_2).f0)] rfl (by (try simp only [List.map_toArray, List.map_cons, List.map_nil]); first | done | rfl | (simp only [List.length_drop, List.length_take]; rfl)) ?_; (with_reducible refine (stratumref03_Next.calls kj7 ((rd_T26 l0 x4_2).f0) t180 t181 _ A14.out).mono ?_); rintro e w65 ⟨rfl, hb⟩; refine ⟨_, rfl, ?_⟩; have n0_ := Aside0.mk (below_step (by repeat (first | (with_reducible first | exact HB.out | apply below_alloc | apply pw_below_drewN | apply below_drew1) | exact HB.out)) hb); clear HB; have HB := n0_; clear n0_; (try clear hb); (try clear hb2); (try clear hk); (try clear hi)))
               have n0_ := Aside0.mk (below_drew1 HB.out)
               clear HB
               have HB := n0_
               clear n0_
               refine start_ (n := 52) (S := fun w' => True) (ds := []) #[fb,fb,fb,fb,fb,fb,fb,fb,fb,fb,fb,fb,fb,fb,fb,fb,fb,fb,fb,fb,fb,fb,fb,fb,fb,fb,fb,fb,fb,fb,fb,fb,fb,fb,fb,fb,fb,fb,fb,fb,fb,fb,fb,fb,fb,fb,fb,fb,fb,fb,fb,fb] (by kernel_rfl) rfl rfl trivial (fun hHeld => ?_); refine with_tabW stratumlaw03_UtfAll.tab10 stratumlaw03_UtfAll.bits10 (fun HT_ HW_ => ?_)
               generalize w65.drew = w66 at HB hHeld ⊢
               refine pure_ (i := 0) (N := some 40) (v := ?_) (a' := ?_) #[tb,fb,fb,fb,fb,fb,fb,fb,fb,fb,fb,fb,fb,fb,fb,fb,fb,fb,fb,fb,fb,fb,fb,fb,fb,fb,fb,fb,fb,fb,fb,fb,fb,fb,fb,fb,fb,fb,fb,fb,fb,fb,fb,fb,fb,fb,fb,fb,fb,fb,fb,fb] rfl rfl (any_of HT_.out (by kernel_rfl)) (fun _ _ _ h => h) (Or.inl ⟨by rfl, ?_⟩) ?_ ?_
               rotate_left
               ·intro w'
                go_simp
                with_reducible rfl
               rotate_left
               ·simp only [Act.put, sT, sZ, sS, i64_w, i32_w]
                rfl
               refine pure_ (i := 1) (N := some 41) (v := ?_) (a' := ?_) #[tb,tb,fb,fb,fb,fb,fb,fb,fb,fb,fb,fb,fb,fb,fb,fb,fb,fb,fb,fb,fb,fb,fb,fb,fb,fb,fb,fb,fb,fb,fb,fb,fb,fb,fb,fb,fb,fb,fb,fb,fb,fb,fb,fb,fb,fb,fb,fb,fb,fb,fb,fb] rfl rfl (any_of HT_.out (by kernel_rfl)) (fun _ _ _ h => h) (Or.inl ⟨by rfl, ?_⟩) ?_ ?_
               rotate_left
               ·intro w'
                go_simp
                with_reducible rfl
               rotate_left
               ·simp only [Act.put, sT, sZ, sS, i64_w, i32_w]
                rfl
               refine pure_ (i := 2) (N := some 42) (v := ?_) (a' := ?_) #[tb,tb,tb,fb,fb,fb,fb,fb,fb,fb,fb,fb,fb,fb,fb,fb,fb,fb,fb,fb,fb,fb,fb,fb,fb,fb,fb,fb,fb,fb,fb,fb,fb,fb,fb,fb,fb,fb,fb,fb,fb,fb,fb,fb,fb,fb,fb,fb,fb,fb,fb,fb] rfl rfl (any_of HT_.out (by kernel_rfl)) (fun _ _ _ h => h) (Or.inl ⟨by rfl, ?_⟩) ?_ ?_
               rotate_left
               ·intro w'
                go_simp
                with_reducible rfl
               rotate_left
               ·simp only [Act.put, sT, sZ, sS, i64_w, i32_w]
                rfl
               refine pure_ (i := 3) (N := some 43) (v := ?_) (a' := ?_) #[tb,tb,tb,tb,fb,fb,fb,fb,fb,fb,fb,fb,fb,fb,fb,fb,fb,fb,fb,fb,fb,fb,fb,fb,fb,fb,fb,fb,fb,fb,fb,fb,fb,fb,fb,fb,fb,fb,fb,fb,fb,fb,fb,fb,fb,fb,fb,fb,fb,fb,fb,fb] rfl rfl (any_of HT_.out (by kernel_rfl)) (fun _ _ _ h => h) (Or.inl ⟨by rfl, ?_⟩) ?_ ?_
               rotate_left
               ·intro w'
                go_simp
                with_reducible rfl
               rotate_left
               ·simp only [Act.put, sT, sZ, sS, i64_w, i32_w]
                rfl
               refine pure_ (i := 4) (N := some 44) (v := ?_) (a' := ?_) #[tb,tb,tb,tb,tb,fb,fb,fb,fb,fb,fb,fb,fb,fb,fb,fb,fb,fb,fb,fb,fb,fb,fb,fb,fb,fb,fb,fb,fb,fb,fb,fb,fb,fb,fb,fb,fb,fb,fb,fb,fb,fb,fb,fb,fb,fb,fb,fb,fb,fb,fb,fb] rfl rfl (any_of HT_.out (by kernel_rfl)) (fun _ _ _ h => h) (Or.inl ⟨by rfl, ?_⟩) ?_ ?_
               rotate_left
               ·intro w'
                go_simp
                with_reducible rfl
               rotate_left
               ·simp only [Act.put, sT, sZ, sS, i64_w, i32_w]
                rfl
               refine pure_ (i := 5) (N := some 45) (v := ?_) (a' := ?_) #[tb,tb,tb,tb,tb,tb,fb,fb,fb,fb,fb,fb,fb,fb,fb,fb,fb,fb,fb,fb,fb,fb,fb,fb,fb,fb,fb,fb,fb,fb,fb,fb,fb,fb,fb,fb,fb,fb,fb,fb,fb,fb,fb,fb,fb,fb,fb,fb,fb,fb,fb,fb] rfl rfl (any_of HT_.out (by kernel_rfl)) (fun _ _ _ h => h) (Or.inl ⟨by rfl, ?_⟩) ?_ ?_
               rotate_left
               ·intro w'
                go_simp
                with_reducible rfl
               rotate_left
               ·simp only [Act.put, sT, sZ, sS, i64_w, i32_w]
                rfl
               refine pure_ (i := 6) (N := some 46) (v := ?_) (a' := ?_) #[tb,tb,tb,tb,tb,tb,tb,fb,fb,fb,fb,fb,fb,fb,fb,fb,fb,fb,fb,fb,fb,fb,fb,fb,fb,fb,fb,fb,fb,fb,fb,fb,fb,fb,fb,fb,fb,fb,fb,fb,fb,fb,fb,fb,fb,fb,fb,fb,fb,fb,fb,fb] rfl rfl (any_of HT_.out (by kernel_rfl)) (fun _ _ _ h => h) (Or.inl ⟨by rfl, ?_⟩) ?_ ?_
               rotate_left
               ·intro w'
                go_simp
                with_reducible rfl
               rotate_left
               ·simp only [Act.put, sT, sZ, sS, i64_w, i32_w]
                rfl
               refine pure_ (i := 7) (N := some 47) (v := ?_) (a' := ?_) #[tb,tb,tb,tb,tb,tb,tb,tb,fb,fb,fb,fb,fb,fb,fb,fb,fb,fb,fb,fb,fb,fb,fb,fb,fb,fb,fb,fb,fb,fb,fb,fb,fb,fb,fb,fb,fb,fb,fb,fb,fb,fb,fb,fb,fb,fb,fb,fb,fb,fb,fb,fb] rfl rfl (any_of HT_.out (by kernel_rfl)) (fun _ _ _ h => h) (Or.inl ⟨by rfl, ?_⟩) ?_ ?_
               rotate_left
               ·intro w'
                go_simp
                with_reducible rfl
               rotate_left
               ·simp only [Act.put, sT, sZ, sS, i64_w, i32_w]
                rfl
               refine pure_ (i := 8) (N := some 48) (v := ?_) (a' := ?_) #[tb,tb,tb,tb,tb,tb,tb,tb,tb,fb,fb,fb,fb,fb,fb,fb,fb,fb,fb,fb,fb,fb,fb,fb,fb,fb,fb,fb,fb,fb,fb,fb,fb,fb,fb,fb,fb,fb,fb,fb,fb,fb,fb,fb,fb,fb,fb,fb,fb,fb,fb,fb] rfl rfl (any_of HT_.out (by kernel_rfl)) (fun _ _ _ h => h) (Or.inl ⟨by rfl, ?_⟩) ?_ ?_
               rotate_left
               ·intro w'
                go_simp
                with_reducible rfl
               rotate_left
               ·simp only [Act.put, sT, sZ, sS, i64_w, i32_w]
                rfl
               refine pure_ (i := 9) (N := some 49) (v := ?_) (a' := ?_) #[tb,tb,tb,tb,tb,tb,tb,tb,tb,tb,fb,fb,fb,fb,fb,fb,fb,fb,fb,fb,fb,fb,fb,fb,fb,fb,fb,fb,fb,fb,fb,fb,fb,fb,fb,fb,fb,fb,fb,fb,fb,fb,fb,fb,fb,fb,fb,fb,fb,fb,fb,fb] rfl rfl (any_of HT_.out (by kernel_rfl)) (fun _ _ _ h => h) (Or.inl ⟨by rfl, ?_⟩) ?_ ?_
               rotate_left
               ·intro w'
                go_simp
                with_reducible rfl
               rotate_left
               ·simp only [Act.put, sT, sZ, sS, i64_w, i32_w]
                rfl
               refine pure_ (i := 11) (N := some 51) (v := ?_) (a' := ?_) #[tb,tb,tb,tb,tb,tb,tb,tb,tb,tb,fb,tb,fb,fb,fb,fb,fb,fb,fb,fb,fb,fb,fb,fb,fb,fb,fb,fb,fb,fb,fb,fb,fb,fb,fb,fb,fb,fb,fb,fb,fb,fb,fb,fb,fb,fb,fb,fb,fb,fb,fb,fb] rfl rfl (any_of HT_.out (by kernel_rfl)) (fun _ _ _ h => h) (Or.inl ⟨by rfl, ?_⟩) ?_ ?_
               rotate_left
               ·intro w'
                go_simp
                with_reducible rfl
               rotate_left
               ·simp only [Act.put, sT, sZ, sS, i64_w, i32_w]
                rfl
               refine one_ (i := 10) (N := some 50) #[tb,tb,tb,tb,tb,tb,tb,tb,tb,tb,tb,tb,fb,fb,fb,fb,fb,fb,fb,fb,fb,fb,fb,fb,fb,fb,fb,fb,fb,fb,fb,fb,fb,fb,fb,fb,fb,fb,fb,fb,fb,fb,fb,fb,fb,fb,fb,fb,fb,fb,fb,fb] rfl rfl (one_of HT_.out (by kernel_rfl)) (by decide) (fun K hK => ?_)
               refine goes_ Try.func13 (by kernel_rfl) rfl #[.string ((rd_T26 l0 x4_2).f0)] (by rfl) rfl rfl (by (try simp only [List.map_toArray, List.map_cons, List.map_nil]); first | done | rfl | (simp only [List.length_drop, List.length_take]; rfl)) ?_
               with_reducible refine (utf_Fault.calls kj7 ((rd_T26 l0 x4_2).f0) t182 _ A17.out).mono ?_
               rintro e w67 ⟨rfl, hb⟩
               refine ⟨_, rfl, ?_⟩
               have n0_ := Aside0.mk (below_step (by repeat (first | (with_reducible first | exact HB.out | apply below_alloc | apply pw_below_drewN | apply below_drew1) | exact HB.out)) hb)
               clear HB
               have HB := n0_
               clear n0_
               (try clear hb)
               (try clear hb2)
               (try clear hk)
               (try clear hi)
               refine hK.out _ _ trivial (fun hHeld => ?_)
               clear hK K
               refine norm_ (a' := ?_) ?_ ?_
               rotate_left
               ·show Act.put _ (some 50) _ = _
                simp only [Act.put, sT, sZ, sS, i64_w, i32_w]
                rfl
               refine one_ (i := 12) (N := some 52) #[tb,tb,tb,tb,tb,tb,tb,tb,tb,tb,tb,tb,tb,fb,fb,fb,fb,fb,fb,fb,fb,fb,fb,fb,fb,fb,fb,fb,fb,fb,fb,fb,fb,fb,fb,fb,fb,fb,fb,fb,fb,fb,fb,fb,fb,fb,fb,fb,fb,fb,fb,fb] rfl rfl (one_of HT_.out (by kernel_rfl)) (by decide) (fun K hK => ?_)
               refine goes_ Try.func14 (by kernel_rfl) rfl #[.string ((rd_T26 l0 x4_2).f0)] (by rfl) rfl rfl (by (try simp only [List.map_toArray, List.map_cons, List.map_nil]); first | done | rfl | (simp only [List.length_drop, List.length_take]; rfl)) ?_
               with_reducible refine (stratumref03_Fault.calls kj7 ((rd_T26 l0 x4_2).f0) t183 _ A18.out).mono ?_
               rintro e w68 ⟨rfl, hb⟩
               refine ⟨_, rfl, ?_⟩
               have n0_ := Aside0.mk (below_step (by repeat (first | (with_reducible first | exact HB.out | apply below_alloc | apply pw_below_drewN | apply below_drew1) | exact HB.out)) hb)
               clear HB
               have HB := n0_
               clear n0_
               (try clear hb)
               (try clear hb2)
               (try clear hk)
               (try clear hi)
               refine hK.out _ _ trivial (fun hHeld => ?_)
               clear hK K
               refine norm_ (a' := ?_) ?_ ?_
               rotate_left
               ·show Act.put _ (some 52) _ = _
                simp only [Act.put, sT, sZ, sS, i64_w, i32_w]
                rfl
               refine pure_ (i := 13) (N := some 53) (v := ?_) (a' := ?_) #[tb,tb,tb,tb,tb,tb,tb,tb,tb,tb,tb,tb,tb,tb,fb,fb,fb,fb,fb,fb,fb,fb,fb,fb,fb,fb,fb,fb,fb,fb,fb,fb,fb,fb,fb,fb,fb,fb,fb,fb,fb,fb,fb,fb,fb,fb,fb,fb,fb,fb,fb,fb] rfl rfl (any_of HT_.out (by kernel_rfl)) (fun _ _ _ h => h) (Or.inl ⟨by rfl, ?_⟩) ?_ ?_
               rotate_left
               ·intro w'
                go_simp
                with_reducible rfl
               rotate_left
               ·simp only [Act.put, sT, sZ, sS, i64_w, i32_w]
                rfl
               refine pure_ (i := 14) (N := some 54) (v := ?_) (a' := ?_) #[tb,tb,tb,tb,tb,tb,tb,tb,tb,tb,tb,tb,tb,tb,tb,fb,fb,fb,fb,fb,fb,fb,fb,fb,fb,fb,fb,fb,fb,fb,fb,fb,fb,fb,fb,fb,fb,fb,fb,fb,fb,fb,fb,fb,fb,fb,fb,fb,fb,fb,fb,fb] rfl rfl (any_of HT_.out (by kernel_rfl)) (fun _ _ _ h => h) (Or.inl ⟨by rfl, ?_⟩) ?_ ?_
               rotate_left
               ·intro w'
                go_simp
                with_reducible rfl
               rotate_left
               ·simp only [Act.put, sT, sZ, sS, i64_w, i32_w]
                rfl
               refine pure_ (i := 15) (N := some 55) (v := ?_) (a' := ?_) #[tb,tb,tb,tb,tb,tb,tb,tb,tb,tb,tb,tb,tb,tb,tb,tb,fb,fb,fb,fb,fb,fb,fb,fb,fb,fb,fb,fb,fb,fb,fb,fb,fb,fb,fb,fb,fb,fb,fb,fb,fb,fb,fb,fb,fb,fb,fb,fb,fb,fb,fb,fb] rfl rfl (any_of HT_.out (by kernel_rfl)) (fun _ _ _ h => h) (Or.inl ⟨by rfl, ?_⟩) ?_ ?_
               rotate_left
               ·intro w'
                go_simp
                with_reducible rfl
               rotate_left
               ·simp only [Act.put, sT, sZ, sS, i64_w, i32_w]
                rfl
               refine pure_ (i := 16) (N := some 56) (v := ?_) (a' := ?_) #[tb,tb,tb,tb,tb,tb,tb,tb,tb,tb,tb,tb,tb,tb,tb,tb,tb,fb,fb,fb,fb,fb,fb,fb,fb,fb,fb,fb,fb,fb,fb,fb,fb,fb,fb,fb,fb,fb,fb,fb,fb,fb,fb,fb,fb,fb,fb,fb,fb,fb,fb,fb] rfl rfl (any_of HT_.out (by kernel_rfl)) (fun _ _ _ h => h) (Or.inl ⟨by rfl, ?_⟩) ?_ ?_
               rotate_left
               ·intro w'
                go_simp
                with_reducible rfl
               rotate_left
               ·simp only [Act.put, sT, sZ, sS, i64_w, i32_w]
                rfl
               refine pure_ (i := 18) (N := some 58) (v := ?_) (a' := ?_) #[tb,tb,tb,tb,tb,tb,tb,tb,tb,tb,tb,tb,tb,tb,tb,tb,tb,fb,tb,fb,fb,fb,fb,fb,fb,fb,fb,fb,fb,fb,fb,fb,fb,fb,fb,fb,fb,fb,fb,fb,fb,fb,fb,fb,fb,fb,fb,fb,fb,fb,fb,fb] rfl rfl (any_of HT_.out (by kernel_rfl)) (fun _ _ _ h => h) (Or.inl ⟨by rfl, ?_⟩) ?_ ?_
               rotate_left
               ·intro w'
                go_simp
                with_reducible rfl
               rotate_left
               ·simp only [Act.put, sT, sZ, sS, i64_w, i32_w]
                rfl
               refine one_ (i := 17) (N := some 57) #[tb,tb,tb,tb,tb,tb,tb,tb,tb,tb,tb,tb,tb,tb,tb,tb,tb,tb,tb,fb,fb,fb,fb,fb,fb,fb,fb,fb,fb,fb,fb,fb,fb,fb,fb,fb,fb,fb,fb,fb,fb,fb,fb,fb,fb,fb,fb,fb,fb,fb,fb,fb] rfl rfl (one_of HT_.out (by kernel_rfl)) (by decide) (fun K hK => ?_)
               refine goes_ Try.func15 (by kernel_rfl) rfl #[.string ((rd_T26 l0 x4_2).f0)] (by rfl) rfl rfl (by (try simp only [List.map_toArray, List.map_cons, List.map_nil]); first | done | rfl | (simp only [List.length_drop, List.length_take]; rfl)) ?_
               with_reducible refine (utf_Valid.calls kj7 ((rd_T26 l0 x4_2).f0) t184 _ A20.out).mono ?_
               rintro e w69 ⟨rfl, hb⟩
               refine ⟨_, rfl, ?_⟩
               have n0_ := Aside0.mk (below_step (by repeat (first | (with_reducible first | exact HB.out | apply below_alloc | apply pw_below_drewN | apply below_drew1) | exact HB.out)) hb)
               clear HB
               have HB := n0_
               clear n0_
               (try clear hb)
               (try clear hb2)
               (try clear hk)
               (try clear hi)
               refine hK.out _ _ trivial (fun hHeld => ?_)
               clear hK K
               refine norm_ (a' := ?_) ?_ ?_
               rotate_left
               ·show Act.put _ (some 57) _ = _
                simp only [Act.put, sT, sZ, sS, i64_w, i32_w]
                rfl
               refine one_ (i := 19) (N := some 59) #[tb,tb,tb,tb,tb,tb,tb,tb,tb,tb,tb,tb,tb,tb,tb,tb,tb,tb,tb,tb,fb,fb,fb,fb,fb,fb,fb,fb,fb,fb,fb,fb,fb,fb,fb,fb,fb,fb,fb,fb,fb,fb,fb,fb,fb,fb,fb,fb,fb,fb,fb,fb] rfl rfl (one_of HT_.out (by kernel_rfl)) (by decide) (fun K hK => ?_)
               refine goes_ Try.func16 (by kernel_rfl) rfl #[.string ((rd_T26 l0 x4_2).f0)] (by rfl) rfl rfl (by (try simp only [List.map_toArray, List.map_cons, List.map_nil]); first | done | rfl | (simp only [List.length_drop, List.length_take]; rfl)) ?_
               with_reducible refine (stratumref03_Valid.calls kj7 ((rd_T26 l0 x4_2).f0) t185 _ A21.out).mono ?_
               rintro e w70 ⟨rfl, hb⟩
               refine ⟨_, rfl, ?_⟩
               have n0_ := Aside0.mk (below_step (by repeat (first | (with_reducible first | exact HB.out | apply below_alloc | apply pw_below_drewN | apply below_drew1) | exact HB.out)) hb)
               clear HB
               have HB := n0_
               clear n0_
               (try clear hb)
               (try clear hb2)
               (try clear hk)
               (try clear hi)
               refine hK.out _ _ trivial (fun hHeld => ?_)
               clear hK K
               refine norm_ (a' := ?_) ?_ ?_
               rotate_left
               ·show Act.put _ (some 59) _ = _
                simp only [Act.put, sT, sZ, sS, i64_w, i32_w]
                rfl
               refine pure_ (i := 20) (N := some 60) (v := ?_) (a' := ?_) #[tb,tb,tb,tb,tb,tb,tb,tb,tb,tb,tb,tb,tb,tb,tb,tb,tb,tb,tb,tb,tb,fb,fb,fb,fb,fb,fb,fb,fb,fb,fb,fb,fb,fb,fb,fb,fb,fb,fb,fb,fb,fb,fb,fb,fb,fb,fb,fb,fb,fb,fb,fb] rfl rfl (any_of HT_.out (by kernel_rfl)) (fun _ _ _ h => h) (Or.inl ⟨by rfl, ?_⟩) ?_ ?_
               rotate_left
               ·intro w'
                go_simp
                with_reducible rfl
               rotate_left
               ·simp only [Act.put, sT, sZ, sS, i64_w, i32_w]
                rfl
               refine pure_ (i := 21) (N := some 61) (v := ?_) (a' := ?_) #[tb,tb,tb,tb,tb,tb,tb,tb,tb,tb,tb,tb,tb,tb,tb,tb,tb,tb,tb,tb,tb,tb,fb,fb,fb,fb,fb,fb,fb,fb,fb,fb,fb,fb,fb,fb,fb,fb,fb,fb,fb,fb,fb,fb,fb,fb,fb,fb,fb,fb,fb,fb] rfl rfl (any_of HT_.out (by kernel_rfl)) (fun _ _ _ h => h) (Or.inl ⟨by rfl, ?_⟩) ?_ ?_
               rotate_left
               ·intro w'
                go_simp
                with_reducible rfl
               rotate_left
               ·simp only [Act.put, sT, sZ, sS, i64_w, i32_w]
                rfl
               refine pure_ (i := 22) (N := some 62) (v := ?_) (a' := ?_) #[tb,tb,tb,tb,tb,tb,tb,tb,tb,tb,tb,tb,tb,tb,tb,tb,tb,tb,tb,tb,tb,tb,tb,fb,fb,fb,fb,fb,fb,fb,fb,fb,fb,fb,fb,fb,fb,fb,fb,fb,fb,fb,fb,fb,fb,fb,fb,fb,fb,fb,fb,fb] rfl rfl (any_of HT_.out (by kernel_rfl)) (fun _ _ _ h => h) (Or.inl ⟨by rfl, ?_⟩) ?_ ?_
               rotate_left
               ·intro w'
                go_simp
                with_reducible rfl
               rotate_left
               ·simp only [Act.put, sT, sZ, sS, i64_w, i32_w]
                rfl
               refine pure_ (i := 23) (N := some 63) (v := undef) (a' := ?_) #[tb,tb,tb,tb,tb,tb,tb,tb,tb,tb,tb,tb,tb,tb,tb,tb,tb,tb,tb,tb,tb,tb,tb,tb,fb,fb,fb,fb,fb,fb,fb,fb,fb,fb,fb,fb,fb,fb,fb,fb,fb,fb,fb,fb,fb,fb,fb,fb,fb,fb,fb,fb] rfl rfl (any_of HT_.out (by kernel_rfl)) (fun _ _ _ h => h) (Or.inr ⟨by rfl, rfl⟩) ?_ ?_
               rotate_left
               ·simp only [Act.put, sT, sZ, sS, i64_w, i32_w]
                rfl
               refine pure_ (i := 24) (N := some 64) (v := undef) (a' := ?_) #[tb,tb,tb,tb,tb,tb,tb,tb,tb,tb,tb,tb,tb,tb,tb,tb,tb,tb,tb,tb,tb,tb,tb,tb,tb,fb,fb,fb,fb,fb,fb,fb,fb,fb,fb,fb,fb,fb,fb,fb,fb,fb,fb,fb,fb,fb,fb,fb,fb,fb,fb,fb] rfl rfl (any_of HT_.out (by kernel_rfl)) (fun _ _ _ h => h) (Or.inr ⟨by rfl, rfl⟩) ?_ ?_
               rotate_left
               ·simp only [Act.put, sT, sZ, sS, i64_w, i32_w]
                rfl
               refine pure_ (i := 25) (N := some 65) (v := undef) (a' := ?_) #[tb,tb,tb,tb,tb,tb,tb,tb,tb,tb,tb,tb,tb,tb,tb,tb,tb,tb,tb,tb,tb,tb,tb,tb,tb,tb,fb,fb,fb,fb,fb,fb,fb,fb,fb,fb,fb,fb,fb,fb,fb,fb,fb,fb,fb,fb,fb,fb,fb,fb,fb,fb] rfl rfl (any_of HT_.out (by kernel_rfl)) (fun _ _ _ h => h) (Or.inr ⟨by rfl, rfl⟩) ?_ ?_
               rotate_left
               ·simp only [Act.put, sT, sZ, sS, i64_w, i32_w]
                rfl
               refine pure_ (i := 26) (N := some 66) (v := undef) (a' := ?_) #[tb,tb,tb,tb,tb,tb,tb,tb,tb,tb,tb,tb,tb,tb,tb,tb,tb,tb,tb,tb,tb,tb,tb,tb,tb,tb,tb,fb,fb,fb,fb,fb,fb,fb,fb,fb,fb,fb,fb,fb,fb,fb,fb,fb,fb,fb,fb,fb,fb,fb,fb,fb] rfl rfl (any_of HT_.out (by kernel_rfl)) (fun _ _ _ h => h) (Or.inr ⟨by rfl, rfl⟩) ?_ ?_
               rotate_left
               ·simp only [Act.put, sT, sZ, sS, i64_w, i32_w]
                rfl
               refine pure_ (i := 27) (N := some 67) (v := undef) (a' := ?_) #[tb,tb,tb,tb,tb,tb,tb,tb,tb,tb,tb,tb,tb,tb,tb,tb,tb,tb,tb,tb,tb,tb,tb,tb,tb,tb,tb,tb,fb,fb,fb,fb,fb,fb,fb,fb,fb,fb,fb,fb,fb,fb,fb,fb,fb,fb,fb,fb,fb,fb,fb,fb] rfl rfl (any_of HT_.out (by kernel_rfl)) (fun _ _ _ h => h) (Or.inr ⟨by rfl, rfl⟩) ?_ ?_
               rotate_left
               ·simp only [Act.put, sT, sZ, sS, i64_w, i32_w]
                rfl
               refine pure_ (i := 28) (N := some 68) (v := ?_) (a' := ?_) #[tb,tb,tb,tb,tb,tb,tb,tb,tb,tb,tb,tb,tb,tb,tb,tb,tb,tb,tb,tb,tb,tb,tb,tb,tb,tb,tb,tb,tb,fb,fb,fb,fb,fb,fb,fb,fb,fb,fb,fb,fb,fb,fb,fb,fb,fb,fb,fb,fb,fb,fb,fb] rfl rfl (any_of HT_.out (by kernel_rfl)) (fun _ _ _ h => h) (Or.inl ⟨by rfl, ?_⟩) ?_ ?_
               rotate_left
               ·intro w'
                go_simp
                with_reducible rfl
               rotate_left
               ·simp only [Act.put, sT, sZ, sS, i64_w, i32_w]
                rfl
               refine pure_ (i := 29) (N := some 69) (v := ?_) (a' := ?_) #[tb,tb,tb,tb,tb,tb,tb,tb,tb,tb,tb,tb,tb,tb,tb,tb,tb,tb,tb,tb,tb,tb,tb,tb,tb,tb,tb,tb,tb,tb,fb,fb,fb,fb,fb,fb,fb,fb,fb,fb,fb,fb,fb,fb,fb,fb,fb,fb,fb,fb,fb,fb] rfl rfl (any_of HT_.out (by kernel_rfl)) (fun _ _ _ h => h) (Or.inl ⟨by rfl, ?_⟩) ?_ ?_
               rotate_left
               ·intro w'
                go_simp
                with_reducible rfl
               rotate_left
               ·simp only [Act.put, sT, sZ, sS, i64_w, i32_w]
                rfl
               refine pure_ (i := 30) (N := some 70) (v := undef) (a' := ?_) #[tb,tb,tb,tb,tb,tb,tb,tb,tb,tb,tb,tb,tb,tb,tb,tb,tb,tb,tb,tb,tb,tb,tb,tb,tb,tb,tb,tb,tb,tb,tb,fb,fb,fb,fb,fb,fb,fb,fb,fb,fb,fb,fb,fb,fb,fb,fb,fb,fb,fb,fb,fb] rfl rfl (any_of HT_.out (by kernel_rfl)) (fun _ _ _ h => h) (Or.inr ⟨by rfl, rfl⟩) ?_ ?_
               rotate_left
               ·simp only [Act.put, sT, sZ, sS, i64_w, i32_w]
                rfl
               refine pure_ (i := 31) (N := some 71) (v := undef) (a' := ?_) #[tb,tb,tb,tb,tb,tb,tb,tb,tb,tb,tb,tb,tb,tb,tb,tb,tb,tb,tb,tb,tb,tb,tb,tb,tb,tb,tb,tb,tb,tb,tb,tb,fb,fb,fb,fb,fb,fb,fb,fb,fb,fb,fb,fb,fb,fb,fb,fb,fb,fb,fb,fb] rfl rfl (any_of HT_.out (by kernel_rfl)) (fun _ _ _ h => h) (Or.inr ⟨by rfl, rfl⟩) ?_ ?_
               rotate_left
               ·simp only [Act.put, sT, sZ, sS, i64_w, i32_w]
                rfl
               refine pure_ (i := 32) (N := some 72) (v := undef) (a' := ?_) #[tb,tb,tb,tb,tb,tb,tb,tb,tb,tb,tb,tb,tb,tb,tb,tb,tb,tb,tb,tb,tb,tb,tb,tb,tb,tb,tb,tb,tb,tb,tb,tb,tb,fb,fb,fb,fb,fb,fb,fb,fb,fb,fb,fb,fb,fb,fb,fb,fb,fb,fb,fb] rfl rfl (any_of HT_.out (by kernel_rfl)) (fun _ _ _ h => h) (Or.inr ⟨by rfl, rfl⟩) ?_ ?_
               rotate_left
               ·simp only [Act.put, sT, sZ, sS, i64_w, i32_w]
                rfl
               refine pure_ (i := 33) (N := some 73) (v := undef) (a' := ?_) #[tb,tb,tb,tb,tb,tb,tb,tb,tb,tb,tb,tb,tb,tb,tb,tb,tb,tb,tb,tb,tb,tb,tb,tb,tb,tb,tb,tb,tb,tb,tb,tb,tb,tb,fb,fb,fb,fb,fb,fb,fb,fb,fb,fb,fb,fb,fb,fb,fb,fb,fb,fb] rfl rfl (any_of HT_.out (by kernel_rfl)) (fun _ _ _ h => h) (Or.inr ⟨by rfl, rfl⟩) ?_ ?_
               rotate_left
               ·simp only [Act.put, sT, sZ, sS, i64_w, i32_w]
                rfl
               refine pure_ (i := 34) (N := some 74) (v := undef) (a' := ?_) #[tb,tb,tb,tb,tb,tb,tb,tb,tb,tb,tb,tb,tb,tb,tb,tb,tb,tb,tb,tb,tb,tb,tb,tb,tb,tb,tb,tb,tb,tb,tb,tb,tb,tb,tb,fb,fb,fb,fb,fb,fb,fb,fb,fb,fb,fb,fb,fb,fb,fb,fb,fb] rfl rfl (any_of HT_.out (by kernel_rfl)) (fun _ _ _ h => h) (Or.inr ⟨by rfl, rfl⟩) ?_ ?_
               rotate_left
               ·simp only [Act.put, sT, sZ, sS, i64_w, i32_w]
                rfl
               refine pure_ (i := 35) (N := some 75) (v := ?_) (a' := ?_) #[tb,tb,tb,tb,tb,tb,tb,tb,tb,tb,tb,tb,tb,tb,tb,tb,tb,tb,tb,tb,tb,tb,tb,tb,tb,tb,tb,tb,tb,tb,tb,tb,tb,tb,tb,tb,fb,fb,fb,fb,fb,fb,fb,fb,fb,fb,fb,fb,fb,fb,fb,fb] rfl rfl (any_of HT_.out (by kernel_rfl)) (fun _ _ _ h => h) (Or.inl ⟨by rfl, ?_⟩) ?_ ?_
               rotate_left
               ·intro w'
                go_simp
                with_reducible rfl
               rotate_left
               ·simp only [Act.put, sT, sZ, sS, i64_w, i32_w]
                rfl
               refine pure_ (i := 36) (N := some 76) (v := ?_) (a' := ?_) #[tb,tb,tb,tb,tb,tb,tb,tb,tb,tb,tb,tb,tb,tb,tb,tb,tb,tb,tb,tb,tb,tb,tb,tb,tb,tb,tb,tb,tb,tb,tb,tb,tb,tb,tb,tb,tb,fb,fb,fb,fb,fb,fb,fb,fb,fb,fb,fb,fb,fb,fb,fb] rfl rfl (any_of HT_.out (by kernel_rfl)) (fun _ _ _ h => h) (Or.inl ⟨by rfl, ?_⟩) ?_ ?_
               rotate_left
               ·intro w'
                go_simp
                with_reducible rfl
               rotate_left
               ·simp only [Act.put, sT, sZ, sS, i64_w, i32_w]
                rfl
               refine pure_ (i := 37) (N := some 77) (v := undef) (a' := ?_) #[tb,tb,tb,tb,tb,tb,tb,tb,tb,tb,tb,tb,tb,tb,tb,tb,tb,tb,tb,tb,tb,tb,tb,tb,tb,tb,tb,tb,tb,tb,tb,tb,tb,tb,tb,tb,tb,tb,fb,fb,fb,fb,fb,fb,fb,fb,fb,fb,fb,fb,fb,fb] rfl rfl (any_of HT_.out (by kernel_rfl)) (fun _ _ _ h => h) (Or.inr ⟨by rfl, rfl⟩) ?_ ?_
               rotate_left
               ·simp only [Act.put, sT, sZ, sS, i64_w, i32_w]
                rfl
               refine pure_ (i := 38) (N := some 78) (v := undef) (a' := ?_) #[tb,tb,tb,tb,tb,tb,tb,tb,tb,tb,tb,tb,tb,tb,tb,tb,tb,tb,tb,tb,tb,tb,tb,tb,tb,tb,tb,tb,tb,tb,tb,tb,tb,tb,tb,tb,tb,tb,tb,fb,fb,fb,fb,fb,fb,fb,fb,fb,fb,fb,fb,fb] rfl rfl (any_of HT_.out (by kernel_rfl)) (fun _ _ _ h => h) (Or.inr ⟨by rfl, rfl⟩) ?_ ?_
               rotate_left
               ·simp only [Act.put, sT, sZ, sS, i64_w, i32_w]
                rfl
               refine pure_ (i := 39) (N := some 79) (v := undef) (a' := ?_) #[tb,tb,tb,tb,tb,tb,tb,tb,tb,tb,tb,tb,tb,tb,tb,tb,tb,tb,tb,tb,tb,tb,tb,tb,tb,tb,tb,tb,tb,tb,tb,tb,tb,tb,tb,tb,tb,tb,tb,tb,fb,fb,fb,fb,fb,fb,fb,fb,fb,fb,fb,fb] rfl rfl (any_of HT_.out (by kernel_rfl)) (fun _ _ _ h => h) (Or.inr ⟨by rfl, rfl⟩) ?_ ?_
               rotate_left
               ·simp only [Act.put, sT, sZ, sS, i64_w, i32_w]
                rfl
               refine pure_ (i := 40) (N := some 80) (v := undef) (a' := ?_) #[tb,tb,tb,tb,tb,tb,tb,tb,tb,tb,tb,tb,tb,tb,tb,tb,tb,tb,tb,tb,tb,tb,tb,tb,tb,tb,tb,tb,tb,tb,tb,tb,tb,tb,tb,tb,tb,tb,tb,tb,tb,fb,fb,fb,fb,fb,fb,fb,fb,fb,fb,fb] rfl rfl (any_of HT_.out (by kernel_rfl)) (fun _ _ _ h => h) (Or.inr ⟨by rfl, rfl⟩) ?_ ?_
               rotate_left
               ·simp only [Act.put, sT, sZ, sS, i64_w, i32_w]
                rfl
               refine pure_ (i := 41) (N := some 81) (v := undef) (a' := ?_) #[tb,tb,tb,tb,tb,tb,tb,tb,tb,tb,tb,tb,tb,tb,tb,tb,tb,tb,tb,tb,tb,tb,tb,tb,tb,tb,tb,tb,tb,tb,tb,tb,tb,tb,tb,tb,tb,tb,tb,tb,tb,tb,fb,fb,fb,fb,fb,fb,fb,fb,fb,fb] rfl rfl (any_of HT_.out (by kernel_rfl)) (fun _ _ _ h => h) (Or.inr ⟨by rfl, rfl⟩) ?_ ?_
               rotate_left
               ·simp only [Act.put, sT, sZ, sS, i64_w, i32_w]
                rfl
               refine pure_ (i := 42) (N := some 82) (v := undef) (a' := ?_) #[tb,tb,tb,tb,tb,tb,tb,tb,tb,tb,tb,tb,tb,tb,tb,tb,tb,tb,tb,tb,tb,tb,tb,tb,tb,tb,tb,tb,tb,tb,tb,tb,tb,tb,tb,tb,tb,tb,tb,tb,tb,tb,tb,fb,fb,fb,fb,fb,fb,fb,fb,fb] rfl rfl (any_of HT_.out (by kernel_rfl)) (fun _ _ _ h => h) (Or.inr ⟨by rfl, rfl⟩) ?_ ?_
               rotate_left
               ·simp only [Act.put, sT, sZ, sS, i64_w, i32_w]
                rfl
               refine pure_ (i := 43) (N := some 83) (v := undef) (a' := ?_) #[tb,tb,tb,tb,tb,tb,tb,tb,tb,tb,tb,tb,tb,tb,tb,tb,tb,tb,tb,tb,tb,tb,tb,tb,tb,tb,tb,tb,tb,tb,tb,tb,tb,tb,tb,tb,tb,tb,tb,tb,tb,tb,tb,tb,fb,fb,fb,fb,fb,fb,fb,fb] rfl rfl (any_of HT_.out (by kernel_rfl)) (fun _ _ _ h => h) (Or.inr ⟨by rfl, rfl⟩) ?_ ?_
               rotate_left
               ·simp only [Act.put, sT, sZ, sS, i64_w, i32_w]
                rfl
               refine pure_ (i := 44) (N := some 84) (v := undef) (a' := ?_) #[tb,tb,tb,tb,tb,tb,tb,tb,tb,tb,tb,tb,tb,tb,tb,tb,tb,tb,tb,tb,tb,tb,tb,tb,tb,tb,tb,tb,tb,tb,tb,tb,tb,tb,tb,tb,tb,tb,tb,tb,tb,tb,tb,tb,tb,fb,fb,fb,fb,fb,fb,fb] rfl rfl (any_of HT_.out (by kernel_rfl)) (fun _ _ _ h => h) (Or.inr ⟨by rfl, rfl⟩) ?_ ?_
               rotate_left
               ·simp only [Act.put, sT, sZ, sS, i64_w, i32_w]
                rfl
               refine pure_ (i := 45) (N := some 85) (v := undef) (a' := ?_) #[tb,tb,tb,tb,tb,tb,tb,tb,tb,tb,tb,tb,tb,tb,tb,tb,tb,tb,tb,tb,tb,tb,tb,tb,tb,tb,tb,tb,tb,tb,tb,tb,tb,tb,tb,tb,tb,tb,tb,tb,tb,tb,tb,tb,tb,tb,fb,fb,fb,fb,fb,fb] rfl rfl (any_of HT_.out (by kernel_rfl)) (fun _ _ _ h => h) (Or.inr ⟨by rfl, rfl⟩) ?_ ?_
               rotate_left
               ·simp only [Act.put, sT, sZ, sS, i64_w, i32_w]
                rfl
               refine pure_ (i := 46) (N := some 86) (v := undef) (a' := ?_) #[tb,tb,tb,tb,tb,tb,tb,tb,tb,tb,tb,tb,tb,tb,tb,tb,tb,tb,tb,tb,tb,tb,tb,tb,tb,tb,tb,tb,tb,tb,tb,tb,tb,tb,tb,tb,tb,tb,tb,tb,tb,tb,tb,tb,tb,tb,tb,fb,fb,fb,fb,fb] rfl rfl (any_of HT_.out (by kernel_rfl)) (fun _ _ _ h => h) (Or.inr ⟨by rfl, rfl⟩) ?_ ?_
               rotate_left
               ·simp only [Act.put, sT, sZ, sS, i64_w, i32_w]
                rfl
               refine pure_ (i := 47) (N := some 87) (v := undef) (a' := ?_) #[tb,tb,tb,tb,tb,tb,tb,tb,tb,tb,tb,tb,tb,tb,tb,tb,tb,tb,tb,tb,tb,tb,tb,tb,tb,tb,tb,tb,tb,tb,tb,tb,tb,tb,tb,tb,tb,tb,tb,tb,tb,tb,tb,tb,tb,tb,tb,tb,fb,fb,fb,fb] rfl rfl (any_of HT_.out (by kernel_rfl)) (fun _ _ _ h => h) (Or.inr ⟨by rfl, rfl⟩) ?_ ?_
               rotate_left
               ·simp only [Act.put, sT, sZ, sS, i64_w, i32_w]
                rfl
               refine pure_ (i := 48) (N := some 88) (v := undef) (a' := ?_) #[tb,tb,tb,tb,tb,tb,tb,tb,tb,tb,tb,tb,tb,tb,tb,tb,tb,tb,tb,tb,tb,tb,tb,tb,tb,tb,tb,tb,tb,tb,tb,tb,tb,tb,tb,tb,tb,tb,tb,tb,tb,tb,tb,tb,tb,tb,tb,tb,tb,fb,fb,fb] rfl rfl (any_of HT_.out (by kernel_rfl)) (fun _ _ _ h => h) (Or.inr ⟨by rfl, rfl⟩) ?_ ?_
               rotate_left
               ·simp only [Act.put, sT, sZ, sS, i64_w, i32_w]
                rfl
               refine pure_ (i := 49) (N := some 89) (v := undef) (a' := ?_) #[tb,tb,tb,tb,tb,tb,tb,tb,tb,tb,tb,tb,tb,tb,tb,tb,tb,tb,tb,tb,tb,tb,tb,tb,tb,tb,tb,tb,tb,tb,tb,tb,tb,tb,tb,tb,tb,tb,tb,tb,tb,tb,tb,tb,tb,tb,tb,tb,tb,tb,fb,fb] rfl rfl (any_of HT_.out (by kernel_rfl)) (fun _ _ _ h => h) (Or.inr ⟨by rfl, rfl⟩) ?_ ?_
               rotate_left
               ·simp only [Act.put, sT, sZ, sS, i64_w, i32_w]
                rfl
               refine pure_ (i := 50) (N := some 90) (v := ?_) (a' := ?_) #[tb,tb,tb,tb,tb,tb,tb,tb,tb,tb,tb,tb,tb,tb,tb,tb,tb,tb,tb,tb,tb,tb,tb,tb,tb,tb,tb,tb,tb,tb,tb,tb,tb,tb,tb,tb,tb,tb,tb,tb,tb,tb,tb,tb,tb,tb,tb,tb,tb,tb,tb,fb] rfl rfl (any_of HT_.out (by kernel_rfl)) (fun _ _ _ h => h) (Or.inl ⟨by rfl, ?_⟩) ?_ ?_
               rotate_left
               ·intro w'
                go_simp
                with_reducible rfl
               rotate_left
               ·simp only [Act.put, sT, sZ, sS, i64_w, i32_w]
                rfl
               refine pure_ (i := 51) (N := some 3) (v := ?_) (a' := ?_) #[tb,tb,tb,tb,tb,tb,tb,tb,tb,tb,tb,tb,tb,tb,tb,tb,tb,tb,tb,tb,tb,tb,tb,tb,tb,tb,tb,tb,tb,tb,tb,tb,tb,tb,tb,tb,tb,tb,tb,tb,tb,tb,tb,tb,tb,tb,tb,tb,tb,tb,tb,tb] rfl rfl (any_of HT_.out (by kernel_rfl)) (fun _ _ _ h => h) (Or.inl ⟨by rfl, ?_⟩) ?_ ?_
               rotate_left
               ·intro w'
                go_simp
                with_reducible rfl
               rotate_left
               ·simp only [Act.put, sT, sZ, sS, i64_w, i32_w]
                rfl
               refine done_ (done_of HT_.out (by kernel_rfl)) ?_
               try go_wp2
               go_roundg kj7
               case measure => have := HJ2.out; have := HK2.out; have := HJ7.out; omega
               case rel => exact ⟨(false), (wrap64 (x4_2 + 1)), (by first | rfl | (simp; done) | (simp [*]; done)), (by first | rfl | (simp; done) | (simp [*]; done)), H', ⟨by have := HJ2.out; have := HK2.out; have := HJ7.out; omega⟩, ⟨by repeat (first | (with_reducible first | exact HB.out | apply below_alloc | apply pw_below_drewN | apply below_drew1) | exact HB.out)⟩⟩
             ·rw [if_neg c19] at H
              have c19b0 : (t182 == t183) = false := beq_eq_false_iff_ne.mpr c19
              have c19b1 : (t182 != t183) = true := bne_iff_ne.mpr c19
              have H' := Aside0.mk H
              clear H
              have p177 : 0 ≤ (x4_2 : Int) := of_decide_eq_true (by first | (with_reducible assumption) | assumption)
              have q177 : x4_2 < (l0.length : Int) := of_decide_eq_true (by first | (with_reducible assumption) | assumption)
              obtain ⟨ad177, e177, hx177_0, hx177_1⟩ := at_T26 HR0.out x4_2 p177 q177
              cases e177
              replace hx177_0 := (HB.out.cell (World.block_lt_of_cell? w _ hx177_0)).trans hx177_0
              replace hx177_1 := (HB.out.cell (World.block_lt_of_cell? w _ hx177_1)).trans hx177_1
              replace p177 := eq_true p177
              replace q177 := eq_true q177
              try go_wp2_with (first | ((with_reducible refine gate_callee (f := 11) rfl ?_); refine goesL_ (some 32) rfl rfl Try.func11 (by kernel_rfl) rfl #[.string ((rd_T26 l0 x4_2).f0)] rfl (by (try simp only [List.map_toArray, List.map_cons, List.map_nil]); first | done | rfl | (simp only [List.length_drop, List.length_take]; rfl)) ?_; (with_reducible refine (utf_Next.calls ((rd_T26 l0 x4_2).f0) t178 t179 _ A13.out).mono ?_); rintro e w71 ⟨rfl, hb⟩; refine ⟨_, rfl, ?_⟩; have n0_ := Aside0.mk (below_step (by repeat (first | (with_reducible first | exact HB.out | apply below_alloc | apply pw_below_drewN | apply below_drew1) | exact HB.out)) hb); clear HB; have HB := n0_; clear n0_; (try clear hb); (try clear hb2); (try clear hk); (try clear hi)) | ((with_reducible refine gate_callee (f := 12) rfl ?_); refine goesL_ (some 37) rfl rfl Try.func12 (by kernel_rfl) rfl #[.string ((rd_T26 l0 x4_2).f0)] rfl (by (try simp only [List.map_toArray, List.map_cons, List.map_nil]); first | done | rfl | (simp only [List.length_drop, List.length_take]; rfl)) ?_; (with_reducible refine (stratumref03_Next.calls kj7 ((rd_T26 l0 x4_2).f0) t180 t181 _ A14.out).mono ?_); rintro e w72 ⟨rfl, hb⟩; refine ⟨_, rfl, ?_⟩; have n0_ := Aside0.mk (below_step (by repeat (first | (with_reducible first | exact HB.out | apply below_alloc | apply pw_below_drewN | apply below_drew1) | exact HB.out)) hb); clear HB; have HB := n0_; clear n0_; (try clear hb); (try clear hb2); (try clear hk); (try clear hi)))
              have n0_ := Aside0.mk (below_drew1 HB.out)
              clear HB
              have HB := n0_
              clear n0_
              refine start_ (n := 52) (S := fun w' => True) (ds := []) #[fb,fb,fb,fb,fb,fb,fb,fb,fb,fb,fb,fb,fb,fb,fb,fb,fb,fb,fb,fb,fb,fb,fb,fb,fb,fb,fb,fb,fb,fb,fb,fb,fb,fb,fb,fb,fb,fb,fb,fb,fb,fb,fb,fb,fb,fb,fb,fb,fb,fb,fb,fb] (by kernel_rfl) rfl rfl trivial (fun hHeld => ?_); refine with_tabW stratumlaw03_UtfAll.tab10 stratumlaw03_UtfAll.bits10 (fun HT_ HW_ => ?_)
              generalize w72.drew = w73 at HB hHeld ⊢
              refine pure_ (i := 0) (N := some 40) (v := ?_) (a' := ?_) #[tb,fb,fb,fb,fb,fb,fb,fb,fb,fb,fb,fb,fb,fb,fb,fb,fb,fb,fb,fb,fb,fb,fb,fb,fb,fb,fb,fb,fb,fb,fb,fb,fb,fb,fb,fb,fb,fb,fb,fb,fb,fb,fb,fb,fb,fb,fb,fb,fb,fb,fb,fb] rfl rfl (any_of HT_.out (by kernel_rfl)) (fun _ _ _ h => h) (Or.inl ⟨by rfl, ?_⟩) ?_ ?_
              rotate_left
              ·intro w'
               go_simp
               with_reducible rfl
              rotate_left
              ·simp only [Act.put, sT, sZ, sS, i64_w, i32_w]
               rfl
              refine pure_ (i := 1) (N := some 41) (v := ?_) (a' := ?_) #[tb,tb,fb,fb,fb,fb,fb,fb,fb,fb,fb,fb,fb,fb,fb,fb,fb,fb,fb,fb,fb,fb,fb,fb,fb,fb,fb,fb,fb,fb,fb,fb,fb,fb,fb,fb,fb,fb,fb,fb,fb,fb,fb,fb,fb,fb,fb,fb,fb,fb,fb,fb] rfl rfl (any_of HT_.out (by kernel_rfl)) (fun _ _ _ h => h) (Or.inl ⟨by rfl, ?_⟩) ?_ ?_
              rotate_left
              ·intro w'
               go_simp
               with_reducible rfl
              rotate_left
              ·simp only [Act.put, sT, sZ, sS, i64_w, i32_w]
               rfl
              refine pure_ (i := 2) (N := some 42) (v := ?_) (a' := ?_) #[tb,tb,tb,fb,fb,fb,fb,fb,fb,fb,fb,fb,fb,fb,fb,fb,fb,fb,fb,fb,fb,fb,fb,fb,fb,fb,fb,fb,fb,fb,fb,fb,fb,fb,fb,fb,fb,fb,fb,fb,fb,fb,fb,fb,fb,fb,fb,fb,fb,fb,fb,fb] rfl rfl (any_of HT_.out (by kernel_rfl)) (fun _ _ _ h => h) (Or.inl ⟨by rfl, ?_⟩) ?_ ?_
              rotate_left
              ·intro w'
               go_simp
               with_reducible rfl
              rotate_left
              ·simp only [Act.put, sT, sZ, sS, i64_w, i32_w]
               rfl
              refine pure_ (i := 3) (N := some 43) (v := ?_) (a' := ?_) #[tb,tb,tb,tb,fb,fb,fb,fb,fb,fb,fb,fb,fb,fb,fb,fb,fb,fb,fb,fb,fb,fb,fb,fb,fb,fb,fb,fb,fb,fb,fb,fb,fb,fb,fb,fb,fb,fb,fb,fb,fb,fb,fb,fb,fb,fb,fb,fb,fb,fb,fb,fb] rfl rfl (any_of HT_.out (by kernel_rfl)) (fun _ _ _ h => h) (Or.inl ⟨by rfl, ?_⟩) ?_ ?_
              rotate_left
              ·intro w'
               go_simp
               with_reducible rfl
              rotate_left
              ·simp only [Act.put, sT, sZ, sS, i64_w, i32_w]
               rfl
              refine pure_ (i := 4) (N := some 44) (v := ?_) (a' := ?_) #[tb,tb,tb,tb,tb,fb,fb,fb,fb,fb,fb,fb,fb,fb,fb,fb,fb,fb,fb,fb,fb,fb,fb,fb,fb,fb,fb,fb,fb,fb,fb,fb,fb,fb,fb,fb,fb,fb,fb,fb,fb,fb,fb,fb,fb,fb,fb,fb,fb,fb,fb,fb] rfl rfl (any_of HT_.out (by kernel_rfl)) (fun _ _ _ h => h) (Or.inl ⟨by rfl, ?_⟩) ?_ ?_
              rotate_left
              ·intro w'
               go_simp
               with_reducible rfl
              rotate_left
              ·simp only [Act.put, sT, sZ, sS, i64_w, i32_w]
               rfl
              refine pure_ (i := 5) (N := some 45) (v := ?_) (a' := ?_) #[tb,tb,tb,tb,tb,tb,fb,fb,fb,fb,fb,fb,fb,fb,fb,fb,fb,fb,fb,fb,fb,fb,fb,fb,fb,fb,fb,fb,fb,fb,fb,fb,fb,fb,fb,fb,fb,fb,fb,fb,fb,fb,fb,fb,fb,fb,fb,fb,fb,fb,fb,fb] rfl rfl (any_of HT_.out (by kernel_rfl)) (fun _ _ _ h => h) (Or.inl ⟨by rfl, ?_⟩) ?_ ?_
              rotate_left
              ·intro w'
               go_simp
               with_reducible rfl
              rotate_left
              ·simp only [Act.put, sT, sZ, sS, i64_w, i32_w]
               rfl
              refine pure_ (i := 6) (N := some 46) (v := ?_) (a' := ?_) #[tb,tb,tb,tb,tb,tb,tb,fb,fb,fb,fb,fb,fb,fb,fb,fb,fb,fb,fb,fb,fb,fb,fb,fb,fb,fb,fb,fb,fb,fb,fb,fb,fb,fb,fb,fb,fb,fb,fb,fb,fb,fb,fb,fb,fb,fb,fb,fb,fb,fb,fb,fb] rfl rfl (any_of HT_.out (by kernel_rfl)) (fun _ _ _ h => h) (Or.inl ⟨by rfl, ?_⟩) ?_ ?_
              rotate_left
              ·intro w'
               go_simp
               with_reducible rfl
              rotate_left
              ·simp only [Act.put, sT, sZ, sS, i64_w, i32_w]
               rfl
              refine pure_ (i := 7) (N := some 47) (v := ?_) (a' := ?_) #[tb,tb,tb,tb,tb,tb,tb,tb,fb,fb,fb,fb,fb,fb,fb,fb,fb,fb,fb,fb,fb,fb,fb,fb,fb,fb,fb,fb,fb,fb,fb,fb,fb,fb,fb,fb,fb,fb,fb,fb,fb,fb,fb,fb,fb,fb,fb,fb,fb,fb,fb,fb] rfl rfl (any_of HT_.out (by kernel_rfl)) (fun _ _ _ h => h) (Or.inl ⟨by rfl, ?_⟩) ?_ ?_
              rotate_left
              ·intro w'
               go_simp
               with_reducible rfl
              rotate_left
              ·simp only [Act.put, sT, sZ, sS, i64_w, i32_w]
               rfl
              refine pure_ (i := 8) (N := some 48) (v := ?_) (a' := ?_) #[tb,tb,tb,tb,tb,tb,tb,tb,tb,fb,fb,fb,fb,fb,fb,fb,fb,fb,fb,fb,fb,fb,fb,fb,fb,fb,fb,fb,fb,fb,fb,fb,fb,fb,fb,fb,fb,fb,fb,fb,fb,fb,fb,fb,fb,fb,fb,fb,fb,fb,fb,fb] rfl rfl (any_of HT_.out (by kernel_rfl)) (fun _ _ _ h => h) (Or.inl ⟨by rfl, ?_⟩) ?_ ?_
              rotate_left
              ·intro w'
               go_simp
               with_reducible rfl
              rotate_left
              ·simp only [Act.put, sT, sZ, sS, i64_w, i32_w]
               rfl
              refine pure_ (i := 9) (N := some 49) (v := ?_) (a' := ?_) #[tb,tb,tb,tb,tb,tb,tb,tb,tb,tb,fb,fb,fb,fb,fb,fb,fb,fb,fb,fb,fb,fb,fb,fb,fb,fb,fb,fb,fb,fb,fb,fb,fb,fb,fb,fb,fb,fb,fb,fb,fb,fb,fb,fb,fb,fb,fb,fb,fb,fb,fb,fb] rfl rfl (any_of HT_.out (by kernel_rfl)) (fun _ _ _ h => h) (Or.inl ⟨by rfl, ?_⟩) ?_ ?_
              rotate_left
              ·intro w'
               go_simp
               with_reducible rfl
              rotate_left
              ·simp only [Act.put, sT, sZ, sS, i64_w, i32_w]
               rfl
              refine pure_ (i := 11) (N := some 51) (v := ?_) (a' := ?_) #[tb,tb,tb,tb,tb,tb,tb,tb,tb,tb,fb,tb,fb,fb,fb,fb,fb,fb,fb,fb,fb,fb,fb,fb,fb,fb,fb,fb,fb,fb,fb,fb,fb,fb,fb,fb,fb,fb,fb,fb,fb,fb,fb,fb,fb,fb,fb,fb,fb,fb,fb,fb] rfl rfl (any_of HT_.out (by kernel_rfl)) (fun _ _ _ h => h) (Or.inl ⟨by rfl, ?_⟩) ?_ ?_
              rotate_left
              ·intro w'
               go_simp
               with_reducible rfl
              rotate_left
              ·simp only [Act.put, sT, sZ, sS, i64_w, i32_w]
               rfl
              refine one_ (i := 10) (N := some 50) #[tb,tb,tb,tb,tb,tb,tb,tb,tb,tb,tb,tb,fb,fb,fb,fb,fb,fb,fb,fb,fb,fb,fb,fb,fb,fb,fb,fb,fb,fb,fb,fb,fb,fb,fb,fb,fb,fb,fb,fb,fb,fb,fb,fb,fb,fb,fb,fb,fb,fb,fb,fb] rfl rfl (one_of HT_.out (by kernel_rfl)) (by decide) (fun K hK => ?_)
              refine goes_ Try.func13 (by kernel_rfl) rfl #[.string ((rd_T26 l0 x4_2).f0)] (by rfl) rfl rfl (by (try simp only [List.map_toArray, List.map_cons, List.map_nil]); first | done | rfl | (simp only [List.length_drop, List.length_take]; rfl)) ?_
              with_reducible refine (utf_Fault.calls kj7 ((rd_T26 l0 x4_2).f0) t182 _ A17.out).mono ?_
              rintro e w74 ⟨rfl, hb⟩
              refine ⟨_, rfl, ?_⟩
              have n0_ := Aside0.mk (below_step (by repeat (first | (with_reducible first | exact HB.out | apply below_alloc | apply pw_below_drewN | apply below_drew1) | exact HB.out)) hb)
              clear HB
              have HB := n0_
              clear n0_
              (try clear hb)
              (try clear hb2)
              (try clear hk)
              (try clear hi)
              refine hK.out _ _ trivial (fun hHeld => ?_)
              clear hK K
              refine norm_ (a' := ?_) ?_ ?_
              rotate_left
              ·show Act.put _ (some 50) _ = _
               simp only [Act.put, sT, sZ, sS, i64_w, i32_w]
               rfl
              refine one_ (i := 12) (N := some 52) #[tb,tb,tb,tb,tb,tb,tb,tb,tb,tb,tb,tb,tb,fb,fb,fb,fb,fb,fb,fb,fb,fb,fb,fb,fb,fb,fb,fb,fb,fb,fb,fb,fb,fb,fb,fb,fb,fb,fb,fb,fb,fb,fb,fb,fb,fb,fb,fb,fb,fb,fb,fb] rfl rfl (one_of HT_.out (by kernel_rfl)) (by decide) (fun K hK => ?_)
              refine goes_ Try.func14 (by kernel_rfl) rfl #[.string ((rd_T26 l0 x4_2).f0)] (by rfl) rfl rfl (by (try simp only [List.map_toArray, List.map_cons, List.map_nil]); first | done | rfl | (simp only [List.length_drop, List.length_take]; rfl)) ?_
              with_reducible refine (stratumref03_Fault.calls kj7 ((rd_T26 l0 x4_2).f0) t183 _ A18.out).mono ?_
              rintro e w75 ⟨rfl, hb⟩
              refine ⟨_, rfl, ?_⟩
              have n0_ := Aside0.mk (below_step (by repeat (first | (with_reducible first | exact HB.out | apply below_alloc | apply pw_below_drewN | apply below_drew1) | exact HB.out)) hb)
              clear HB
              have HB := n0_
              clear n0_
              (try clear hb)
              (try clear hb2)
              (try clear hk)
              (try clear hi)
              refine hK.out _ _ trivial (fun hHeld => ?_)
              clear hK K
              refine norm_ (a' := ?_) ?_ ?_
              rotate_left
              ·show Act.put _ (some 52) _ = _
               simp only [Act.put, sT, sZ, sS, i64_w, i32_w]
               rfl
              refine pure_ (i := 13) (N := some 53) (v := ?_) (a' := ?_) #[tb,tb,tb,tb,tb,tb,tb,tb,tb,tb,tb,tb,tb,tb,fb,fb,fb,fb,fb,fb,fb,fb,fb,fb,fb,fb,fb,fb,fb,fb,fb,fb,fb,fb,fb,fb,fb,fb,fb,fb,fb,fb,fb,fb,fb,fb,fb,fb,fb,fb,fb,fb] rfl rfl (any_of HT_.out (by kernel_rfl)) (fun _ _ _ h => h) (Or.inl ⟨by rfl, ?_⟩) ?_ ?_
              rotate_left
              ·intro w'
               go_simp
               with_reducible rfl
              rotate_left
              ·simp only [Act.put, sT, sZ, sS, i64_w, i32_w]
               rfl
              refine pure_ (i := 14) (N := some 54) (v := ?_) (a' := ?_) #[tb,tb,tb,tb,tb,tb,tb,tb,tb,tb,tb,tb,tb,tb,tb,fb,fb,fb,fb,fb,fb,fb,fb,fb,fb,fb,fb,fb,fb,fb,fb,fb,fb,fb,fb,fb,fb,fb,fb,fb,fb,fb,fb,fb,fb,fb,fb,fb,fb,fb,fb,fb] rfl rfl (any_of HT_.out (by kernel_rfl)) (fun _ _ _ h => h) (Or.inl ⟨by rfl, ?_⟩) ?_ ?_
              rotate_left
              ·intro w'
               go_simp
               with_reducible rfl
              rotate_left
              ·simp only [Act.put, sT, sZ, sS, i64_w, i32_w]
               rfl
              refine pure_ (i := 15) (N := some 55) (v := ?_) (a' := ?_) #[tb,tb,tb,tb,tb,tb,tb,tb,tb,tb,tb,tb,tb,tb,tb,tb,fb,fb,fb,fb,fb,fb,fb,fb,fb,fb,fb,fb,fb,fb,fb,fb,fb,fb,fb,fb,fb,fb,fb,fb,fb,fb,fb,fb,fb,fb,fb,fb,fb,fb,fb,fb] rfl rfl (any_of HT_.out (by kernel_rfl)) (fun _ _ _ h => h) (Or.inl ⟨by rfl, ?_⟩) ?_ ?_
              rotate_left
              ·intro w'
               go_simp
               with_reducible rfl
              rotate_left
              ·simp only [Act.put, sT, sZ, sS, i64_w, i32_w]
               rfl
              refine pure_ (i := 16) (N := some 56) (v := undef) (a' := ?_) #[tb,tb,tb,tb,tb,tb,tb,tb,tb,tb,tb,tb,tb,tb,tb,tb,tb,fb,fb,fb,fb,fb,fb,fb,fb,fb,fb,fb,fb,fb,fb,fb,fb,fb,fb,fb,fb,fb,fb,fb,fb,fb,fb,fb,fb,fb,fb,fb,fb,fb,fb,fb] rfl rfl (any_of HT_.out (by kernel_rfl)) (fun _ _ _ h => h) (Or.inr ⟨by rfl, rfl⟩) ?_ ?_
              rotate_left
              ·simp only [Act.put, sT, sZ, sS, i64_w, i32_w]
               rfl
              refine pure_ (i := 17) (N := some 57) (v := undef) (a' := ?_) #[tb,tb,tb,tb,tb,tb,tb,tb,tb,tb,tb,tb,tb,tb,tb,tb,tb,tb,fb,fb,fb,fb,fb,fb,fb,fb,fb,fb,fb,fb,fb,fb,fb,fb,fb,fb,fb,fb,fb,fb,fb,fb,fb,fb,fb,fb,fb,fb,fb,fb,fb,fb] rfl rfl (any_of HT_.out (by kernel_rfl)) (fun _ _ _ h => h) (Or.inr ⟨by rfl, rfl⟩) ?_ ?_
              rotate_left
              ·simp only [Act.put, sT, sZ, sS, i64_w, i32_w]
               rfl
              refine pure_ (i := 18) (N := some 58) (v := undef) (a' := ?_) #[tb,tb,tb,tb,tb,tb,tb,tb,tb,tb,tb,tb,tb,tb,tb,tb,tb,tb,tb,fb,fb,fb,fb,fb,fb,fb,fb,fb,fb,fb,fb,fb,fb,fb,fb,fb,fb,fb,fb,fb,fb,fb,fb,fb,fb,fb,fb,fb,fb,fb,fb,fb] rfl rfl (any_of HT_.out (by kernel_rfl)) (fun _ _ _ h => h) (Or.inr ⟨by rfl, rfl⟩) ?_ ?_
              rotate_left
              ·simp only [Act.put, sT, sZ, sS, i64_w, i32_w]
               rfl
              refine pure_ (i := 19) (N := some 59) (v := undef) (a' := ?_) #[tb,tb,tb,tb,tb,tb,tb,tb,tb,tb,tb,tb,tb,tb,tb,tb,tb,tb,tb,tb,fb,fb,fb,fb,fb,fb,fb,fb,fb,fb,fb,fb,fb,fb,fb,fb,fb,fb,fb,fb,fb,fb,fb,fb,fb,fb,fb,fb,fb,fb,fb,fb] rfl rfl (any_of HT_.out (by kernel_rfl)) (fun _ _ _ h => h) (Or.inr ⟨by rfl, rfl⟩) ?_ ?_
              rotate_left
              ·simp only [Act.put, sT, sZ, sS, i64_w, i32_w]
               rfl
              refine pure_ (i := 20) (N := some 60) (v := undef) (a' := ?_) #[tb,tb,tb,tb,tb,tb,tb,tb,tb,tb,tb,tb,tb,tb,tb,tb,tb,tb,tb,tb,tb,fb,fb,fb,fb,fb,fb,fb,fb,fb,fb,fb,fb,fb,fb,fb,fb,fb,fb,fb,fb,fb,fb,fb,fb,fb,fb,fb,fb,fb,fb,fb] rfl rfl (any_of HT_.out (by kernel_rfl)) (fun _ _ _ h => h) (Or.inr ⟨by rfl, rfl⟩) ?_ ?_
              rotate_left
              ·simp only [Act.put, sT, sZ, sS, i64_w, i32_w]
               rfl
              refine pure_ (i := 21) (N := some 61) (v := ?_) (a' := ?_) #[tb,tb,tb,tb,tb,tb,tb,tb,tb,tb,tb,tb,tb,tb,tb,tb,tb,tb,tb,tb,tb,tb,fb,fb,fb,fb,fb,fb,fb,fb,fb,fb,fb,fb,fb,fb,fb,fb,fb,fb,fb,fb,fb,fb,fb,fb,fb,fb,fb,fb,fb,fb] rfl rfl (any_of HT_.out (by kernel_rfl)) (fun _ _ _ h => h) (Or.inl ⟨by rfl, ?_⟩) ?_ ?_
              rotate_left
              ·intro w'
               go_simp
               with_reducible rfl
              rotate_left
              ·simp only [Act.put, sT, sZ, sS, i64_w, i32_w]
               rfl
              refine pure_ (i := 22) (N := some 62) (v := ?_) (a' := ?_) #[tb,tb,tb,tb,tb,tb,tb,tb,tb,tb,tb,tb,tb,tb,tb,tb,tb,tb,tb,tb,tb,tb,tb,fb,fb,fb,fb,fb,fb,fb,fb,fb,fb,fb,fb,fb,fb,fb,fb,fb,fb,fb,fb,fb,fb,fb,fb,fb,fb,fb,fb,fb] rfl rfl (any_of HT_.out (by kernel_rfl)) (fun _ _ _ h => h) (Or.inl ⟨by rfl, ?_⟩) ?_ ?_
              rotate_left
              ·intro w'
               go_simp
               with_reducible rfl
              rotate_left
              ·simp only [Act.put, sT, sZ, sS, i64_w, i32_w]
               rfl
              refine pure_ (i := 23) (N := some 63) (v := undef) (a' := ?_) #[tb,tb,tb,tb,tb,tb,tb,tb,tb,tb,tb,tb,tb,tb,tb,tb,tb,tb,tb,tb,tb,tb,tb,tb,fb,fb,fb,fb,fb,fb,fb,fb,fb,fb,fb,fb,fb,fb,fb,fb,fb,fb,fb,fb,fb,fb,fb,fb,fb,fb,fb,fb] rfl rfl (any_of HT_.out (by kernel_rfl)) (fun _ _ _ h => h) (Or.inr ⟨by rfl, rfl⟩) ?_ ?_
              rotate_left
              ·simp only [Act.put, sT, sZ, sS, i64_w, i32_w]
               rfl
              refine pure_ (i := 24) (N := some 64) (v := undef) (a' := ?_) #[tb,tb,tb,tb,tb,tb,tb,tb,tb,tb,tb,tb,tb,tb,tb,tb,tb,tb,tb,tb,tb,tb,tb,tb,tb,fb,fb,fb,fb,fb,fb,fb,fb,fb,fb,fb,fb,fb,fb,fb,fb,fb,fb,fb,fb,fb,fb,fb,fb,fb,fb,fb] rfl rfl (any_of HT_.out (by kernel_rfl)) (fun _ _ _ h => h) (Or.inr ⟨by rfl, rfl⟩) ?_ ?_
              rotate_left
              ·simp only [Act.put, sT, sZ, sS, i64_w, i32_w]
               rfl
              refine pure_ (i := 25) (N := some 65) (v := undef) (a' := ?_) #[tb,tb,tb,tb,tb,tb,tb,tb,tb,tb,tb,tb,tb,tb,tb,tb,tb,tb,tb,tb,tb,tb,tb,tb,tb,tb,fb,fb,fb,fb,fb,fb,fb,fb,fb,fb,fb,fb,fb,fb,fb,fb,fb,fb,fb,fb,fb,fb,fb,fb,fb,fb] rfl rfl (any_of HT_.out (by kernel_rfl)) (fun _ _ _ h => h) (Or.inr ⟨by rfl, rfl⟩) ?_ ?_
              rotate_left
              ·simp only [Act.put, sT, sZ, sS, i64_w, i32_w]
               rfl
              refine pure_ (i := 26) (N := some 66) (v := undef) (a' := ?_) #[tb,tb,tb,tb,tb,tb,tb,tb,tb,tb,tb,tb,tb,tb,tb,tb,tb,tb,tb,tb,tb,tb,tb,tb,tb,tb,tb,fb,fb,fb,fb,fb,fb,fb,fb,fb,fb,fb,fb,fb,fb,fb,fb,fb,fb,fb,fb,fb,fb,fb,fb,fb] rfl rfl (any_of HT_.out (by kernel_rfl)) (fun _ _ _ h => h) (Or.inr ⟨by rfl, rfl⟩) ?_ ?_
              rotate_left
              ·simp only [Act.put, sT, sZ, sS, i64_w, i32_w]
               rfl
              refine pure_ (i := 27) (N := some 67) (v := undef) (a' := ?_) #[tb,tb,tb,tb,tb,tb,tb,tb,tb,tb,tb,tb,tb,tb,tb,tb,tb,tb,tb,tb,tb,tb,tb,tb,tb,tb,tb,tb,fb,fb,fb,fb,fb,fb,fb,fb,fb,fb,fb,fb,fb,fb,fb,fb,fb,fb,fb,fb,fb,fb,fb,fb] rfl rfl (any_of HT_.out (by kernel_rfl)) (fun _ _ _ h => h) (Or.inr ⟨by rfl, rfl⟩) ?_ ?_
              rotate_left
              ·simp only [Act.put, sT, sZ, sS, i64_w, i32_w]
               rfl
              refine pure_ (i := 28) (N := some 68) (v := ?_) (a' := ?_) #[tb,tb,tb,tb,tb,tb,tb,tb,tb,tb,tb,tb,tb,tb,tb,tb,tb,tb,tb,tb,tb,tb,tb,tb,tb,tb,tb,tb,tb,fb,fb,fb,fb,fb,fb,fb,fb,fb,fb,fb,fb,fb,fb,fb,fb,fb,fb,fb,fb,fb,fb,fb] rfl rfl (any_of HT_.out (by kernel_rfl)) (fun _ _ _ h => h) (Or.inl ⟨by rfl, ?_⟩) ?_ ?_
              rotate_left
              ·intro w'
               go_simp
               with_reducible rfl
              rotate_left
              ·simp only [Act.put, sT, sZ, sS, i64_w, i32_w]
               rfl
              refine pure_ (i := 29) (N := some 69) (v := ?_) (a' := ?_) #[tb,tb,tb,tb,tb,tb,tb,tb,tb,tb,tb,tb,tb,tb,tb,tb,tb,tb,tb,tb,tb,tb,tb,tb,tb,tb,tb,tb,tb,tb,fb,fb,fb,fb,fb,fb,fb,fb,fb,fb,fb,fb,fb,fb,fb,fb,fb,fb,fb,fb,fb,fb] rfl rfl (any_of HT_.out (by kernel_rfl)) (fun _ _ _ h => h) (Or.inl ⟨by rfl, ?_⟩) ?_ ?_
              rotate_left
              ·intro w'
               go_simp
               with_reducible rfl
              rotate_left
              ·simp only [Act.put, sT, sZ, sS, i64_w, i32_w]
               rfl
              refine pure_ (i := 30) (N := some 70) (v := undef) (a' := ?_) #[tb,tb,tb,tb,tb,tb,tb,tb,tb,tb,tb,tb,tb,tb,tb,tb,tb,tb,tb,tb,tb,tb,tb,tb,tb,tb,tb,tb,tb,tb,tb,fb,fb,fb,fb,fb,fb,fb,fb,fb,fb,fb,fb,fb,fb,fb,fb,fb,fb,fb,fb,fb] rfl rfl (any_of HT_.out (by kernel_rfl)) (fun _ _ _ h => h) (Or.inr ⟨by rfl, rfl⟩) ?_ ?_
              rotate_left
              ·simp only [Act.put, sT, sZ, sS, i64_w, i32_w]
               rfl
              refine pure_ (i := 31) (N := some 71) (v := undef) (a' := ?_) #[tb,tb,tb,tb,tb,tb,tb,tb,tb,tb,tb,tb,tb,tb,tb,tb,tb,tb,tb,tb,tb,tb,tb,tb,tb,tb,tb,tb,tb,tb,tb,tb,fb,fb,fb,fb,fb,fb,fb,fb,fb,fb,fb,fb,fb,fb,fb,fb,fb,fb,fb,fb] rfl rfl (any_of HT_.out (by kernel_rfl)) (fun _ _ _ h => h) (Or.inr ⟨by rfl, rfl⟩) ?_ ?_
              rotate_left
              ·simp only [Act.put, sT, sZ, sS, i64_w, i32_w]
               rfl
              refine pure_ (i := 32) (N := some 72) (v := undef) (a' := ?_) #[tb,tb,tb,tb,tb,tb,tb,tb,tb,tb,tb,tb,tb,tb,tb,tb,tb,tb,tb,tb,tb,tb,tb,tb,tb,tb,tb,tb,tb,tb,tb,tb,tb,fb,fb,fb,fb,fb,fb,fb,fb,fb,fb,fb,fb,fb,fb,fb,fb,fb,fb,fb] rfl rfl (any_of HT_.out (by kernel_rfl)) (fun _ _ _ h => h) (Or.inr ⟨by rfl, rfl⟩) ?_ ?_
              rotate_left
              ·simp only [Act.put, sT, sZ, sS, i64_w, i32_w]
               rfl
              refine pure_ (i := 33) (N := some 73) (v := undef) (a' := ?_) #[tb,tb,tb,tb,tb,tb,tb,tb,tb,tb,tb,tb,tb,tb,tb,tb,tb,tb,tb,tb,tb,tb,tb,tb,tb,tb,tb,tb,tb,tb,tb,tb,tb,tb,fb,fb,fb,fb,fb,fb,fb,fb,fb,fb,fb,fb,fb,fb,fb,fb,fb,fb] rfl rfl (any_of HT_.out (by kernel_rfl)) (fun _ _ _ h => h) (Or.inr ⟨by rfl, rfl⟩) ?_ ?_
              rotate_left
              ·simp only [Act.put, sT, sZ, sS, i64_w, i32_w]
               rfl
              refine pure_ (i := 34) (N := some 74) (v := undef) (a' := ?_) #[tb,tb,tb,tb,tb,tb,tb,tb,tb,tb,tb,tb,tb,tb,tb,tb,tb,tb,tb,tb,tb,tb,tb,tb,tb,tb,tb,tb,tb,tb,tb,tb,tb,tb,tb,fb,fb,fb,fb,fb,fb,fb,fb,fb,fb,fb,fb,fb,fb,fb,fb,fb] rfl rfl (any_of HT_.out (by kernel_rfl)) (fun _ _ _ h => h) (Or.inr ⟨by rfl, rfl⟩) ?_ ?_
              rotate_left
              ·simp only [Act.put, sT, sZ, sS, i64_w, i32_w]
               rfl
              refine pure_ (i := 35) (N := some 75) (v := ?_) (a' := ?_) #[tb,tb,tb,tb,tb,tb,tb,tb,tb,tb,tb,tb,tb,tb,tb,tb,tb,tb,tb,tb,tb,tb,tb,tb,tb,tb,tb,tb,tb,tb,tb,tb,tb,tb,tb,tb,fb,fb,fb,fb,fb,fb,fb,fb,fb,fb,fb,fb,fb,fb,fb,fb] rfl rfl (any_of HT_.out (by kernel_rfl)) (fun _ _ _ h => h) (Or.inl ⟨by rfl, ?_⟩) ?_ ?_
              rotate_left
              ·intro w'
               go_simp
               with_reducible rfl
              rotate_left
              ·simp only [Act.put, sT, sZ, sS, i64_w, i32_w]
               rfl
              refine pure_ (i := 36) (N := some 76) (v := ?_) (a' := ?_) #[tb,tb,tb,tb,tb,tb,tb,tb,tb,tb,tb,tb,tb,tb,tb,tb,tb,tb,tb,tb,tb,tb,tb,tb,tb,tb,tb,tb,tb,tb,tb,tb,tb,tb,tb,tb,tb,fb,fb,fb,fb,fb,fb,fb,fb,fb,fb,fb,fb,fb,fb,fb] rfl rfl (any_of HT_.out (by kernel_rfl)) (fun _ _ _ h => h) (Or.inl ⟨by rfl, ?_⟩) ?_ ?_
              rotate_left
              ·intro w'
               go_simp
               with_reducible rfl
              rotate_left
              ·simp only [Act.put, sT, sZ, sS, i64_w, i32_w]
               rfl
              refine pure_ (i := 37) (N := some 77) (v := undef) (a' := ?_) #[tb,tb,tb,tb,tb,tb,tb,tb,tb,tb,tb,tb,tb,tb,tb,tb,tb,tb,tb,tb,tb,tb,tb,tb,tb,tb,tb,tb,tb,tb,tb,tb,tb,tb,tb,tb,tb,tb,fb,fb,fb,fb,fb,fb,fb,fb,fb,fb,fb,fb,fb,fb] rfl rfl (any_of HT_.out (by kernel_rfl)) (fun _ _ _ h => h) (Or.inr ⟨by rfl, rfl⟩) ?_ ?_
              rotate_left
              ·simp only [Act.put, sT, sZ, sS, i64_w, i32_w]
               rfl
              refine pure_ (i := 38) (N := some 78) (v := undef) (a' := ?_) #[tb,tb,tb,tb,tb,tb,tb,tb,tb,tb,tb,tb,tb,tb,tb,tb,tb,tb,tb,tb,tb,tb,tb,tb,tb,tb,tb,tb,tb,tb,tb,tb,tb,tb,tb,tb,tb,tb,tb,fb,fb,fb,fb,fb,fb,fb,fb,fb,fb,fb,fb,fb] rfl rfl (any_of HT_.out (by kernel_rfl)) (fun _ _ _ h => h) (Or.inr ⟨by rfl, rfl⟩) ?_ ?_
              rotate_left
              ·simp only [Act.put, sT, sZ, sS, i64_w, i32_w]
               rfl
              refine pure_ (i := 39) (N := some 79) (v := undef) (a' := ?_) #[tb,tb,tb,tb,tb,tb,tb,tb,tb,tb,tb,tb,tb,tb,tb,tb,tb,tb,tb,tb,tb,tb,tb,tb,tb,tb,tb,tb,tb,tb,tb,tb,tb,tb,tb,tb,tb,tb,tb,tb,fb,fb,fb,fb,fb,fb,fb,fb,fb,fb,fb,fb] rfl rfl (any_of HT_.out (by kernel_rfl)) (fun _ _ _ h => h) (Or.inr ⟨by rfl, rfl⟩) ?_ ?_
              rotate_left
              ·simp only [Act.put, sT, sZ, sS, i64_w, i32_w]
               rfl
              refine pure_ (i := 40) (N := some 80) (v := undef) (a' := ?_) #[tb,tb,tb,tb,tb,tb,tb,tb,tb,tb,tb,tb,tb,tb,tb,tb,tb,tb,tb,tb,tb,tb,tb,tb,tb,tb,tb,tb,tb,tb,tb,tb,tb,tb,tb,tb,tb,tb,tb,tb,tb,fb,fb,fb,fb,fb,fb,fb,fb,fb,fb,fb] rfl rfl (any_of HT_.out (by kernel_rfl)) (fun _ _ _ h => h) (Or.inr ⟨by rfl, rfl⟩) ?_ ?_
              rotate_left
              ·simp only [Act.put, sT, sZ, sS, i64_w, i32_w]
               rfl
              refine pure_ (i := 41) (N := some 81) (v := undef) (a' := ?_) #[tb,tb,tb,tb,tb,tb,tb,tb,tb,tb,tb,tb,tb,tb,tb,tb,tb,tb,tb,tb,tb,tb,tb,tb,tb,tb,tb,tb,tb,tb,tb,tb,tb,tb,tb,tb,tb,tb,tb,tb,tb,tb,fb,fb,fb,fb,fb,fb,fb,fb,fb,fb] rfl rfl (any_of HT_.out (by kernel_rfl)) (fun _ _ _ h => h) (Or.inr ⟨by rfl, rfl⟩) ?_ ?_
              rotate_left
              ·simp only [Act.put, sT, sZ, sS, i64_w, i32_w]
               rfl
              refine pure_ (i := 42) (N := some 82) (v := undef) (a' := ?_) #[tb,tb,tb,tb,tb,tb,tb,tb,tb,tb,tb,tb,tb,tb,tb,tb,tb,tb,tb,tb,tb,tb,tb,tb,tb,tb,tb,tb,tb,tb,tb,tb,tb,tb,tb,tb,tb,tb,tb,tb,tb,tb,tb,fb,fb,fb,fb,fb,fb,fb,fb,fb] rfl rfl (any_of HT_.out (by kernel_rfl)) (fun _ _ _ h => h) (Or.inr ⟨by rfl, rfl⟩) ?_ ?_
              rotate_left
              ·simp only [Act.put, sT, sZ, sS, i64_w, i32_w]
               rfl
              refine pure_ (i := 43) (N := some 83) (v := undef) (a' := ?_) #[tb,tb,tb,tb,tb,tb,tb,tb,tb,tb,tb,tb,tb,tb,tb,tb,tb,tb,tb,tb,tb,tb,tb,tb,tb,tb,tb,tb,tb,tb,tb,tb,tb,tb,tb,tb,tb,tb,tb,tb,tb,tb,tb,tb,fb,fb,fb,fb,fb,fb,fb,fb] rfl rfl (any_of HT_.out (by kernel_rfl)) (fun _ _ _ h => h) (Or.inr ⟨by rfl, rfl⟩) ?_ ?_
              rotate_left
              ·simp only [Act.put, sT, sZ, sS, i64_w, i32_w]
               rfl
              refine pure_ (i := 44) (N := some 84) (v := undef) (a' := ?_) #[tb,tb,tb,tb,tb,tb,tb,tb,tb,tb,tb,tb,tb,tb,tb,tb,tb,tb,tb,tb,tb,tb,tb,tb,tb,tb,tb,tb,tb,tb,tb,tb,tb,tb,tb,tb,tb,tb,tb,tb,tb,tb,tb,tb,tb,fb,fb,fb,fb,fb,fb,fb] rfl rfl (any_of HT_.out (by kernel_rfl)) (fun _ _ _ h => h) (Or.inr ⟨by rfl, rfl⟩) ?_ ?_
              rotate_left
              ·simp only [Act.put, sT, sZ, sS, i64_w, i32_w]
               rfl
              refine pure_ (i := 45) (N := some 85) (v := undef) (a' := ?_) #[tb,tb,tb,tb,tb,tb,tb,tb,tb,tb,tb,tb,tb,tb,tb,tb,tb,tb,tb,tb,tb,tb,tb,tb,tb,tb,tb,tb,tb,tb,tb,tb,tb,tb,tb,tb,tb,tb,tb,tb,tb,tb,tb,tb,tb,tb,fb,fb,fb,fb,fb,fb] rfl rfl (any_of HT_.out (by kernel_rfl)) (fun _ _ _ h => h) (Or.inr ⟨by rfl, rfl⟩) ?_ ?_
              rotate_left
              ·simp only [Act.put, sT, sZ, sS, i64_w, i32_w]
               rfl
              refine pure_ (i := 46) (N := some 86) (v := undef) (a' := ?_) #[tb,tb,tb,tb,tb,tb,tb,tb,tb,tb,tb,tb,tb,tb,tb,tb,tb,tb,tb,tb,tb,tb,tb,tb,tb,tb,tb,tb,tb,tb,tb,tb,tb,tb,tb,tb,tb,tb,tb,tb,tb,tb,tb,tb,tb,tb,tb,fb,fb,fb,fb,fb] rfl rfl (any_of HT_.out (by kernel_rfl)) (fun _ _ _ h => h) (Or.inr ⟨by rfl, rfl⟩) ?_ ?_
              rotate_left
              ·simp only [Act.put, sT, sZ, sS, i64_w, i32_w]
               rfl
              refine pure_ (i := 47) (N := some 87) (v := undef) (a' := ?_) #[tb,tb,tb,tb,tb,tb,tb,tb,tb,tb,tb,tb,tb,tb,tb,tb,tb,tb,tb,tb,tb,tb,tb,tb,tb,tb,tb,tb,tb,tb,tb,tb,tb,tb,tb,tb,tb,tb,tb,tb,tb,tb,tb,tb,tb,tb,tb,tb,fb,fb,fb,fb] rfl rfl (any_of HT_.out (by kernel_rfl)) (fun _ _ _ h => h) (Or.inr ⟨by rfl, rfl⟩) ?_ ?_
              rotate_left
              ·simp only [Act.put, sT, sZ, sS, i64_w, i32_w]
               rfl
              refine pure_ (i := 48) (N := some 88) (v := undef) (a' := ?_) #[tb,tb,tb,tb,tb,tb,tb,tb,tb,tb,tb,tb,tb,tb,tb,tb,tb,tb,tb,tb,tb,tb,tb,tb,tb,tb,tb,tb,tb,tb,tb,tb,tb,tb,tb,tb,tb,tb,tb,tb,tb,tb,tb,tb,tb,tb,tb,tb,tb,fb,fb,fb] rfl rfl (any_of HT_.out (by kernel_rfl)) (fun _ _ _ h => h) (Or.inr ⟨by rfl, rfl⟩) ?_ ?_
              rotate_left
              ·simp only [Act.put, sT, sZ, sS, i64_w, i32_w]
               rfl
              refine pure_ (i := 49) (N := some 89) (v := undef) (a' := ?_) #[tb,tb,tb,tb,tb,tb,tb,tb,tb,tb,tb,tb,tb,tb,tb,tb,tb,tb,tb,tb,tb,tb,tb,tb,tb,tb,tb,tb,tb,tb,tb,tb,tb,tb,tb,tb,tb,tb,tb,tb,tb,tb,tb,tb,tb,tb,tb,tb,tb,tb,fb,fb] rfl rfl (any_of HT_.out (by kernel_rfl)) (fun _ _ _ h => h) (Or.inr ⟨by rfl, rfl⟩) ?_ ?_
              rotate_left
              ·simp only [Act.put, sT, sZ, sS, i64_w, i32_w]
               rfl
              refine pure_ (i := 50) (N := some 90) (v := ?_) (a' := ?_) #[tb,tb,tb,tb,tb,tb,tb,tb,tb,tb,tb,tb,tb,tb,tb,tb,tb,tb,tb,tb,tb,tb,tb,tb,tb,tb,tb,tb,tb,tb,tb,tb,tb,tb,tb,tb,tb,tb,tb,tb,tb,tb,tb,tb,tb,tb,tb,tb,tb,tb,tb,fb] rfl rfl (any_of HT_.out (by kernel_rfl)) (fun _ _ _ h => h) (Or.inl ⟨by rfl, ?_⟩) ?_ ?_
              rotate_left
              ·intro w'
               go_simp
               with_reducible rfl
              rotate_left
              ·simp only [Act.put, sT, sZ, sS, i64_w, i32_w]
               rfl
              refine pure_ (i := 51) (N := some 3) (v := ?_) (a' := ?_) #[tb,tb,tb,tb,tb,tb,tb,tb,tb,tb,tb,tb,tb,tb,tb,tb,tb,tb,tb,tb,tb,tb,tb,tb,tb,tb,tb,tb,tb,tb,tb,tb,tb,tb,tb,tb,tb,tb,tb,tb,tb,tb,tb,tb,tb,tb,tb,tb,tb,tb,tb,tb] rfl rfl (any_of HT_.out (by kernel_rfl)) (fun _ _ _ h => h) (Or.inl ⟨by rfl, ?_⟩) ?_ ?_
              rotate_left
              ·intro w'
               go_simp
               with_reducible rfl
              rotate_left
              ·simp only [Act.put, sT, sZ, sS, i64_w, i32_w]
               rfl
              refine done_ (done_of HT_.out (by kernel_rfl)) ?_
              try go_wp2
              go_roundg kj7
              case measure => have := HJ2.out; have := HK2.out; have := HJ7.out; omega
              case rel => exact ⟨(false), (wrap64 (x4_2 + 1)), (by first | rfl | (simp; done) | (simp [*]; done)), (by first | rfl | (simp; done) | (simp [*]; done)), H', ⟨by have := HJ2.out; have := HK2.out; have := HJ7.out; omega⟩, ⟨by repeat (first | (with_reducible first | exact HB.out | apply below_alloc | apply pw_below_drewN | apply below_drew1) | exact HB.out)⟩⟩
            ·rw [if_neg c16] at H
             have c16b0 : (t179 == t181) = false := beq_eq_false_iff_ne.mpr c16
             have c16b1 : (t179 != t181) = true := bne_iff_ne.mpr c16
             have H' := Aside0.mk H
             clear H
             have p177 : 0 ≤ (x4_2 : Int) := of_decide_eq_true (by first | (with_reducible assumption) | assumption)
             have q177 : x4_2 < (l0.length : Int) := of_decide_eq_true (by first | (with_reducible assumption) | assumption)
             obtain ⟨ad177, e177, hx177_0, hx177_1⟩ := at_T26 HR0.out x4_2 p177 q177
             cases e177
             replace hx177_0 := (HB.out.cell (World.block_lt_of_cell? w _ hx177_0)).trans hx177_0
             replace hx177_1 := (HB.out.cell (World.block_lt_of_cell? w _ hx177_1)).trans hx177_1
             replace p177 := eq_true p177
             replace q177 := eq_true q177
             try go_wp2_with (first | ((with_reducible refine gate_callee (f := 11) rfl ?_); refine goesL_ (some 32) rfl rfl Try.func11 (by kernel_rfl) rfl #[.string ((rd_T26 l0 x4_2).f0)] rfl (by (try simp only [List.map_toArray, List.map_cons, List.map_nil]); first | done | rfl | (simp only [List.length_drop, List.length_take]; rfl)) ?_; (with_reducible refine (utf_Next.calls ((rd_T26 l0 x4_2).f0) t178 t179 _ A13.out).mono ?_); rintro e w76 ⟨rfl, hb⟩; refine ⟨_, rfl, ?_⟩; have n0_ := Aside0.mk (below_step (by repeat (first | (with_reducible first | exact HB.out | apply below_alloc | apply pw_below_drewN | apply below_drew1) | exact HB.out)) hb); clear HB; have HB := n0_; clear n0_; (try clear hb); (try clear hb2); (try clear hk); (try clear hi)) | ((with_reducible refine gate_callee (f := 12) rfl ?_); refine goesL_ (some 37) rfl rfl Try.func12 (by kernel_rfl) rfl #[.string ((rd_T26 l0 x4_2).f0)] rfl (by (try simp only [List.map_toArray, List.map_cons, List.map_nil]); first | done | rfl | (simp only [List.length_drop, List.length_take]; rfl)) ?_; (with_reducible refine (stratumref03_Next.calls kj7 ((rd_T26 l0 x4_2).f0) t180 t181 _ A14.out).mono ?_); rintro e w77 ⟨rfl, hb⟩; refine ⟨_, rfl, ?_⟩; have n0_ := Aside0.mk (below_step (by repeat (first | (with_reducible first | exact HB.out | apply below_alloc | apply pw_below_drewN | apply below_drew1) | exact HB.out)) hb); clear HB; have HB := n0_; clear n0_; (try clear hb); (try clear hb2); (try clear hk); (try clear hi)))
             have n0_ := Aside0.mk (below_drew1 HB.out)
             clear HB
             have HB := n0_
             clear n0_
             refine start_ (n := 52) (S := fun w' => True) (ds := []) #[fb,fb,fb,fb,fb,fb,fb,fb,fb,fb,fb,fb,fb,fb,fb,fb,fb,fb,fb,fb,fb,fb,fb,fb,fb,fb,fb,fb,fb,fb,fb,fb,fb,fb,fb,fb,fb,fb,fb,fb,fb,fb,fb,fb,fb,fb,fb,fb,fb,fb,fb,fb] (by kernel_rfl) rfl rfl trivial (fun hHeld => ?_); refine with_tabW stratumlaw03_UtfAll.tab10 stratumlaw03_UtfAll.bits10 (fun HT_ HW_ => ?_)
             generalize w77.drew = w78 at HB hHeld ⊢
             refine pure_ (i := 0) (N := some 40) (v := ?_) (a' := ?_) #[tb,fb,fb,fb,fb,fb,fb,fb,fb,fb,fb,fb,fb,fb,fb,fb,fb,fb,fb,fb,fb,fb,fb,fb,fb,fb,fb,fb,fb,fb,fb,fb,fb,fb,fb,fb,fb,fb,fb,fb,fb,fb,fb,fb,fb,fb,fb,fb,fb,fb,fb,fb] rfl rfl (any_of HT_.out (by kernel_rfl)) (fun _ _ _ h => h) (Or.inl ⟨by rfl, ?_⟩) ?_ ?_
             rotate_left
             ·intro w'
              go_simp
              with_reducible rfl
             rotate_left
             ·simp only [Act.put, sT, sZ, sS, i64_w, i32_w]
              rfl
             refine pure_ (i := 1) (N := some 41) (v := ?_) (a' := ?_) #[tb,tb,fb,fb,fb,fb,fb,fb,fb,fb,fb,fb,fb,fb,fb,fb,fb,fb,fb,fb,fb,fb,fb,fb,fb,fb,fb,fb,fb,fb,fb,fb,fb,fb,fb,fb,fb,fb,fb,fb,fb,fb,fb,fb,fb,fb,fb,fb,fb,fb,fb,fb] rfl rfl (any_of HT_.out (by kernel_rfl)) (fun _ _ _ h => h) (Or.inl ⟨by rfl, ?_⟩) ?_ ?_
             rotate_left
             ·intro w'
              go_simp
              with_reducible rfl
             rotate_left
             ·simp only [Act.put, sT, sZ, sS, i64_w, i32_w]
              rfl
             refine pure_ (i := 2) (N := some 42) (v := ?_) (a' := ?_) #[tb,tb,tb,fb,fb,fb,fb,fb,fb,fb,fb,fb,fb,fb,fb,fb,fb,fb,fb,fb,fb,fb,fb,fb,fb,fb,fb,fb,fb,fb,fb,fb,fb,fb,fb,fb,fb,fb,fb,fb,fb,fb,fb,fb,fb,fb,fb,fb,fb,fb,fb,fb] rfl rfl (any_of HT_.out (by kernel_rfl)) (fun _ _ _ h => h) (Or.inl ⟨by rfl, ?_⟩) ?_ ?_
             rotate_left
             ·intro w'
              go_simp
              with_reducible rfl
             rotate_left
             ·simp only [Act.put, sT, sZ, sS, i64_w, i32_w]
              rfl
             refine pure_ (i := 3) (N := some 43) (v := ?_) (a' := ?_) #[tb,tb,tb,tb,fb,fb,fb,fb,fb,fb,fb,fb,fb,fb,fb,fb,fb,fb,fb,fb,fb,fb,fb,fb,fb,fb,fb,fb,fb,fb,fb,fb,fb,fb,fb,fb,fb,fb,fb,fb,fb,fb,fb,fb,fb,fb,fb,fb,fb,fb,fb,fb] rfl rfl (any_of HT_.out (by kernel_rfl)) (fun _ _ _ h => h) (Or.inl ⟨by rfl, ?_⟩) ?_ ?_
             rotate_left
             ·intro w'
              go_simp
              with_reducible rfl
             rotate_left
             ·simp only [Act.put, sT, sZ, sS, i64_w, i32_w]
              rfl
             refine pure_ (i := 4) (N := some 44) (v := ?_) (a' := ?_) #[tb,tb,tb,tb,tb,fb,fb,fb,fb,fb,fb,fb,fb,fb,fb,fb,fb,fb,fb,fb,fb,fb,fb,fb,fb,fb,fb,fb,fb,fb,fb,fb,fb,fb,fb,fb,fb,fb,fb,fb,fb,fb,fb,fb,fb,fb,fb,fb,fb,fb,fb,fb] rfl rfl (any_of HT_.out (by kernel_rfl)) (fun _ _ _ h => h) (Or.inl ⟨by rfl, ?_⟩) ?_ ?_
             rotate_left
             ·intro w'
              go_simp
              with_reducible rfl
             rotate_left
             ·simp only [Act.put, sT, sZ, sS, i64_w, i32_w]
              rfl
             refine pure_ (i := 5) (N := some 45) (v := ?_) (a' := ?_) #[tb,tb,tb,tb,tb,tb,fb,fb,fb,fb,fb,fb,fb,fb,fb,fb,fb,fb,fb,fb,fb,fb,fb,fb,fb,fb,fb,fb,fb,fb,fb,fb,fb,fb,fb,fb,fb,fb,fb,fb,fb,fb,fb,fb,fb,fb,fb,fb,fb,fb,fb,fb] rfl rfl (any_of HT_.out (by kernel_rfl)) (fun _ _ _ h => h) (Or.inl ⟨by rfl, ?_⟩) ?_ ?_
             rotate_left
             ·intro w'
              go_simp
              with_reducible rfl
             rotate_left
             ·simp only [Act.put, sT, sZ, sS, i64_w, i32_w]
              rfl
             refine pure_ (i := 6) (N := some 46) (v := ?_) (a' := ?_) #[tb,tb,tb,tb,tb,tb,tb,fb,fb,fb,fb,fb,fb,fb,fb,fb,fb,fb,fb,fb,fb,fb,fb,fb,fb,fb,fb,fb,fb,fb,fb,fb,fb,fb,fb,fb,fb,fb,fb,fb,fb,fb,fb,fb,fb,fb,fb,fb,fb,fb,fb,fb] rfl rfl (any_of HT_.out (by kernel_rfl)) (fun _ _ _ h => h) (Or.inl ⟨by rfl, ?_⟩) ?_ ?_
             rotate_left
             ·intro w'
              go_simp
              with_reducible rfl
             rotate_left
             ·simp only [Act.put, sT, sZ, sS, i64_w, i32_w]
              rfl
             refine pure_ (i := 7) (N := some 47) (v := ?_) (a' := ?_) #[tb,tb,tb,tb,tb,tb,tb,tb,fb,fb,fb,fb,fb,fb,fb,fb,fb,fb,fb,fb,fb,fb,fb,fb,fb,fb,fb,fb,fb,fb,fb,fb,fb,fb,fb,fb,fb,fb,fb,fb,fb,fb,fb,fb,fb,fb,fb,fb,fb,fb,fb,fb] rfl rfl (any_of HT_.out (by kernel_rfl)) (fun _ _ _ h => h) (Or.inl ⟨by rfl, ?_⟩) ?_ ?_
             rotate_left
             ·intro w'
              go_simp
              with_reducible rfl
             rotate_left
             ·simp only [Act.put, sT, sZ, sS, i64_w, i32_w]
              rfl
             refine pure_ (i := 8) (N := some 48) (v := ?_) (a' := ?_) #[tb,tb,tb,tb,tb,tb,tb,tb,tb,fb,fb,fb,fb,fb,fb,fb,fb,fb,fb,fb,fb,fb,fb,fb,fb,fb,fb,fb,fb,fb,fb,fb,fb,fb,fb,fb,fb,fb,fb,fb,fb,fb,fb,fb,fb,fb,fb,fb,fb,fb,fb,fb] rfl rfl (any_of HT_.out (by kernel_rfl)) (fun _ _ _ h => h) (Or.inl ⟨by rfl, ?_⟩) ?_ ?_
             rotate_left
             ·intro w'
              go_simp
              with_reducible rfl
             rotate_left
             ·simp only [Act.put, sT, sZ, sS, i64_w, i32_w]
              rfl
             refine pure_ (i := 9) (N := some 49) (v := undef) (a' := ?_) #[tb,tb,tb,tb,tb,tb,tb,tb,tb,tb,fb,fb,fb,fb,fb,fb,fb,fb,fb,fb,fb,fb,fb,fb,fb,fb,fb,fb,fb,fb,fb,fb,fb,fb,fb,fb,fb,fb,fb,fb,fb,fb,fb,fb,fb,fb,fb,fb,fb,fb,fb,fb] rfl rfl (any_of HT_.out (by kernel_rfl)) (fun _ _ _ h => h) (Or.inr ⟨by rfl, rfl⟩) ?_ ?_
             rotate_left
             ·simp only [Act.put, sT, sZ, sS, i64_w, i32_w]
              rfl
             refine pure_ (i := 10) (N := some 50) (v := undef) (a' := ?_) #[tb,tb,tb,tb,tb,tb,tb,tb,tb,tb,tb,fb,fb,fb,fb,fb,fb,fb,fb,fb,fb,fb,fb,fb,fb,fb,fb,fb,fb,fb,fb,fb,fb,fb,fb,fb,fb,fb,fb,fb,fb,fb,fb,fb,fb,fb,fb,fb,fb,fb,fb,fb] rfl rfl (any_of HT_.out (by kernel_rfl)) (fun _ _ _ h => h) (Or.inr ⟨by rfl, rfl⟩) ?_ ?_
             rotate_left
             ·simp only [Act.put, sT, sZ, sS, i64_w, i32_w]
              rfl
             refine pure_ (i := 11) (N := some 51) (v := undef) (a' := ?_) #[tb,tb,tb,tb,tb,tb,tb,tb,tb,tb,tb,tb,fb,fb,fb,fb,fb,fb,fb,fb,fb,fb,fb,fb,fb,fb,fb,fb,fb,fb,fb,fb,fb,fb,fb,fb,fb,fb,fb,fb,fb,fb,fb,fb,fb,fb,fb,fb,fb,fb,fb,fb] rfl rfl (any_of HT_.out (by kernel_rfl)) (fun _ _ _ h => h) (Or.inr ⟨by rfl, rfl⟩) ?_ ?_
             rotate_left
             ·simp only [Act.put, sT, sZ, sS, i64_w, i32_w]
              rfl
             refine pure_ (i := 12) (N := some 52) (v := undef) (a' := ?_) #[tb,tb,tb,tb,tb,tb,tb,tb,tb,tb,tb,tb,tb,fb,fb,fb,fb,fb,fb,fb,fb,fb,fb,fb,fb,fb,fb,fb,fb,fb,fb,fb,fb,fb,fb,fb,fb,fb,fb,fb,fb,fb,fb,fb,fb,fb,fb,fb,fb,fb,fb,fb] rfl rfl (any_of HT_.out (by kernel_rfl)) (fun _ _ _ h => h) (Or.inr ⟨by rfl, rfl⟩) ?_ ?_
             rotate_left
             ·simp only [Act.put, sT, sZ, sS, i64_w, i32_w]
              rfl
             refine pure_ (i := 13) (N := some 53) (v := undef) (a' := ?_) #[tb,tb,tb,tb,tb,tb,tb,tb,tb,tb,tb,tb,tb,tb,fb,fb,fb,fb,fb,fb,fb,fb,fb,fb,fb,fb,fb,fb,fb,fb,fb,fb,fb,fb,fb,fb,fb,fb,fb,fb,fb,fb,fb,fb,fb,fb,fb,fb,fb,fb,fb,fb] rfl rfl (any_of HT_.out (by kernel_rfl)) (fun _ _ _ h => h) (Or.inr ⟨by rfl, rfl⟩) ?_ ?_
             rotate_left
             ·simp only [Act.put, sT, sZ, sS, i64_w, i32_w]
              rfl
             refine pure_ (i := 14) (N := some 54) (v := ?_) (a' := ?_) #[tb,tb,tb,tb,tb,tb,tb,tb,tb,tb,tb,tb,tb,tb,tb,fb,fb,fb,fb,fb,fb,fb,fb,fb,fb,fb,fb,fb,fb,fb,fb,fb,fb,fb,fb,fb,fb,fb,fb,fb,fb,fb,fb,fb,fb,fb,fb,fb,fb,fb,fb,fb] rfl rfl (any_of HT_.out (by kernel_rfl)) (fun _ _ _ h => h) (Or.inl ⟨by rfl, ?_⟩) ?_ ?_
             rotate_left
             ·intro w'
              go_simp
              with_reducible rfl
             rotate_left
             ·simp only [Act.put, sT, sZ, sS, i64_w, i32_w]
              rfl
             refine pure_ (i := 15) (N := some 55) (v := ?_) (a' := ?_) #[tb,tb,tb,tb,tb,tb,tb,tb,tb,tb,tb,tb,tb,tb,tb,tb,fb,fb,fb,fb,fb,fb,fb,fb,fb,fb,fb,fb,fb,fb,fb,fb,fb,fb,fb,fb,fb,fb,fb,fb,fb,fb,fb,fb,fb,fb,fb,fb,fb,fb,fb,fb] rfl rfl (any_of HT_.out (by kernel_rfl)) (fun _ _ _ h => h) (Or.inl ⟨by rfl, ?_⟩) ?_ ?_
             rotate_left
             ·intro w'
              go_simp
              with_reducible rfl
             rotate_left
             ·simp only [Act.put, sT, sZ, sS, i64_w, i32_w]
              rfl
             refine pure_ (i := 16) (N := some 56) (v := undef) (a' := ?_) #[tb,tb,tb,tb,tb,tb,tb,tb,tb,tb,tb,tb,tb,tb,tb,tb,tb,fb,fb,fb,fb,fb,fb,fb,fb,fb,fb,fb,fb,fb,fb,fb,fb,fb,fb,fb,fb,fb,fb,fb,fb,fb,fb,fb,fb,fb,fb,fb,fb,fb,fb,fb] rfl rfl (any_of HT_.out (by kernel_rfl)) (fun _ _ _ h => h) (Or.inr ⟨by rfl, rfl⟩) ?_ ?_
             rotate_left
             ·simp only [Act.put, sT, sZ, sS, i64_w, i32_w]
              rfl
             refine pure_ (i := 17) (N := some 57) (v := undef) (a' := ?_) #[tb,tb,tb,tb,tb,tb,tb,tb,tb,tb,tb,tb,tb,tb,tb,tb,tb,tb,fb,fb,fb,fb,fb,fb,fb,fb,fb,fb,fb,fb,fb,fb,fb,fb,fb,fb,fb,fb,fb,fb,fb,fb,fb,fb,fb,fb,fb,fb,fb,fb,fb,fb] rfl rfl (any_of HT_.out (by kernel_rfl)) (fun _ _ _ h => h) (Or.inr ⟨by rfl, rfl⟩) ?_ ?_
             rotate_left
             ·simp only [Act.put, sT, sZ, sS, i64_w, i32_w]
              rfl
             refine pure_ (i := 18) (N := some 58) (v := undef) (a' := ?_) #[tb,tb,tb,tb,tb,tb,tb,tb,tb,tb,tb,tb,tb,tb,tb,tb,tb,tb,tb,fb,fb,fb,fb,fb,fb,fb,fb,fb,fb,fb,fb,fb,fb,fb,fb,fb,fb,fb,fb,fb,fb,fb,fb,fb,fb,fb,fb,fb,fb,fb,fb,fb] rfl rfl (any_of HT_.out (by kernel_rfl)) (fun _ _ _ h => h) (Or.inr ⟨by rfl, rfl⟩) ?_ ?_
             rotate_left
             ·simp only [Act.put, sT, sZ, sS, i64_w, i32_w]
              rfl
             refine pure_ (i := 19) (N := some 59) (v := undef) (a' := ?_) #[tb,tb,tb,tb,tb,tb,tb,tb,tb,tb,tb,tb,tb,tb,tb,tb,tb,tb,tb,tb,fb,fb,fb,fb,fb,fb,fb,fb,fb,fb,fb,fb,fb,fb,fb,fb,fb,fb,fb,fb,fb,fb,fb,fb,fb,fb,fb,fb,fb,fb,fb,fb] rfl rfl (any_of HT_.out (by kernel_rfl)) (fun _ _ _ h => h) (Or.inr ⟨by rfl, rfl⟩) ?_ ?_
             rotate_left
             ·simp only [Act.put, sT, sZ, sS, i64_w, i32_w]
              rfl
             refine pure_ (i := 20) (N := some 60) (v := undef) (a' := ?_) #[tb,tb,tb,tb,tb,tb,tb,tb,tb,tb,tb,tb,tb,tb,tb,tb,tb,tb,tb,tb,tb,fb,fb,fb,fb,fb,fb,fb,fb,fb,fb,fb,fb,fb,fb,fb,fb,fb,fb,fb,fb,fb,fb,fb,fb,fb,fb,fb,fb,fb,fb,fb] rfl rfl (any_of HT_.out (by kernel_rfl)) (fun _ _ _ h => h) (Or.inr ⟨by rfl, rfl⟩) ?_ ?_
             rotate_left
             ·simp only [Act.put, sT, sZ, sS, i64_w, i32_w]
              rfl
             refine pure_ (i := 21) (N := some 61) (v := ?_) (a' := ?_) #[tb,tb,tb,tb,tb,tb,tb,tb,tb,tb,tb,tb,tb,tb,tb,tb,tb,tb,tb,tb,tb,tb,fb,fb,fb,fb,fb,fb,fb,fb,fb,fb,fb,fb,fb,fb,fb,fb,fb,fb,fb,fb,fb,fb,fb,fb,fb,fb,fb,fb,fb,fb] rfl rfl (any_of HT_.out (by kernel_rfl)) (fun _ _ _ h => h) (Or.inl ⟨by rfl, ?_⟩) ?_ ?_
             rotate_left
             ·intro w'
              go_simp
              with_reducible rfl
             rotate_left
             ·simp only [Act.put, sT, sZ, sS, i64_w, i32_w]
              rfl
             refine pure_ (i := 22) (N := some 62) (v := ?_) (a' := ?_) #[tb,tb,tb,tb,tb,tb,tb,tb,tb,tb,tb,tb,tb,tb,tb,tb,tb,tb,tb,tb,tb,tb,tb,fb,fb,fb,fb,fb,fb,fb,fb,fb,fb,fb,fb,fb,fb,fb,fb,fb,fb,fb,fb,fb,fb,fb,fb,fb,fb,fb,fb,fb] rfl rfl (any_of HT_.out (by kernel_rfl)) (fun _ _ _ h => h) (Or.inl ⟨by rfl, ?_⟩) ?_ ?_
             rotate_left
             ·intro w'
              go_simp
              with_reducible rfl
             rotate_left
             ·simp only [Act.put, sT, sZ, sS, i64_w, i32_w]
              rfl
             refine pure_ (i := 23) (N := some 63) (v := undef) (a' := ?_) #[tb,tb,tb,tb,tb,tb,tb,tb,tb,tb,tb,tb,tb,tb,tb,tb,tb,tb,tb,tb,tb,tb,tb,tb,fb,fb,fb,fb,fb,fb,fb,fb,fb,fb,fb,fb,fb,fb,fb,fb,fb,fb,fb,fb,fb,fb,fb,fb,fb,fb,fb,fb] rfl rfl (any_of HT_.out (by kernel_rfl)) (fun _ _ _ h => h) (Or.inr ⟨by rfl, rfl⟩) ?_ ?_
             rotate_left
             ·simp only [Act.put, sT, sZ, sS, i64_w, i32_w]
              rfl
             refine pure_ (i := 24) (N := some 64) (v := undef) (a' := ?_) #[tb,tb,tb,tb,tb,tb,tb,tb,tb,tb,tb,tb,tb,tb,tb,tb,tb,tb,tb,tb,tb,tb,tb,tb,tb,fb,fb,fb,fb,fb,fb,fb,fb,fb,fb,fb,fb,fb,fb,fb,fb,fb,fb,fb,fb,fb,fb,fb,fb,fb,fb,fb] rfl rfl (any_of HT_.out (by kernel_rfl)) (fun _ _ _ h => h) (Or.inr ⟨by rfl, rfl⟩) ?_ ?_
             rotate_left
             ·simp only [Act.put, sT, sZ, sS, i64_w, i32_w]
              rfl
             refine pure_ (i := 25) (N := some 65) (v := undef) (a' := ?_) #[tb,tb,tb,tb,tb,tb,tb,tb,tb,tb,tb,tb,tb,tb,tb,tb,tb,tb,tb,tb,tb,tb,tb,tb,tb,tb,fb,fb,fb,fb,fb,fb,fb,fb,fb,fb,fb,fb,fb,fb,fb,fb,fb,fb,fb,fb,fb,fb,fb,fb,fb,fb] rfl rfl (any_of HT_.out (by kernel_rfl)) (fun _ _ _ h => h) (Or.inr ⟨by rfl, rfl⟩) ?_ ?_
             rotate_left
             ·simp only [Act.put, sT, sZ, sS, i64_w, i32_w]
              rfl
             refine pure_ (i := 26) (N := some 66) (v := undef) (a' := ?_) #[tb,tb,tb,tb,tb,tb,tb,tb,tb,tb,tb,tb,tb,tb,tb,tb,tb,tb,tb,tb,tb,tb,tb,tb,tb,tb,tb,fb,fb,fb,fb,fb,fb,fb,fb,fb,fb,fb,fb,fb,fb,fb,fb,fb,fb,fb,fb,fb,fb,fb,fb,fb] rfl rfl (any_of HT_.out (by kernel_rfl)) (fun _ _ _ h => h) (Or.inr ⟨by rfl, rfl⟩) ?_ ?_
             rotate_left
             ·simp only [Act.put, sT, sZ, sS, i64_w, i32_w]
              rfl
             refine pure_ (i := 27) (N := some 67) (v := undef) (a' := ?_) #[tb,tb,tb,tb,tb,tb,tb,tb,tb,tb,tb,tb,tb,tb,tb,tb,tb,tb,tb,tb,tb,tb,tb,tb,tb,tb,tb,tb,fb,fb,fb,fb,fb,fb,fb,fb,fb,fb,fb,fb,fb,fb,fb,fb,fb,fb,fb,fb,fb,fb,fb,fb] rfl rfl (any_of HT_.out (by kernel_rfl)) (fun _ _ _ h => h) (Or.inr ⟨by rfl, rfl⟩) ?_ ?_
             rotate_left
             ·simp only [Act.put, sT, sZ, sS, i64_w, i32_w]
              rfl
             refine pure_ (i := 28) (N := some 68) (v := ?_) (a' := ?_) #[tb,tb,tb,tb,tb,tb,tb,tb,tb,tb,tb,tb,tb,tb,tb,tb,tb,tb,tb,tb,tb,tb,tb,tb,tb,tb,tb,tb,tb,fb,fb,fb,fb,fb,fb,fb,fb,fb,fb,fb,fb,fb,fb,fb,fb,fb,fb,fb,fb,fb,fb,fb] rfl rfl (any_of HT_.out (by kernel_rfl)) (fun _ _ _ h => h) (Or.inl ⟨by rfl, ?_⟩) ?_ ?_
             rotate_left
             ·intro w'
              go_simp
              with_reducible rfl
             rotate_left
             ·simp only [Act.put, sT, sZ, sS, i64_w, i32_w]
              rfl
             refine pure_ (i := 29) (N := some 69) (v := ?_) (a' := ?_) #[tb,tb,tb,tb,tb,tb,tb,tb,tb,tb,tb,tb,tb,tb,tb,tb,tb,tb,tb,tb,tb,tb,tb,tb,tb,tb,tb,tb,tb,tb,fb,fb,fb,fb,fb,fb,fb,fb,fb,fb,fb,fb,fb,fb,fb,fb,fb,fb,fb,fb,fb,fb] rfl rfl (any_of HT_.out (by kernel_rfl)) (fun _ _ _ h => h) (Or.inl ⟨by rfl, ?_⟩) ?_ ?_
             rotate_left
             ·intro w'
              go_simp
              with_reducible rfl
             rotate_left
             ·simp only [Act.put, sT, sZ, sS, i64_w, i32_w]
              rfl
             refine pure_ (i := 30) (N := some 70) (v := undef) (a' := ?_) #[tb,tb,tb,tb,tb,tb,tb,tb,tb,tb,tb,tb,tb,tb,tb,tb,tb,tb,tb,tb,tb,tb,tb,tb,tb,tb,tb,tb,tb,tb,tb,fb,fb,fb,fb,fb,fb,fb,fb,fb,fb,fb,fb,fb,fb,fb,fb,fb,fb,fb,fb,fb] rfl rfl (any_of HT_.out (by kernel_rfl)) (fun _ _ _ h => h) (Or.inr ⟨by rfl, rfl⟩) ?_ ?_
             rotate_left
             ·simp only [Act.put, sT, sZ, sS, i64_w, i32_w]
              rfl
             refine pure_ (i := 31) (N := some 71) (v := undef) (a' := ?_) #[tb,tb,tb,tb,tb,tb,tb,tb,tb,tb,tb,tb,tb,tb,tb,tb,tb,tb,tb,tb,tb,tb,tb,tb,tb,tb,tb,tb,tb,tb,tb,tb,fb,fb,fb,fb,fb,fb,fb,fb,fb,fb,fb,fb,fb,fb,fb,fb,fb,fb,fb,fb] rfl rfl (any_of HT_.out (by kernel_rfl)) (fun _ _ _ h => h) (Or.inr ⟨by rfl, rfl⟩) ?_ ?_
             rotate_left
             ·simp only [Act.put, sT, sZ, sS, i64_w, i32_w]
              rfl
             refine pure_ (i := 32) (N := some 72) (v := undef) (a' := ?_) #[tb,tb,tb,tb,tb,tb,tb,tb,tb,tb,tb,tb,tb,tb,tb,tb,tb,tb,tb,tb,tb,tb,tb,tb,tb,tb,tb,tb,tb,tb,tb,tb,tb,fb,fb,fb,fb,fb,fb,fb,fb,fb,fb,fb,fb,fb,fb,fb,fb,fb,fb,fb] rfl rfl (any_of HT_.out (by kernel_rfl)) (fun _ _ _ h => h) (Or.inr ⟨by rfl, rfl⟩) ?_ ?_
             rotate_left
             ·simp only [Act.put, sT, sZ, sS, i64_w, i32_w]
              rfl
             refine pure_ (i := 33) (N := some 73) (v := undef) (a' := ?_) #[tb,tb,tb,tb,tb,tb,tb,tb,tb,tb,tb,tb,tb,tb,tb,tb,tb,tb,tb,tb,tb,tb,tb,tb,tb,tb,tb,tb,tb,tb,tb,tb,tb,tb,fb,fb,fb,fb,fb,fb,fb,fb,fb,fb,fb,fb,fb,fb,fb,fb,fb,fb] rfl rfl (any_of HT_.out (by kernel_rfl)) (fun _ _ _ h => h) (Or.inr ⟨by rfl, rfl⟩) ?_ ?_
             rotate_left
             ·simp only [Act.put, sT, sZ, sS, i64_w, i32_w]
              rfl
             refine pure_ (i := 34) (N := some 74) (v := undef) (a' := ?_) #[tb,tb,tb,tb,tb,tb,tb,tb,tb,tb,tb,tb,tb,tb,tb,tb,tb,tb,tb,tb,tb,tb,tb,tb,tb,tb,tb,tb,tb,tb,tb,tb,tb,tb,tb,fb,fb,fb,fb,fb,fb,fb,fb,fb,fb,fb,fb,fb,fb,fb,fb,fb] rfl rfl (any_of HT_.out (by kernel_rfl)) (fun _ _ _ h => h) (Or.inr ⟨by rfl, rfl⟩) ?_ ?_
             rotate_left
             ·simp only [Act.put, sT, sZ, sS, i64_w, i32_w]
              rfl
             refine pure_ (i := 35) (N := some 75) (v := ?_) (a' := ?_) #[tb,tb,tb,tb,tb,tb,tb,tb,tb,tb,tb,tb,tb,tb,tb,tb,tb,tb,tb,tb,tb,tb,tb,tb,tb,tb,tb,tb,tb,tb,tb,tb,tb,tb,tb,tb,fb,fb,fb,fb,fb,fb,fb,fb,fb,fb,fb,fb,fb,fb,fb,fb] rfl rfl (any_of HT_.out (by kernel_rfl)) (fun _ _ _ h => h) (Or.inl ⟨by rfl, ?_⟩) ?_ ?_
             rotate_left
             ·intro w'
              go_simp
              with_reducible rfl
             rotate_left
             ·simp only [Act.put, sT, sZ, sS, i64_w, i32_w]
              rfl
             refine pure_ (i := 36) (N := some 76) (v := ?_) (a' := ?_) #[tb,tb,tb,tb,tb,tb,tb,tb,tb,tb,tb,tb,tb,tb,tb,tb,tb,tb,tb,tb,tb,tb,tb,tb,tb,tb,tb,tb,tb,tb,tb,tb,tb,tb,tb,tb,tb,fb,fb,fb,fb,fb,fb,fb,fb,fb,fb,fb,fb,fb,fb,fb] rfl rfl (any_of HT_.out (by kernel_rfl)) (fun _ _ _ h => h) (Or.inl ⟨by rfl, ?_⟩) ?_ ?_
             rotate_left
             ·intro w'
              go_simp
              with_reducible rfl
             rotate_left
             ·simp only [Act.put, sT, sZ, sS, i64_w, i32_w]
              rfl
             refine pure_ (i := 37) (N := some 77) (v := undef) (a' := ?_) #[tb,tb,tb,tb,tb,tb,tb,tb,tb,tb,tb,tb,tb,tb,tb,tb,tb,tb,tb,tb,tb,tb,tb,tb,tb,tb,tb,tb,tb,tb,tb,tb,tb,tb,tb,tb,tb,tb,fb,fb,fb,fb,fb,fb,fb,fb,fb,fb,fb,fb,fb,fb] rfl rfl (any_of HT_.out (by kernel_rfl)) (fun _ _ _ h => h) (Or.inr ⟨by rfl, rfl⟩) ?_ ?_
             rotate_left
             ·simp only [Act.put, sT, sZ, sS, i64_w, i32_w]
              rfl
             refine pure_ (i := 38) (N := some 78) (v := undef) (a' := ?_) #[tb,tb,tb,tb,tb,tb,tb,tb,tb,tb,tb,tb,tb,tb,tb,tb,tb,tb,tb,tb,tb,tb,tb,tb,tb,tb,tb,tb,tb,tb,tb,tb,tb,tb,tb,tb,tb,tb,tb,fb,fb,fb,fb,fb,fb,fb,fb,fb,fb,fb,fb,fb] rfl rfl (any_of HT_.out (by kernel_rfl)) (fun _ _ _ h => h) (Or.inr ⟨by rfl, rfl⟩) ?_ ?_
             rotate_left
             ·simp only [Act.put, sT, sZ, sS, i64_w, i32_w]
              rfl
             refine pure_ (i := 39) (N := some 79) (v := undef) (a' := ?_) #[tb,tb,tb,tb,tb,tb,tb,tb,tb,tb,tb,tb,tb,tb,tb,tb,tb,tb,tb,tb,tb,tb,tb,tb,tb,tb,tb,tb,tb,tb,tb,tb,tb,tb,tb,tb,tb,tb,tb,tb,fb,fb,fb,fb,fb,fb,fb,fb,fb,fb,fb,fb] rfl rfl (any_of HT_.out (by kernel_rfl)) (fun _ _ _ h => h) (Or.inr ⟨by rfl, rfl⟩) ?_ ?_
             rotate_left
             ·simp only [Act.put, sT, sZ, sS, i64_w, i32_w]
              rfl
             refine pure_ (i := 40) (N := some 80) (v := undef) (a' := ?_) #[tb,tb,tb,tb,tb,tb,tb,tb,tb,tb,tb,tb,tb,tb,tb,tb,tb,tb,tb,tb,tb,tb,tb,tb,tb,tb,tb,tb,tb,tb,tb,tb,tb,tb,tb,tb,tb,tb,tb,tb,tb,fb,fb,fb,fb,fb,fb,fb,fb,fb,fb,fb] rfl rfl (any_of HT_.out (by kernel_rfl)) (fun _ _ _ h => h) (Or.inr ⟨by rfl, rfl⟩) ?_ ?_
             rotate_left
             ·simp only [Act.put, sT, sZ, sS, i64_w, i32_w]
              rfl
             refine pure_ (i := 41) (N := some 81) (v := undef) (a' := ?_) #[tb,tb,tb,tb,tb,tb,tb,tb,tb,tb,tb,tb,tb,tb,tb,tb,tb,tb,tb,tb,tb,tb,tb,tb,tb,tb,tb,tb,tb,tb,tb,tb,tb,tb,tb,tb,tb,tb,tb,tb,tb,tb,fb,fb,fb,fb,fb,fb,fb,fb,fb,fb] rfl rfl (any_of HT_.out (by kernel_rfl)) (fun _ _ _ h => h) (Or.inr ⟨by rfl, rfl⟩) ?_ ?_
             rotate_left
             ·simp only [Act.put, sT, sZ, sS, i64_w, i32_w]
              rfl
             refine pure_ (i := 42) (N := some 82) (v := undef) (a' := ?_) #[tb,tb,tb,tb,tb,tb,tb,tb,tb,tb,tb,tb,tb,tb,tb,tb,tb,tb,tb,tb,tb,tb,tb,tb,tb,tb,tb,tb,tb,tb,tb,tb,tb,tb,tb,tb,tb,tb,tb,tb,tb,tb,tb,fb,fb,fb,fb,fb,fb,fb,fb,fb] rfl rfl (any_of HT_.out (by kernel_rfl)) (fun _ _ _ h => h) (Or.inr ⟨by rfl, rfl⟩) ?_ ?_
             rotate_left
             ·simp only [Act.put, sT, sZ, sS, i64_w, i32_w]
              rfl
             refine pure_ (i := 43) (N := some 83) (v := undef) (a' := ?_) #[tb,tb,tb,tb,tb,tb,tb,tb,tb,tb,tb,tb,tb,tb,tb,tb,tb,tb,tb,tb,tb,tb,tb,tb,tb,tb,tb,tb,tb,tb,tb,tb,tb,tb,tb,tb,tb,tb,tb,tb,tb,tb,tb,tb,fb,fb,fb,fb,fb,fb,fb,fb] rfl rfl (any_of HT_.out (by kernel_rfl)) (fun _ _ _ h => h) (Or.inr ⟨by rfl, rfl⟩) ?_ ?_
             rotate_left
             ·simp only [Act.put, sT, sZ, sS, i64_w, i32_w]
              rfl
             refine pure_ (i := 44) (N := some 84) (v := undef) (a' := ?_) #[tb,tb,tb,tb,tb,tb,tb,tb,tb,tb,tb,tb,tb,tb,tb,tb,tb,tb,tb,tb,tb,tb,tb,tb,tb,tb,tb,tb,tb,tb,tb,tb,tb,tb,tb,tb,tb,tb,tb,tb,tb,tb,tb,tb,tb,fb,fb,fb,fb,fb,fb,fb] rfl rfl (any_of HT_.out (by kernel_rfl)) (fun _ _ _ h => h) (Or.inr ⟨by rfl, rfl⟩) ?_ ?_
             rotate_left
             ·simp only [Act.put, sT, sZ, sS, i64_w, i32_w]
              rfl
             refine pure_ (i := 45) (N := some 85) (v := undef) (a' := ?_) #[tb,tb,tb,tb,tb,tb,tb,tb,tb,tb,tb,tb,tb,tb,tb,tb,tb,tb,tb,tb,tb,tb,tb,tb,tb,tb,tb,tb,tb,tb,tb,tb,tb,tb,tb,tb,tb,tb,tb,tb,tb,tb,tb,tb,tb,tb,fb,fb,fb,fb,fb,fb] rfl rfl (any_of HT_.out (by kernel_rfl)) (fun _ _ _ h => h) (Or.inr ⟨by rfl, rfl⟩) ?_ ?_
             rotate_left
             ·simp only [Act.put, sT, sZ, sS, i64_w, i32_w]
              rfl
             refine pure_ (i := 46) (N := some 86) (v := undef) (a' := ?_) #[tb,tb,tb,tb,tb,tb,tb,tb,tb,tb,tb,tb,tb,tb,tb,tb,tb,tb,tb,tb,tb,tb,tb,tb,tb,tb,tb,tb,tb,tb,tb,tb,tb,tb,tb,tb,tb,tb,tb,tb,tb,tb,tb,tb,tb,tb,tb,fb,fb,fb,fb,fb] rfl rfl (any_of HT_.out (by kernel_rfl)) (fun _ _ _ h => h) (Or.inr ⟨by rfl, rfl⟩) ?_ ?_
             rotate_left
             ·simp only [Act.put, sT, sZ, sS, i64_w, i32_w]
              rfl
             refine pure_ (i := 47) (N := some 87) (v := undef) (a' := ?_) #[tb,tb,tb,tb,tb,tb,tb,tb,tb,tb,tb,tb,tb,tb,tb,tb,tb,tb,tb,tb,tb,tb,tb,tb,tb,tb,tb,tb,tb,tb,tb,tb,tb,tb,tb,tb,tb,tb,tb,tb,tb,tb,tb,tb,tb,tb,tb,tb,fb,fb,fb,fb] rfl rfl (any_of HT_.out (by kernel_rfl)) (fun _ _ _ h => h) (Or.inr ⟨by rfl, rfl⟩) ?_ ?_
             rotate_left
             ·simp only [Act.put, sT, sZ, sS, i64_w, i32_w]
              rfl
             refine pure_ (i := 48) (N := some 88) (v := undef) (a' := ?_) #[tb,tb,tb,tb,tb,tb,tb,tb,tb,tb,tb,tb,tb,tb,tb,tb,tb,tb,tb,tb,tb,tb,tb,tb,tb,tb,tb,tb,tb,tb,tb,tb,tb,tb,tb,tb,tb,tb,tb,tb,tb,tb,tb,tb,tb,tb,tb,tb,tb,fb,fb,fb] rfl rfl (any_of HT_.out (by kernel_rfl)) (fun _ _ _ h => h) (Or.inr ⟨by rfl, rfl⟩) ?_ ?_
             rotate_left
             ·simp only [Act.put, sT, sZ, sS, i64_w, i32_w]
              rfl
             refine pure_ (i := 49) (N := some 89) (v := undef) (a' := ?_) #[tb,tb,tb,tb,tb,tb,tb,tb,tb,tb,tb,tb,tb,tb,tb,tb,tb,tb,tb,tb,tb,tb,tb,tb,tb,tb,tb,tb,tb,tb,tb,tb,tb,tb,tb,tb,tb,tb,tb,tb,tb,tb,tb,tb,tb,tb,tb,tb,tb,tb,fb,fb] rfl rfl (any_of HT_.out (by kernel_rfl)) (fun _ _ _ h => h) (Or.inr ⟨by rfl, rfl⟩) ?_ ?_
             rotate_left
             ·simp only [Act.put, sT, sZ, sS, i64_w, i32_w]
              rfl
             refine pure_ (i := 50) (N := some 90) (v := ?_) (a' := ?_) #[tb,tb,tb,tb,tb,tb,tb,tb,tb,tb,tb,tb,tb,tb,tb,tb,tb,tb,tb,tb,tb,tb,tb,tb,tb,tb,tb,tb,tb,tb,tb,tb,tb,tb,tb,tb,tb,tb,tb,tb,tb,tb,tb,tb,tb,tb,tb,tb,tb,tb,tb,fb] rfl rfl (any_of HT_.out (by kernel_rfl)) (fun _ _ _ h => h) (Or.inl ⟨by rfl, ?_⟩) ?_ ?_
             rotate_left
             ·intro w'
              go_simp
              with_reducible rfl
             rotate_left
             ·simp only [Act.put, sT, sZ, sS, i64_w, i32_w]
              rfl
             refine pure_ (i := 51) (N := some 3) (v := ?_) (a' := ?_) #[tb,tb,tb,tb,tb,tb,tb,tb,tb,tb,tb,tb,tb,tb,tb,tb,tb,tb,tb,tb,tb,tb,tb,tb,tb,tb,tb,tb,tb,tb,tb,tb,tb,tb,tb,tb,tb,tb,tb,tb,tb,tb,tb,tb,tb,tb,tb,tb,tb,tb,tb,tb] rfl rfl (any_of HT_.out (by kernel_rfl)) (fun _ _ _ h => h) (Or.inl ⟨by rfl, ?_⟩) ?_ ?_
             rotate_left
             ·intro w'
              go_simp
              with_reducible rfl
             rotate_left
             ·simp only [Act.put, sT, sZ, sS, i64_w, i32_w]
              rfl
             refine done_ (done_of HT_.out (by kernel_rfl)) ?_
             try go_wp2
             go_roundg kj7
             case measure => have := HJ2.out; have := HK2.out; have := HJ7.out; omega
             case rel => exact ⟨(false), (wrap64 (x4_2 + 1)), (by first | rfl | (simp; done) | (simp [*]; done)), (by first | rfl | (simp; done) | (simp [*]; done)), H', ⟨by have := HJ2.out; have := HK2.out; have := HJ7.out; omega⟩, ⟨by repeat (first | (with_reducible first | exact HB.out | apply below_alloc | apply pw_below_drewN | apply below_drew1) | exact HB.out)⟩⟩
           ·rw [if_neg c15] at H
            have c15b0 : (t178 == t180) = false := beq_eq_false_iff_ne.mpr c15
            have c15b1 : (t178 != t180) = true := bne_iff_ne.mpr c15
            have H' := Aside0.mk H
            clear H
            have p177 : 0 ≤ (x4_2 : Int) := of_decide_eq_true (by first | (with_reducible assumption) | assumption)
            have q177 : x4_2 < (l0.length : Int) := of_decide_eq_true (by first | (with_reducible assumption) | assumption)
            obtain ⟨ad177, e177, hx177_0, hx177_1⟩ := at_T26 HR0.out x4_2 p177 q177
            cases e177
            replace hx177_0 := (HB.out.cell (World.block_lt_of_cell? w _ hx177_0)).trans hx177_0
            replace hx177_1 := (HB.out.cell (World.block_lt_of_cell? w _ hx177_1)).trans hx177_1
            replace p177 := eq_true p177
            replace q177 := eq_true q177
            try go_wp2_with (first | ((with_reducible refine gate_callee (f := 11) rfl ?_); refine goesL_ (some 32) rfl rfl Try.func11 (by kernel_rfl) rfl #[.string ((rd_T26 l0 x4_2).f0)] rfl (by (try simp only [List.map_toArray, List.map_cons, List.map_nil]); first | done | rfl | (simp only [List.length_drop, List.length_take]; rfl)) ?_; (with_reducible refine (utf_Next.calls ((rd_T26 l0 x4_2).f0) t178 t179 _ A13.out).mono ?_); rintro e w79 ⟨rfl, hb⟩; refine ⟨_, rfl, ?_⟩; have n0_ := Aside0.mk (below_step (by repeat (first | (with_reducible first | exact HB.out | apply below_alloc | apply pw_below_drewN | apply below_drew1) | exact HB.out)) hb); clear HB; have HB := n0_; clear n0_; (try clear hb); (try clear hb2); (try clear hk); (try clear hi)) | ((with_reducible refine gate_callee (f := 12) rfl ?_); refine goesL_ (some 37) rfl rfl Try.func12 (by kernel_rfl) rfl #[.string ((rd_T26 l0 x4_2).f0)] rfl (by (try simp only [List.map_toArray, List.map_cons, List.map_nil]); first | done | rfl | (simp only [List.length_drop, List.length_take]; rfl)) ?_; (with_reducible refine (stratumref03_Next.calls kj7 ((rd_T26 l0 x4_2).f0) t180 t181 _ A14.out).mono ?_); rintro e w80 ⟨rfl, hb⟩; refine ⟨_, rfl, ?_⟩; have n0_ := Aside0.mk (below_step (by repeat (first | (with_reducible first | exact HB.out | apply below_alloc | apply pw_below_drewN | apply below_drew1) | exact HB.out)) hb); clear HB; have HB := n0_; clear n0_; (try clear hb); (try clear hb2); (try clear hk); (try clear hi)))
            have n0_ := Aside0.mk (below_drew1 HB.out)
            clear HB
            have HB := n0_
            clear n0_
            refine start_ (n := 52) (S := fun w' => True) (ds := []) #[fb,fb,fb,fb,fb,fb,fb,fb,fb,fb,fb,fb,fb,fb,fb,fb,fb,fb,fb,fb,fb,fb,fb,fb,fb,fb,fb,fb,fb,fb,fb,fb,fb,fb,fb,fb,fb,fb,fb,fb,fb,fb,fb,fb,fb,fb,fb,fb,fb,fb,fb,fb] (by kernel_rfl) rfl rfl trivial (fun hHeld => ?_); refine with_tabW stratumlaw03_UtfAll.tab10 stratumlaw03_UtfAll.bits10 (fun HT_ HW_ => ?_)
            generalize w80.drew = w81 at HB hHeld ⊢
            refine pure_ (i := 0) (N := some 40) (v := ?_) (a' := ?_) #[tb,fb,fb,fb,fb,fb,fb,fb,fb,fb,fb,fb,fb,fb,fb,fb,fb,fb,fb,fb,fb,fb,fb,fb,fb,fb,fb,fb,fb,fb,fb,fb,fb,fb,fb,fb,fb,fb,fb,fb,fb,fb,fb,fb,fb,fb,fb,fb,fb,fb,fb,fb] rfl rfl (any_of HT_.out (by kernel_rfl)) (fun _ _ _ h => h) (Or.inl ⟨by rfl, ?_⟩) ?_ ?_
            rotate_left
            ·intro w'
             go_simp
             with_reducible rfl
            rotate_left
            ·simp only [Act.put, sT, sZ, sS, i64_w, i32_w]
             rfl
            refine pure_ (i := 1) (N := some 41) (v := ?_) (a' := ?_) #[tb,tb,fb,fb,fb,fb,fb,fb,fb,fb,fb,fb,fb,fb,fb,fb,fb,fb,fb,fb,fb,fb,fb,fb,fb,fb,fb,fb,fb,fb,fb,fb,fb,fb,fb,fb,fb,fb,fb,fb,fb,fb,fb,fb,fb,fb,fb,fb,fb,fb,fb,fb] rfl rfl (any_of HT_.out (by kernel_rfl)) (fun _ _ _ h => h) (Or.inl ⟨by rfl, ?_⟩) ?_ ?_
            rotate_left
            ·intro w'
             go_simp
             with_reducible rfl
            rotate_left
            ·simp only [Act.put, sT, sZ, sS, i64_w, i32_w]
             rfl
            refine pure_ (i := 2) (N := some 42) (v := ?_) (a' := ?_) #[tb,tb,tb,fb,fb,fb,fb,fb,fb,fb,fb,fb,fb,fb,fb,fb,fb,fb,fb,fb,fb,fb,fb,fb,fb,fb,fb,fb,fb,fb,fb,fb,fb,fb,fb,fb,fb,fb,fb,fb,fb,fb,fb,fb,fb,fb,fb,fb,fb,fb,fb,fb] rfl rfl (any_of HT_.out (by kernel_rfl)) (fun _ _ _ h => h) (Or.inl ⟨by rfl, ?_⟩) ?_ ?_
            rotate_left
            ·intro w'
             go_simp
             with_reducible rfl
            rotate_left
            ·simp only [Act.put, sT, sZ, sS, i64_w, i32_w]
             rfl
            refine pure_ (i := 3) (N := some 43) (v := ?_) (a' := ?_) #[tb,tb,tb,tb,fb,fb,fb,fb,fb,fb,fb,fb,fb,fb,fb,fb,fb,fb,fb,fb,fb,fb,fb,fb,fb,fb,fb,fb,fb,fb,fb,fb,fb,fb,fb,fb,fb,fb,fb,fb,fb,fb,fb,fb,fb,fb,fb,fb,fb,fb,fb,fb] rfl rfl (any_of HT_.out (by kernel_rfl)) (fun _ _ _ h => h) (Or.inl ⟨by rfl, ?_⟩) ?_ ?_
            rotate_left
            ·intro w'
             go_simp
             with_reducible rfl
            rotate_left
            ·simp only [Act.put, sT, sZ, sS, i64_w, i32_w]
             rfl
            refine pure_ (i := 4) (N := some 44) (v := undef) (a' := ?_) #[tb,tb,tb,tb,tb,fb,fb,fb,fb,fb,fb,fb,fb,fb,fb,fb,fb,fb,fb,fb,fb,fb,fb,fb,fb,fb,fb,fb,fb,fb,fb,fb,fb,fb,fb,fb,fb,fb,fb,fb,fb,fb,fb,fb,fb,fb,fb,fb,fb,fb,fb,fb] rfl rfl (any_of HT_.out (by kernel_rfl)) (fun _ _ _ h => h) (Or.inr ⟨by rfl, rfl⟩) ?_ ?_
            rotate_left
            ·simp only [Act.put, sT, sZ, sS, i64_w, i32_w]
             rfl
            refine pure_ (i := 5) (N := some 45) (v := undef) (a' := ?_) #[tb,tb,tb,tb,tb,tb,fb,fb,fb,fb,fb,fb,fb,fb,fb,fb,fb,fb,fb,fb,fb,fb,fb,fb,fb,fb,fb,fb,fb,fb,fb,fb,fb,fb,fb,fb,fb,fb,fb,fb,fb,fb,fb,fb,fb,fb,fb,fb,fb,fb,fb,fb] rfl rfl (any_of HT_.out (by kernel_rfl)) (fun _ _ _ h => h) (Or.inr ⟨by rfl, rfl⟩) ?_ ?_
            rotate_left
            ·simp only [Act.put, sT, sZ, sS, i64_w, i32_w]
             rfl
            refine pure_ (i := 6) (N := some 46) (v := undef) (a' := ?_) #[tb,tb,tb,tb,tb,tb,tb,fb,fb,fb,fb,fb,fb,fb,fb,fb,fb,fb,fb,fb,fb,fb,fb,fb,fb,fb,fb,fb,fb,fb,fb,fb,fb,fb,fb,fb,fb,fb,fb,fb,fb,fb,fb,fb,fb,fb,fb,fb,fb,fb,fb,fb] rfl rfl (any_of HT_.out (by kernel_rfl)) (fun _ _ _ h => h) (Or.inr ⟨by rfl, rfl⟩) ?_ ?_
            rotate_left
            ·simp only [Act.put, sT, sZ, sS, i64_w, i32_w]
             rfl
            refine pure_ (i := 7) (N := some 47) (v := ?_) (a' := ?_) #[tb,tb,tb,tb,tb,tb,tb,tb,fb,fb,fb,fb,fb,fb,fb,fb,fb,fb,fb,fb,fb,fb,fb,fb,fb,fb,fb,fb,fb,fb,fb,fb,fb,fb,fb,fb,fb,fb,fb,fb,fb,fb,fb,fb,fb,fb,fb,fb,fb,fb,fb,fb] rfl rfl (any_of HT_.out (by kernel_rfl)) (fun _ _ _ h => h) (Or.inl ⟨by rfl, ?_⟩) ?_ ?_
            rotate_left
            ·intro w'
             go_simp
             with_reducible rfl
            rotate_left
            ·simp only [Act.put, sT, sZ, sS, i64_w, i32_w]
             rfl
            refine pure_ (i := 8) (N := some 48) (v := ?_) (a' := ?_) #[tb,tb,tb,tb,tb,tb,tb,tb,tb,fb,fb,fb,fb,fb,fb,fb,fb,fb,fb,fb,fb,fb,fb,fb,fb,fb,fb,fb,fb,fb,fb,fb,fb,fb,fb,fb,fb,fb,fb,fb,fb,fb,fb,fb,fb,fb,fb,fb,fb,fb,fb,fb] rfl rfl (any_of HT_.out (by kernel_rfl)) (fun _ _ _ h => h) (Or.inl ⟨by rfl, ?_⟩) ?_ ?_
            rotate_left
            ·intro w'
             go_simp
             with_reducible rfl
            rotate_left
            ·simp only [Act.put, sT, sZ, sS, i64_w, i32_w]
             rfl
            refine pure_ (i := 9) (N := some 49) (v := undef) (a' := ?_) #[tb,tb,tb,tb,tb,tb,tb,tb,tb,tb,fb,fb,fb,fb,fb,fb,fb,fb,fb,fb,fb,fb,fb,fb,fb,fb,fb,fb,fb,fb,fb,fb,fb,fb,fb,fb,fb,fb,fb,fb,fb,fb,fb,fb,fb,fb,fb,fb,fb,fb,fb,fb] rfl rfl (any_of HT_.out (by kernel_rfl)) (fun _ _ _ h => h) (Or.inr ⟨by rfl, rfl⟩) ?_ ?_
            rotate_left
            ·simp only [Act.put, sT, sZ, sS, i64_w, i32_w]
             rfl
            refine pure_ (i := 10) (N := some 50) (v := undef) (a' := ?_) #[tb,tb,tb,tb,tb,tb,tb,tb,tb,tb,tb,fb,fb,fb,fb,fb,fb,fb,fb,fb,fb,fb,fb,fb,fb,fb,fb,fb,fb,fb,fb,fb,fb,fb,fb,fb,fb,fb,fb,fb,fb,fb,fb,fb,fb,fb,fb,fb,fb,fb,fb,fb] rfl rfl (any_of HT_.out (by kernel_rfl)) (fun _ _ _ h => h) (Or.inr ⟨by rfl, rfl⟩) ?_ ?_
            rotate_left
            ·simp only [Act.put, sT, sZ, sS, i64_w, i32_w]
             rfl
            refine pure_ (i := 11) (N := some 51) (v := undef) (a' := ?_) #[tb,tb,tb,tb,tb,tb,tb,tb,tb,tb,tb,tb,fb,fb,fb,fb,fb,fb,fb,fb,fb,fb,fb,fb,fb,fb,fb,fb,fb,fb,fb,fb,fb,fb,fb,fb,fb,fb,fb,fb,fb,fb,fb,fb,fb,fb,fb,fb,fb,fb,fb,fb] rfl rfl (any_of HT_.out (by kernel_rfl)) (fun _ _ _ h => h) (Or.inr ⟨by rfl, rfl⟩) ?_ ?_
            rotate_left
            ·simp only [Act.put, sT, sZ, sS, i64_w, i32_w]
             rfl
            refine pure_ (i := 12) (N := some 52) (v := undef) (a' := ?_) #[tb,tb,tb,tb,tb,tb,tb,tb,tb,tb,tb,tb,tb,fb,fb,fb,fb,fb,fb,fb,fb,fb,fb,fb,fb,fb,fb,fb,fb,fb,fb,fb,fb,fb,fb,fb,fb,fb,fb,fb,fb,fb,fb,fb,fb,fb,fb,fb,fb,fb,fb,fb] rfl rfl (any_of HT_.out (by kernel_rfl)) (fun _ _ _ h => h) (Or.inr ⟨by rfl, rfl⟩) ?_ ?_
            rotate_left
            ·simp only [Act.put, sT, sZ, sS, i64_w, i32_w]
             rfl
            refine pure_ (i := 13) (N := some 53) (v := undef) (a' := ?_) #[tb,tb,tb,tb,tb,tb,tb,tb,tb,tb,tb,tb,tb,tb,fb,fb,fb,fb,fb,fb,fb,fb,fb,fb,fb,fb,fb,fb,fb,fb,fb,fb,fb,fb,fb,fb,fb,fb,fb,fb,fb,fb,fb,fb,fb,fb,fb,fb,fb,fb,fb,fb] rfl rfl (any_of HT_.out (by kernel_rfl)) (fun _ _ _ h => h) (Or.inr ⟨by rfl, rfl⟩) ?_ ?_
            rotate_left
            ·simp only [Act.put, sT, sZ, sS, i64_w, i32_w]
             rfl
            refine pure_ (i := 14) (N := some 54) (v := ?_) (a' := ?_) #[tb,tb,tb,tb,tb,tb,tb,tb,tb,tb,tb,tb,tb,tb,tb,fb,fb,fb,fb,fb,fb,fb,fb,fb,fb,fb,fb,fb,fb,fb,fb,fb,fb,fb,fb,fb,fb,fb,fb,fb,fb,fb,fb,fb,fb,fb,fb,fb,fb,fb,fb,fb] rfl rfl (any_of HT_.out (by kernel_rfl)) (fun _ _ _ h => h) (Or.inl ⟨by rfl, ?_⟩) ?_ ?_
            rotate_left
            ·intro w'
             go_simp
             with_reducible rfl
            rotate_left
            ·simp only [Act.put, sT, sZ, sS, i64_w, i32_w]
             rfl
            refine pure_ (i := 15) (N := some 55) (v := ?_) (a' := ?_) #[tb,tb,tb,tb,tb,tb,tb,tb,tb,tb,tb,tb,tb,tb,tb,tb,fb,fb,fb,fb,fb,fb,fb,fb,fb,fb,fb,fb,fb,fb,fb,fb,fb,fb,fb,fb,fb,fb,fb,fb,fb,fb,fb,fb,fb,fb,fb,fb,fb,fb,fb,fb] rfl rfl (any_of HT_.out (by kernel_rfl)) (fun _ _ _ h => h) (Or.inl ⟨by rfl, ?_⟩) ?_ ?_
            rotate_left
            ·intro w'
             go_simp
             with_reducible rfl
            rotate_left
            ·simp only [Act.put, sT, sZ, sS, i64_w, i32_w]
             rfl
            refine pure_ (i := 16) (N := some 56) (v := undef) (a' := ?_) #[tb,tb,tb,tb,tb,tb,tb,tb,tb,tb,tb,tb,tb,tb,tb,tb,tb,fb,fb,fb,fb,fb,fb,fb,fb,fb,fb,fb,fb,fb,fb,fb,fb,fb,fb,fb,fb,fb,fb,fb,fb,fb,fb,fb,fb,fb,fb,fb,fb,fb,fb,fb] rfl rfl (any_of HT_.out (by kernel_rfl)) (fun _ _ _ h => h) (Or.inr ⟨by rfl, rfl⟩) ?_ ?_
            rotate_left
            ·simp only [Act.put, sT, sZ, sS, i64_w, i32_w]
             rfl
            refine pure_ (i := 17) (N := some 57) (v := undef) (a' := ?_) #[tb,tb,tb,tb,tb,tb,tb,tb,tb,tb,tb,tb,tb,tb,tb,tb,tb,tb,fb,fb,fb,fb,fb,fb,fb,fb,fb,fb,fb,fb,fb,fb,fb,fb,fb,fb,fb,fb,fb,fb,fb,fb,fb,fb,fb,fb,fb,fb,fb,fb,fb,fb] rfl rfl (any_of HT_.out (by kernel_rfl)) (fun _ _ _ h => h) (Or.inr ⟨by rfl, rfl⟩) ?_ ?_
            rotate_left
            ·simp only [Act.put, sT, sZ, sS, i64_w, i32_w]
             rfl
            refine pure_ (i := 18) (N := some 58) (v := undef) (a' := ?_) #[tb,tb,tb,tb,tb,tb,tb,tb,tb,tb,tb,tb,tb,tb,tb,tb,tb,tb,tb,fb,fb,fb,fb,fb,fb,fb,fb,fb,fb,fb,fb,fb,fb,fb,fb,fb,fb,fb,fb,fb,fb,fb,fb,fb,fb,fb,fb,fb,fb,fb,fb,fb] rfl rfl (any_of HT_.out (by kernel_rfl)) (fun _ _ _ h => h) (Or.inr ⟨by rfl, rfl⟩) ?_ ?_
            rotate_left
            ·simp only [Act.put, sT, sZ, sS, i64_w, i32_w]
             rfl
            refine pure_ (i := 19) (N := some 59) (v := undef) (a' := ?_) #[tb,tb,tb,tb,tb,tb,tb,tb,tb,tb,tb,tb,tb,tb,tb,tb,tb,tb,tb,tb,fb,fb,fb,fb,fb,fb,fb,fb,fb,fb,fb,fb,fb,fb,fb,fb,fb,fb,fb,fb,fb,fb,fb,fb,fb,fb,fb,fb,fb,fb,fb,fb] rfl rfl (any_of HT_.out (by kernel_rfl)) (fun _ _ _ h => h) (Or.inr ⟨by rfl, rfl⟩) ?_ ?_
            rotate_left
            ·simp only [Act.put, sT, sZ, sS, i64_w, i32_w]
             rfl
            refine pure_ (i := 20) (N := some 60) (v := undef) (a' := ?_) #[tb,tb,tb,tb,tb,tb,tb,tb,tb,tb,tb,tb,tb,tb,tb,tb,tb,tb,tb,tb,tb,fb,fb,fb,fb,fb,fb,fb,fb,fb,fb,fb,fb,fb,fb,fb,fb,fb,fb,fb,fb,fb,fb,fb,fb,fb,fb,fb,fb,fb,fb,fb] rfl rfl (any_of HT_.out (by kernel_rfl)) (fun _ _ _ h => h) (Or.inr ⟨by rfl, rfl⟩) ?_ ?_
            rotate_left
            ·simp only [Act.put, sT, sZ, sS, i64_w, i32_w]
             rfl
            refine pure_ (i := 21) (N := some 61) (v := ?_) (a' := ?_) #[tb,tb,tb,tb,tb,tb,tb,tb,tb,tb,tb,tb,tb,tb,tb,tb,tb,tb,tb,tb,tb,tb,fb,fb,fb,fb,fb,fb,fb,fb,fb,fb,fb,fb,fb,fb,fb,fb,fb,fb,fb,fb,fb,fb,fb,fb,fb,fb,fb,fb,fb,fb] rfl rfl (any_of HT_.out (by kernel_rfl)) (fun _ _ _ h => h) (Or.inl ⟨by rfl, ?_⟩) ?_ ?_
            rotate_left
            ·intro w'
             go_simp
             with_reducible rfl
            rotate_left
            ·simp only [Act.put, sT, sZ, sS, i64_w, i32_w]
             rfl
            refine pure_ (i := 22) (N := some 62) (v := ?_) (a' := ?_) #[tb,tb,tb,tb,tb,tb,tb,tb,tb,tb,tb,tb,tb,tb,tb,tb,tb,tb,tb,tb,tb,tb,tb,fb,fb,fb,fb,fb,fb,fb,fb,fb,fb,fb,fb,fb,fb,fb,fb,fb,fb,fb,fb,fb,fb,fb,fb,fb,fb,fb,fb,fb] rfl rfl (any_of HT_.out (by kernel_rfl)) (fun _ _ _ h => h) (Or.inl ⟨by rfl, ?_⟩) ?_ ?_
            rotate_left
            ·intro w'
             go_simp
             with_reducible rfl
            rotate_left
            ·simp only [Act.put, sT, sZ, sS, i64_w, i32_w]
             rfl
            refine pure_ (i := 23) (N := some 63) (v := undef) (a' := ?_) #[tb,tb,tb,tb,tb,tb,tb,tb,tb,tb,tb,tb,tb,tb,tb,tb,tb,tb,tb,tb,tb,tb,tb,tb,fb,fb,fb,fb,fb,fb,fb,fb,fb,fb,fb,fb,fb,fb,fb,fb,fb,fb,fb,fb,fb,fb,fb,fb,fb,fb,fb,fb] rfl rfl (any_of HT_.out (by kernel_rfl)) (fun _ _ _ h => h) (Or.inr ⟨by rfl, rfl⟩) ?_ ?_
            rotate_left
            ·simp only [Act.put, sT, sZ, sS, i64_w, i32_w]
             rfl
            refine pure_ (i := 24) (N := some 64) (v := undef) (a' := ?_) #[tb,tb,tb,tb,tb,tb,tb,tb,tb,tb,tb,tb,tb,tb,tb,tb,tb,tb,tb,tb,tb,tb,tb,tb,tb,fb,fb,fb,fb,fb,fb,fb,fb,fb,fb,fb,fb,fb,fb,fb,fb,fb,fb,fb,fb,fb,fb,fb,fb,fb,fb,fb] rfl rfl (any_of HT_.out (by kernel_rfl)) (fun _ _ _ h => h) (Or.inr ⟨by rfl, rfl⟩) ?_ ?_
            rotate_left
            ·simp only [Act.put, sT, sZ, sS, i64_w, i32_w]
             rfl
            refine pure_ (i := 25) (N := some 65) (v := undef) (a' := ?_) #[tb,tb,tb,tb,tb,tb,tb,tb,tb,tb,tb,tb,tb,tb,tb,tb,tb,tb,tb,tb,tb,tb,tb,tb,tb,tb,fb,fb,fb,fb,fb,fb,fb,fb,fb,fb,fb,fb,fb,fb,fb,fb,fb,fb,fb,fb,fb,fb,fb,fb,fb,fb] rfl rfl (any_of HT_.out (by kernel_rfl)) (fun _ _ _ h => h) (Or.inr ⟨by rfl, rfl⟩) ?_ ?_
            rotate_left
            ·simp only [Act.put, sT, sZ, sS, i64_w, i32_w]
             rfl
            refine pure_ (i := 26) (N := some 66) (v := undef) (a' := ?_) #[tb,tb,tb,tb,tb,tb,tb,tb,tb,tb,tb,tb,tb,tb,tb,tb,tb,tb,tb,tb,tb,tb,tb,tb,tb,tb,tb,fb,fb,fb,fb,fb,fb,fb,fb,fb,fb,fb,fb,fb,fb,fb,fb,fb,fb,fb,fb,fb,fb,fb,fb,fb] rfl rfl (any_of HT_.out (by kernel_rfl)) (fun _ _ _ h => h) (Or.inr ⟨by rfl, rfl⟩) ?_ ?_
            rotate_left
            ·simp only [Act.put, sT, sZ, sS, i64_w, i32_w]
             rfl
            refine pure_ (i := 27) (N := some 67) (v := undef) (a' := ?_) #[tb,tb,tb,tb,tb,tb,tb,tb,tb,tb,tb,tb,tb,tb,tb,tb,tb,tb,tb,tb,tb,tb,tb,tb,tb,tb,tb,tb,fb,fb,fb,fb,fb,fb,fb,fb,fb,fb,fb,fb,fb,fb,fb,fb,fb,fb,fb,fb,fb,fb,fb,fb] rfl rfl (any_of HT_.out (by kernel_rfl)) (fun _ _ _ h => h) (Or.inr ⟨by rfl, rfl⟩) ?_ ?_
            rotate_left
            ·simp only [Act.put, sT, sZ, sS, i64_w, i32_w]
             rfl
            refine pure_ (i := 28) (N := some 68) (v := ?_) (a' := ?_) #[tb,tb,tb,tb,tb,tb,tb,tb,tb,tb,tb,tb,tb,tb,tb,tb,tb,tb,tb,tb,tb,tb,tb,tb,tb,tb,tb,tb,tb,fb,fb,fb,fb,fb,fb,fb,fb,fb,fb,fb,fb,fb,fb,fb,fb,fb,fb,fb,fb,fb,fb,fb] rfl rfl (any_of HT_.out (by kernel_rfl)) (fun _ _ _ h => h) (Or.inl ⟨by rfl, ?_⟩) ?_ ?_
            rotate_left
            ·intro w'
             go_simp
             with_reducible rfl
            rotate_left
            ·simp only [Act.put, sT, sZ, sS, i64_w, i32_w]
             rfl
            refine pure_ (i := 29) (N := some 69) (v := ?_) (a' := ?_) #[tb,tb,tb,tb,tb,tb,tb,tb,tb,tb,tb,tb,tb,tb,tb,tb,tb,tb,tb,tb,tb,tb,tb,tb,tb,tb,tb,tb,tb,tb,fb,fb,fb,fb,fb,fb,fb,fb,fb,fb,fb,fb,fb,fb,fb,fb,fb,fb,fb,fb,fb,fb] rfl rfl (any_of HT_.out (by kernel_rfl)) (fun _ _ _ h => h) (Or.inl ⟨by rfl, ?_⟩) ?_ ?_
            rotate_left
            ·intro w'
             go_simp
             with_reducible rfl
            rotate_left
            ·simp only [Act.put, sT, sZ, sS, i64_w, i32_w]
             rfl
            refine pure_ (i := 30) (N := some 70) (v := undef) (a' := ?_) #[tb,tb,tb,tb,tb,tb,tb,tb,tb,tb,tb,tb,tb,tb,tb,tb,tb,tb,tb,tb,tb,tb,tb,tb,tb,tb,tb,tb,tb,tb,tb,fb,fb,fb,fb,fb,fb,fb,fb,fb,fb,fb,fb,fb,fb,fb,fb,fb,fb,fb,fb,fb] rfl rfl (any_of HT_.out (by kernel_rfl)) (fun _ _ _ h => h) (Or.inr ⟨by rfl, rfl⟩) ?_ ?_
            rotate_left
            ·simp only [Act.put, sT, sZ, sS, i64_w, i32_w]
             rfl
            refine pure_ (i := 31) (N := some 71) (v := undef) (a' := ?_) #[tb,tb,tb,tb,tb,tb,tb,tb,tb,tb,tb,tb,tb,tb,tb,tb,tb,tb,tb,tb,tb,tb,tb,tb,tb,tb,tb,tb,tb,tb,tb,tb,fb,fb,fb,fb,fb,fb,fb,fb,fb,fb,fb,fb,fb,fb,fb,fb,fb,fb,fb,fb] rfl rfl (any_of HT_.out (by kernel_rfl)) (fun _ _ _ h => h) (Or.inr ⟨by rfl, rfl⟩) ?_ ?_
            rotate_left
            ·simp only [Act.put, sT, sZ, sS, i64_w, i32_w]
             rfl
            refine pure_ (i := 32) (N := some 72) (v := undef) (a' := ?_) #[tb,tb,tb,tb,tb,tb,tb,tb,tb,tb,tb,tb,tb,tb,tb,tb,tb,tb,tb,tb,tb,tb,tb,tb,tb,tb,tb,tb,tb,tb,tb,tb,tb,fb,fb,fb,fb,fb,fb,fb,fb,fb,fb,fb,fb,fb,fb,fb,fb,fb,fb,fb] rfl rfl (any_of HT_.out (by kernel_rfl)) (fun _ _ _ h => h) (Or.inr ⟨by rfl, rfl⟩) ?_ ?_
            rotate_left
            ·simp only [Act.put, sT, sZ, sS, i64_w, i32_w]
             rfl
            refine pure_ (i := 33) (N := some 73) (v := undef) (a' := ?_) #[tb,tb,tb,tb,tb,tb,tb,tb,tb,tb,tb,tb,tb,tb,tb,tb,tb,tb,tb,tb,tb,tb,tb,tb,tb,tb,tb,tb,tb,tb,tb,tb,tb,tb,fb,fb,fb,fb,fb,fb,fb,fb,fb,fb,fb,fb,fb,fb,fb,fb,fb,fb] rfl rfl (any_of HT_.out (by kernel_rfl)) (fun _ _ _ h => h) (Or.inr ⟨by rfl, rfl⟩) ?_ ?_
            rotate_left
            ·simp only [Act.put, sT, sZ, sS, i64_w, i32_w]
             rfl
            refine pure_ (i := 34) (N := some 74) (v := undef) (a' := ?_) #[tb,tb,tb,tb,tb,tb,tb,tb,tb,tb,tb,tb,tb,tb,tb,tb,tb,tb,tb,tb,tb,tb,tb,tb,tb,tb,tb,tb,tb,tb,tb,tb,tb,tb,tb,fb,fb,fb,fb,fb,fb,fb,fb,fb,fb,fb,fb,fb,fb,fb,fb,fb] rfl rfl (any_of HT_.out (by kernel_rfl)) (fun _ _ _ h => h) (Or.inr ⟨by rfl, rfl⟩) ?_ ?_
            rotate_left
            ·simp only [Act.put, sT, sZ, sS, i64_w, i32_w]
             rfl
            refine pure_ (i := 35) (N := some 75) (v := ?_) (a' := ?_) #[tb,tb,tb,tb,tb,tb,tb,tb,tb,tb,tb,tb,tb,tb,tb,tb,tb,tb,tb,tb,tb,tb,tb,tb,tb,tb,tb,tb,tb,tb,tb,tb,tb,tb,tb,tb,fb,fb,fb,fb,fb,fb,fb,fb,fb,fb,fb,fb,fb,fb,fb,fb] rfl rfl (any_of HT_.out (by kernel_rfl)) (fun _ _ _ h => h) (Or.inl ⟨by rfl, ?_⟩) ?_ ?_
            rotate_left
            ·intro w'
             go_simp
             with_reducible rfl
            rotate_left
            ·simp only [Act.put, sT, sZ, sS, i64_w, i32_w]
             rfl
            refine pure_ (i := 36) (N := some 76) (v := ?_) (a' := ?_) #[tb,tb,tb,tb,tb,tb,tb,tb,tb,tb,tb,tb,tb,tb,tb,tb,tb,tb,tb,tb,tb,tb,tb,tb,tb,tb,tb,tb,tb,tb,tb,tb,tb,tb,tb,tb,tb,fb,fb,fb,fb,fb,fb,fb,fb,fb,fb,fb,fb,fb,fb,fb] rfl rfl (any_of HT_.out (by kernel_rfl)) (fun _ _ _ h => h) (Or.inl ⟨by rfl, ?_⟩) ?_ ?_
            rotate_left
            ·intro w'
             go_simp
             with_reducible rfl
            rotate_left
            ·simp only [Act.put, sT, sZ, sS, i64_w, i32_w]
             rfl
            refine pure_ (i := 37) (N := some 77) (v := undef) (a' := ?_) #[tb,tb,tb,tb,tb,tb,tb,tb,tb,tb,tb,tb,tb,tb,tb,tb,tb,tb,tb,tb,tb,tb,tb,tb,tb,tb,tb,tb,tb,tb,tb,tb,tb,tb,tb,tb,tb,tb,fb,fb,fb,fb,fb,fb,fb,fb,fb,fb,fb,fb,fb,fb] rfl rfl (any_of HT_.out (by kernel_rfl)) (fun _ _ _ h => h) (Or.inr ⟨by rfl, rfl⟩) ?_ ?_
            rotate_left
            ·simp only [Act.put, sT, sZ, sS, i64_w, i32_w]
             rfl
            refine pure_ (i := 38) (N := some 78) (v := undef) (a' := ?_) #[tb,tb,tb,tb,tb,tb,tb,tb,tb,tb,tb,tb,tb,tb,tb,tb,tb,tb,tb,tb,tb,tb,tb,tb,tb,tb,tb,tb,tb,tb,tb,tb,tb,tb,tb,tb,tb,tb,tb,fb,fb,fb,fb,fb,fb,fb,fb,fb,fb,fb,fb,fb] rfl rfl (any_of HT_.out (by kernel_rfl)) (fun _ _ _ h => h) (Or.inr ⟨by rfl, rfl⟩) ?_ ?_
            rotate_left
            ·simp only [Act.put, sT, sZ, sS, i64_w, i32_w]
             rfl
            refine pure_ (i := 39) (N := some 79) (v := undef) (a' := ?_) #[tb,tb,tb,tb,tb,tb,tb,tb,tb,tb,tb,tb,tb,tb,tb,tb,tb,tb,tb,tb,tb,tb,tb,tb,tb,tb,tb,tb,tb,tb,tb,tb,tb,tb,tb,tb,tb,tb,tb,tb,fb,fb,fb,fb,fb,fb,fb,fb,fb,fb,fb,fb] rfl rfl (any_of HT_.out (by kernel_rfl)) (fun _ _ _ h => h) (Or.inr ⟨by rfl, rfl⟩) ?_ ?_
            rotate_left
            ·simp only [Act.put, sT, sZ, sS, i64_w, i32_w]
             rfl
            refine pure_ (i := 40) (N := some 80) (v := undef) (a' := ?_) #[tb,tb,tb,tb,tb,tb,tb,tb,tb,tb,tb,tb,tb,tb,tb,tb,tb,tb,tb,tb,tb,tb,tb,tb,tb,tb,tb,tb,tb,tb,tb,tb,tb,tb,tb,tb,tb,tb,tb,tb,tb,fb,fb,fb,fb,fb,fb,fb,fb,fb,fb,fb] rfl rfl (any_of HT_.out (by kernel_rfl)) (fun _ _ _ h => h) (Or.inr ⟨by rfl, rfl⟩) ?_ ?_
            rotate_left
            ·simp only [Act.put, sT, sZ, sS, i64_w, i32_w]
             rfl
            refine pure_ (i := 41) (N := some 81) (v := undef) (a' := ?_) #[tb,tb,tb,tb,tb,tb,tb,tb,tb,tb,tb,tb,tb,tb,tb,tb,tb,tb,tb,tb,tb,tb,tb,tb,tb,tb,tb,tb,tb,tb,tb,tb,tb,tb,tb,tb,tb,tb,tb,tb,tb,tb,fb,fb,fb,fb,fb,fb,fb,fb,fb,fb] rfl rfl (any_of HT_.out (by kernel_rfl)) (fun _ _ _ h => h) (Or.inr ⟨by rfl, rfl⟩) ?_ ?_
            rotate_left
            ·simp only [Act.put, sT, sZ, sS, i64_w, i32_w]
             rfl
            refine pure_ (i := 42) (N := some 82) (v := undef) (a' := ?_) #[tb,tb,tb,tb,tb,tb,tb,tb,tb,tb,tb,tb,tb,tb,tb,tb,tb,tb,tb,tb,tb,tb,tb,tb,tb,tb,tb,tb,tb,tb,tb,tb,tb,tb,tb,tb,tb,tb,tb,tb,tb,tb,tb,fb,fb,fb,fb,fb,fb,fb,fb,fb] rfl rfl (any_of HT_.out (by kernel_rfl)) (fun _ _ _ h => h) (Or.inr ⟨by rfl, rfl⟩) ?_ ?_
            rotate_left
            ·simp only [Act.put, sT, sZ, sS, i64_w, i32_w]
             rfl
            refine pure_ (i := 43) (N := some 83) (v := undef) (a' := ?_) #[tb,tb,tb,tb,tb,tb,tb,tb,tb,tb,tb,tb,tb,tb,tb,tb,tb,tb,tb,tb,tb,tb,tb,tb,tb,tb,tb,tb,tb,tb,tb,tb,tb,tb,tb,tb,tb,tb,tb,tb,tb,tb,tb,tb,fb,fb,fb,fb,fb,fb,fb,fb] rfl rfl (any_of HT_.out (by kernel_rfl)) (fun _ _ _ h => h) (Or.inr ⟨by rfl, rfl⟩) ?_ ?_
            rotate_left
            ·simp only [Act.put, sT, sZ, sS, i64_w, i32_w]
             rfl
            refine pure_ (i := 44) (N := some 84) (v := undef) (a' := ?_) #[tb,tb,tb,tb,tb,tb,tb,tb,tb,tb,tb,tb,tb,tb,tb,tb,tb,tb,tb,tb,tb,tb,tb,tb,tb,tb,tb,tb,tb,tb,tb,tb,tb,tb,tb,tb,tb,tb,tb,tb,tb,tb,tb,tb,tb,fb,fb,fb,fb,fb,fb,fb] rfl rfl (any_of HT_.out (by kernel_rfl)) (fun _ _ _ h => h) (Or.inr ⟨by rfl, rfl⟩) ?_ ?_
            rotate_left
            ·simp only [Act.put, sT, sZ, sS, i64_w, i32_w]
             rfl
            refine pure_ (i := 45) (N := some 85) (v := undef) (a' := ?_) #[tb,tb,tb,tb,tb,tb,tb,tb,tb,tb,tb,tb,tb,tb,tb,tb,tb,tb,tb,tb,tb,tb,tb,tb,tb,tb,tb,tb,tb,tb,tb,tb,tb,tb,tb,tb,tb,tb,tb,tb,tb,tb,tb,tb,tb,tb,fb,fb,fb,fb,fb,fb] rfl rfl (any_of HT_.out (by kernel_rfl)) (fun _ _ _ h => h) (Or.inr ⟨by rfl, rfl⟩) ?_ ?_
            rotate_left
            ·simp only [Act.put, sT, sZ, sS, i64_w, i32_w]
             rfl
            refine pure_ (i := 46) (N := some 86) (v := undef) (a' := ?_) #[tb,tb,tb,tb,tb,tb,tb,tb,tb,tb,tb,tb,tb,tb,tb,tb,tb,tb,tb,tb,tb,tb,tb,tb,tb,tb,tb,tb,tb,tb,tb,tb,tb,tb,tb,tb,tb,tb,tb,tb,tb,tb,tb,tb,tb,tb,tb,fb,fb,fb,fb,fb] rfl rfl (any_of HT_.out (by kernel_rfl)) (fun _ _ _ h => h) (Or.inr ⟨by rfl, rfl⟩) ?_ ?_
            rotate_left
            ·simp only [Act.put, sT, sZ, sS, i64_w, i32_w]
             rfl
            refine pure_ (i := 47) (N := some 87) (v := undef) (a' := ?_) #[tb,tb,tb,tb,tb,tb,tb,tb,tb,tb,tb,tb,tb,tb,tb,tb,tb,tb,tb,tb,tb,tb,tb,tb,tb,tb,tb,tb,tb,tb,tb,tb,tb,tb,tb,tb,tb,tb,tb,tb,tb,tb,tb,tb,tb,tb,tb,tb,fb,fb,fb,fb] rfl rfl (any_of HT_.out (by kernel_rfl)) (fun _ _ _ h => h) (Or.inr ⟨by rfl, rfl⟩) ?_ ?_
            rotate_left
            ·simp only [Act.put, sT, sZ, sS, i64_w, i32_w]
             rfl
            refine pure_ (i := 48) (N := some 88) (v := undef) (a' := ?_) #[tb,tb,tb,tb,tb,tb,tb,tb,tb,tb,tb,tb,tb,tb,tb,tb,tb,tb,tb,tb,tb,tb,tb,tb,tb,tb,tb,tb,tb,tb,tb,tb,tb,tb,tb,tb,tb,tb,tb,tb,tb,tb,tb,tb,tb,tb,tb,tb,tb,fb,fb,fb] rfl rfl (any_of HT_.out (by kernel_rfl)) (fun _ _ _ h => h) (Or.inr ⟨by rfl, rfl⟩) ?_ ?_
            rotate_left
            ·simp only [Act.put, sT, sZ, sS, i64_w, i32_w]
             rfl
            refine pure_ (i := 49) (N := some 89) (v := undef) (a' := ?_) #[tb,tb,tb,tb,tb,tb,tb,tb,tb,tb,tb,tb,tb,tb,tb,tb,tb,tb,tb,tb,tb,tb,tb,tb,tb,tb,tb,tb,tb,tb,tb,tb,tb,tb,tb,tb,tb,tb,tb,tb,tb,tb,tb,tb,tb,tb,tb,tb,tb,tb,fb,fb] rfl rfl (any_of HT_.out (by kernel_rfl)) (fun _ _ _ h => h) (Or.inr ⟨by rfl, rfl⟩) ?_ ?_
            rotate_left
            ·simp only [Act.put, sT, sZ, sS, i64_w, i32_w]
             rfl
            refine pure_ (i := 50) (N := some 90) (v := ?_) (a' := ?_) #[tb,tb,tb,tb,tb,tb,tb,tb,tb,tb,tb,tb,tb,tb,tb,tb,tb,tb,tb,tb,tb,tb,tb,tb,tb,tb,tb,tb,tb,tb,tb,tb,tb,tb,tb,tb,tb,tb,tb,tb,tb,tb,tb,tb,tb,tb,tb,tb,tb,tb,tb,fb] rfl rfl (any_of HT_.out (by kernel_rfl)) (fun _ _ _ h => h) (Or.inl ⟨by rfl, ?_⟩) ?_ ?_
            rotate_left
            ·intro w'
             go_simp
             with_reducible rfl
            rotate_left
            ·simp only [Act.put, sT, sZ, sS, i64_w, i32_w]
             rfl
            refine pure_ (i := 51) (N := some 3) (v := ?_) (a' := ?_) #[tb,tb,tb,tb,tb,tb,tb,tb,tb,tb,tb,tb,tb,tb,tb,tb,tb,tb,tb,tb,tb,tb,tb,tb,tb,tb,tb,tb,tb,tb,tb,tb,tb,tb,tb,tb,tb,tb,tb,tb,tb,tb,tb,tb,tb,tb,tb,tb,tb,tb,tb,tb] rfl rfl (any_of HT_.out (by kernel_rfl)) (fun _ _ _ h => h) (Or.inl ⟨by rfl, ?_⟩) ?_ ?_
            rotate_left
            ·intro w'
             go_simp
             with_reducible rfl
            rotate_left
            ·simp only [Act.put, sT, sZ, sS, i64_w, i32_w]
             rfl
            refine done_ (done_of HT_.out (by kernel_rfl)) ?_
            try go_wp2
            go_roundg kj7
            case measure => have := HJ2.out; have := HK2.out; have := HJ7.out; omega
            case rel => exact ⟨(false), (wrap64 (x4_2 + 1)), (by first | rfl | (simp; done) | (simp [*]; done)), (by first | rfl | (simp; done) | (simp [*]; done)), H', ⟨by have := HJ2.out; have := HK2.out; have := HJ7.out; omega⟩, ⟨by repeat (first | (with_reducible first | exact HB.out | apply below_alloc | apply pw_below_drewN | apply below_drew1) | exact HB.out)⟩⟩
          ·rw [if_neg c12] at H
           exact absurd H (by simp)
         ·rw [if_neg c11] at H
          exact absurd H (by simp)
        ·replace c10 := Bool.eq_false_iff.mpr c10
         subst c10
         have H1 : (some x3_2) = some r := by rw [if_neg (show ¬ (false = true) by decide)] at H; exact H
         clear H
         have H := H1
         clear H1
         obtain rfl := Option.some.inj H
         go_wp2
         go_ret
         exact ⟨by first | rfl | (simp [errW_none, errW_some] <;> rfl) | (simp [*, errW_none, errW_some] <;> rfl), by repeat (first | (with_reducible first | exact HB.out | apply below_alloc | apply pw_below_drewN | apply below_drew1) | exact HB.out)⟩

end Go.Proofs.Ytjplkgkkokcgjaa.X
