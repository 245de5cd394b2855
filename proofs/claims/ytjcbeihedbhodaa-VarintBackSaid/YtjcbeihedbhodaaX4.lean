/- The machine's side of the laws of this seat: for each Go function a Lean function of lists and numbers, and that the call answers what it answers. No condition but those in the theorems. -/
import Derived.Test.YtjcbeihedbhodaaX0
import Derived.Test.YtjcbeihedbhodaaX1
namespace Go.Proofs.Ytjcbeihedbhodaa.X
open Go.RowKit Go.Proofs.YtjcbeihedbhodaaW.PrintWords Go.Proofs.YtjcbeihedbhodaaW.PrintLast Go.Proofs.YtjcbeihedbhodaaW.PrintMore
attribute [local go_sem] max2_int min2_int max_two min_two max_three min_three max_four min_four   -- for this text's walks alone
set_option linter.unusedVariables false
set_option linter.unusedSimpArgs false

/-! ### stratumlaw02_VarintBack: function 5 -/
mutual
def stratumlaw02_VarintBack.j0 : Nat → List Int → List Int → Bool → Option (Bool)
  | 0, _, _, _ => none
  | k + 1, x0, x1, x22 => if x22 = true then (some true) else (stratumlaw02_VarintBack.l0 k x0 x1 ([] : List Int) 0)
def stratumlaw02_VarintBack.l0 : Nat → List Int → List Int → List Int → Int → Option (Bool)
  | 0, _, _, _, _ => none
  | k + 1, x0, x1, x5, x6 => if x6 < (x0.length : Int) then (if 0 ≤ x6 then ((varint_Put.f x5 (rd x0 x6)).bind fun t156 => (stratumlaw02_VarintBack.l0 k x0 x1 t156 (wrap64 (x6 + 1)))) else (none)) else (if x5.length + x1.length < 140737488355328 then (stratumlaw02_VarintBack.l1 k x0 (x5 ++ x1) (x5.length : Int) 0 0) else (none))
def stratumlaw02_VarintBack.l1 : Nat → List Int → List Int → Int → Int → Int → Option (Bool)
  | 0, _, _, _, _, _ => none
  | k + 1, x0, x5, x7, x8, x9 => if x9 < (x0.length : Int) then (if 0 ≤ x8 then (if x8 ≤ (x5.length : Int) then ((varint_Take.f k (x5.drop (x8 : Int).toNat)).bind fun bt166 => (if 0 ≤ x9 then (if bt166.1 = (rd x0 x9) then ((varint_Size.f bt166.1).bind fun t170 => (if bt166.2.1 = t170 then (if bt166.2.2 = 0 then (if (wrap64 (x8 + bt166.2.1)) > x7 then (some false) else (stratumlaw02_VarintBack.l1 k x0 x5 x7 (wrap64 (x8 + bt166.2.1)) (wrap64 (x9 + 1)))) else (some false)) else (some false))) else (some false)) else (none))) else (none)) else (none)) else (some (x8 == x7))
end
def stratumlaw02_VarintBack.f (k : Nat) (l0 : List Int) (l1 : List Int) : Option (Bool) := (stratumlaw02_lives.f k).bind fun t154 => (if t154 = true then (if (l0.length : Int) > 1024 then (stratumlaw02_VarintBack.j0 k l0 l1 true) else (stratumlaw02_VarintBack.j0 k l0 l1 (decide ((l1.length : Int) > 65536)))) else (some false))
theorem stratumlaw02_VarintBack.mono_l : ∀ k, (∀ y0 y1 y2, LeO (stratumlaw02_VarintBack.j0 k y0 y1 y2) (stratumlaw02_VarintBack.j0 (k + 1) y0 y1 y2)) ∧ (∀ y0 y1 y2 y3, LeO (stratumlaw02_VarintBack.l0 k y0 y1 y2 y3) (stratumlaw02_VarintBack.l0 (k + 1) y0 y1 y2 y3)) ∧ (∀ y0 y1 y2 y3 y4, LeO (stratumlaw02_VarintBack.l1 k y0 y1 y2 y3 y4) (stratumlaw02_VarintBack.l1 (k + 1) y0 y1 y2 y3 y4))
  | 0 => ⟨fun _ _ _ r h => by simp [stratumlaw02_VarintBack.j0] at h, fun _ _ _ _ r h => by simp [stratumlaw02_VarintBack.l0] at h, fun _ _ _ _ _ r h => by simp [stratumlaw02_VarintBack.l1] at h⟩
  | k + 1 => by
    obtain ⟨ih0, ih1, ih2⟩ := stratumlaw02_VarintBack.mono_l k
    refine ⟨?_, ?_, ?_⟩
    · intro y0 y1 y2
      unfold stratumlaw02_VarintBack.j0
      repeat' first
      | (with_reducible exact ih0 _ _ _)
      | (with_reducible exact ih1 _ _ _ _)
      | (with_reducible exact ih2 _ _ _ _ _)
      | (with_reducible exact stratumlaw02_lives.mono _)
      | (with_reducible exact varint_Take.mono _ _)
      | (with_reducible exact LeO.refl _)
      | (with_reducible exact LeO.none _)
      | (with_reducible refine LeO.ite ?_ ?_)
      | (with_reducible refine LeO.bind ?_ (fun _ => ?_))
      | exact ih0 _ _ _
      | exact ih1 _ _ _ _
      | exact ih2 _ _ _ _ _
      | exact stratumlaw02_lives.mono _
      | exact varint_Take.mono _ _
      | exact LeO.none _
      | refine LeO.ite ?_ ?_
      | refine LeO.bind ?_ (fun _ => ?_)
    · intro y0 y1 y2 y3
      unfold stratumlaw02_VarintBack.l0
      repeat' first
      | (with_reducible exact ih0 _ _ _)
      | (with_reducible exact ih1 _ _ _ _)
      | (with_reducible exact ih2 _ _ _ _ _)
      | (with_reducible exact stratumlaw02_lives.mono _)
      | (with_reducible exact varint_Take.mono _ _)
      | (with_reducible exact LeO.refl _)
      | (with_reducible exact LeO.none _)
      | (with_reducible refine LeO.ite ?_ ?_)
      | (with_reducible refine LeO.bind ?_ (fun _ => ?_))
      | exact ih0 _ _ _
      | exact ih1 _ _ _ _
      | exact ih2 _ _ _ _ _
      | exact stratumlaw02_lives.mono _
      | exact varint_Take.mono _ _
      | exact LeO.none _
      | refine LeO.ite ?_ ?_
      | refine LeO.bind ?_ (fun _ => ?_)
    · intro y0 y1 y2 y3 y4
      unfold stratumlaw02_VarintBack.l1
      repeat' first
      | (with_reducible exact ih0 _ _ _)
      | (with_reducible exact ih1 _ _ _ _)
      | (with_reducible exact ih2 _ _ _ _ _)
      | (with_reducible exact stratumlaw02_lives.mono _)
      | (with_reducible exact varint_Take.mono _ _)
      | (with_reducible exact LeO.refl _)
      | (with_reducible exact LeO.none _)
      | (with_reducible refine LeO.ite ?_ ?_)
      | (with_reducible refine LeO.bind ?_ (fun _ => ?_))
      | exact ih0 _ _ _
      | exact ih1 _ _ _ _
      | exact ih2 _ _ _ _ _
      | exact stratumlaw02_lives.mono _
      | exact varint_Take.mono _ _
      | exact LeO.none _
      | refine LeO.ite ?_ ?_
      | refine LeO.bind ?_ (fun _ => ?_)
theorem stratumlaw02_VarintBack.mono : ∀ a0 a1 k, LeO (stratumlaw02_VarintBack.f k a0 a1) (stratumlaw02_VarintBack.f (k + 1) a0 a1) := by
  intro a0 a1 k
  obtain ⟨ih0, ih1, ih2⟩ := stratumlaw02_VarintBack.mono_l k
  unfold stratumlaw02_VarintBack.f
  repeat' first
      | (with_reducible exact ih0 _ _ _)
      | (with_reducible exact ih1 _ _ _ _)
      | (with_reducible exact ih2 _ _ _ _ _)
      | (with_reducible exact stratumlaw02_lives.mono _)
      | (with_reducible exact varint_Take.mono _ _)
      | (with_reducible exact LeO.refl _)
      | (with_reducible exact LeO.none _)
      | (with_reducible refine LeO.ite ?_ ?_)
      | (with_reducible refine LeO.bind ?_ (fun _ => ?_))
      | exact ih0 _ _ _
      | exact ih1 _ _ _ _
      | exact ih2 _ _ _ _ _
      | exact stratumlaw02_lives.mono _
      | exact varint_Take.mono _ _
      | exact LeO.none _
      | refine LeO.ite ?_ ?_
      | refine LeO.bind ?_ (fun _ => ?_)
set_option maxHeartbeats 8000000 in
set_option maxRecDepth 100000 in
theorem stratumlaw02_VarintBack.calls (k : Nat) (A0 : Option Addr) (c0 : Nat) (l0 : List Int) (A1 : Option Addr) (c1 : Nat) (l1 : List Int) (r : Bool) (w : World) (hr0 : Kd.C (Kd.int .u64) w A0 l0.length l0) (hc0 : l0.length ≤ c0) (hr1 : Kd.C (Kd.int .u8) w A1 l1.length l1) (hc1 : l1.length ≤ c1) (h : stratumlaw02_VarintBack.f k l0 l1 = some r) :
    Calls Try.prog 5 #[.slice A0 l0.length c0, .slice A1 l1.length c1] w fun e w' => e = .returned (.bool r) ∧ Below w.heap.size w w' := by
  have HR0 := Aside0.mk hr0
  have HC0 := Aside0.mk hc0
  clear hr0 hc0
  have HR1 := Aside0.mk hr1
  have HC1 := Aside0.mk hc1
  clear hr1 hc1
  have HB := Aside0.mk (Below.refl w.heap.size w)
  have H : ((stratumlaw02_lives.f k).bind fun t154 => (if t154 = true then (if (l0.length : Int) > 1024 then (stratumlaw02_VarintBack.j0 k l0 l1 true) else (stratumlaw02_VarintBack.j0 k l0 l1 (decide ((l1.length : Int) > 65536)))) else (some false))) = some r := h
  clear h
  replace H := Option.bind_eq_some_iff.mp H
  obtain ⟨t154, A30, H⟩ := H
  replace H : (if t154 = true then (if (l0.length : Int) > 1024 then (stratumlaw02_VarintBack.j0 k l0 l1 true) else (stratumlaw02_VarintBack.j0 k l0 l1 (decide ((l1.length : Int) > 65536)))) else (some false)) = some r := H
  have A3 := Aside0.mk A30
  clear A30
  by_cases c4 : t154 = true
  · subst c4
    have H1 : (if (l0.length : Int) > 1024 then (stratumlaw02_VarintBack.j0 k l0 l1 true) else (stratumlaw02_VarintBack.j0 k l0 l1 (decide ((l1.length : Int) > 65536)))) = some r := by rw [if_pos rfl] at H; exact H
    clear H
    have H := H1
    clear H1
    have HC5 := Aside0.mk H
    clear H
    go_enter Try.func5, Try.ntmps5
    go_upto_region 3 with (first | ((with_reducible refine gate_callee (f := 9) rfl ?_); refine goesL_ (some 13) rfl rfl Try.func9 (by kernel_rfl) rfl #[] rfl (by (try simp only [List.map_toArray, List.map_cons, List.map_nil]); first | done | rfl | (simp only [List.length_drop, List.length_take]; rfl)) ?_; (with_reducible refine (stratumlaw02_lives.calls k  true _ A3.out).mono ?_); rintro e w6 ⟨rfl, hb⟩; refine ⟨_, rfl, ?_⟩; have n0_ := Aside0.mk (below_step (by repeat (first | (with_reducible first | exact HB.out | apply below_alloc | apply pw_below_drewN | apply below_drew1) | exact HB.out)) hb); clear HB; have HB := n0_; clear n0_; (try clear hb); (try clear hb2); (try clear hk); (try clear hi)))
    (try simp only [Act.put, List.setIfInBounds_toArray, List.set_cons_zero, List.set_cons_succ])
    go_cut [22] (fun v22 wc => ∃ (kq : Nat) (x22_4 : Bool), v22 = .bool x22_4 ∧ Aside0 (stratumlaw02_VarintBack.j0 kq l0 l1 x22_4 = some r) ∧ Aside0 (kq ≤ k) ∧ Aside0 (Below w.heap.size w wc))
    case first =>
      have H := HC5.out
      clear HC5
      by_cases c7 : (l0.length : Int) > 1024
      · rw [if_pos c7] at H
        have c7b0 : decide (1024 < (l0.length : Int)) = true := decide_eq_true c7
        have c7b1 : decide (1024 < l0.length) = true := decide_eq_true (by omega)
        clear c7
        (first | rw [c7b0] | (simp only [i64_w, i32_w]; rw [c7b0]) | skip)
        have H' := Aside0.mk H
        clear H
        go_wp2
        go_meet
        case rel => exact ⟨_, (true), (by first | rfl | (simp; done) | (simp [*]; done)), H', ⟨by first | omega | exact Nat.le_refl _⟩, ⟨by repeat (first | (with_reducible first | exact HB.out | apply below_alloc | apply pw_below_drewN | apply below_drew1) | exact HB.out)⟩⟩
      · rw [if_neg c7] at H
        have c7b0 : decide (1024 < (l0.length : Int)) = false := decide_eq_false c7
        have c7b1 : decide (1024 < l0.length) = false := decide_eq_false (by omega)
        clear c7
        (first | rw [c7b0] | (simp only [i64_w, i32_w]; rw [c7b0]) | skip)
        have H' := Aside0.mk H
        clear H
        go_wp2
        go_meet
        case rel => exact ⟨_, (decide ((l1.length : Int) > 65536)), (by first | rfl | (simp; done) | (simp [*]; done)), H', ⟨by first | omega | exact Nat.le_refl _⟩, ⟨by repeat (first | (with_reducible first | exact HB.out | apply below_alloc | apply pw_below_drewN | apply below_drew1) | exact HB.out)⟩⟩
    case rest =>
      clear HC5
      try clear c1
      try clear p2
      try clear c4
      try clear c5
      try clear c7
      try clear c7b0
      try clear c7b1
      obtain ⟨kq, x22_4, rfl, HA, HJ4, HB⟩ := hcut
      cases kq with
      | zero => exact absurd HA.out (by simp [stratumlaw02_VarintBack.j0])
      | succ kj4 =>
        have H := HA.out
        clear HA
        simp only [stratumlaw02_VarintBack.j0] at H
        by_cases c8 : x22_4 = true
        · subst c8
          have H1 : (some true) = some r := by rw [if_pos rfl] at H; exact H
          clear H
          have H := H1
          clear H1
          obtain rfl := Option.some.inj H
          go_wp2
          go_ret
          exact ⟨by first | rfl | (simp [errW_none, errW_some] <;> rfl) | (simp [*, errW_none, errW_some] <;> rfl), by repeat (first | (with_reducible first | exact HB.out | apply below_alloc | apply pw_below_drewN | apply below_drew1) | exact HB.out)⟩
        · replace c8 := Bool.eq_false_iff.mpr c8
          subst c8
          have H1 : (stratumlaw02_VarintBack.l0 kj4 l0 l1 ([] : List Int) 0) = some r := by rw [if_neg (show ¬ (false = true) by decide)] at H; exact H
          clear H
          have H := H1
          clear H1
          have H' := Aside0.mk H
          clear H
          go_wp2
          go_loopg [5, 6] kj4 (fun kq v5 v6 w' => ∃ (x5_2 : List Int) (x6_2 : Int), v6 = .int .i64 x6_2 ∧ Aside0 (stratumlaw02_VarintBack.l0 kq l0 l1 x5_2 x6_2 = some r) ∧ Aside0 (kq ≤ kj4) ∧ Aside0 (Kd.R (Kd.int .u8) 5 w' w.heap.size (fun _ => True) v5 x5_2) ∧ Aside0 (Below w.heap.size w w'))
          case atStart => exact ⟨(([] : List Int)), (0), (by first | rfl | (simp; done) | (simp [*]; done)), H', ⟨Nat.le_refl _⟩, ⟨by first | exact Kd.R_nil _ _ _ _ _ | exact Kd.N_nil _ _ _ _ _ | exact Kd.V_nil _ _ _ _ _ | exact Kd.Q_nil _ _ _ _ _ | exact Kd.S_nil _ _ _ _ _⟩, ⟨by repeat (first | (with_reducible first | exact HB.out | apply below_alloc | apply pw_below_drewN | apply below_drew1) | exact HB.out)⟩⟩
          case round =>
            clear H'
            try clear c1
            try clear p2
            try clear c4
            try clear c5
            try clear c7
            try clear c7b0
            try clear c7b1
            try clear c8
            try clear p2
            obtain ⟨x5_2, x6_2, rfl, HA, HK2, HO_5, HB⟩ := hrel
            cases gk with
            | zero => exact absurd HA.out (by simp [stratumlaw02_VarintBack.l0])
            | succ k2 =>
              have H := HA.out
              clear HA
              simp only [stratumlaw02_VarintBack.l0] at H
              by_cases c9 : x6_2 < (l0.length : Int)
              · rw [if_pos c9] at H
                have c9b0 : decide (x6_2 < (l0.length : Int)) = true := decide_eq_true c9
                clear c9
                by_cases c10 : 0 ≤ x6_2
                · rw [if_pos c10] at H
                  have c10b0 : decide (0 ≤ x6_2) = true := decide_eq_true c10
                  clear c10
                  replace H := Option.bind_eq_some_iff.mp H
                  obtain ⟨t156, A110, H⟩ := H
                  replace H : (stratumlaw02_VarintBack.l0 k2 l0 l1 t156 (wrap64 (x6_2 + 1))) = some r := H
                  have A11 := Aside0.mk A110
                  clear A110
                  have H' := Aside0.mk H
                  clear H
                  have p155 : 0 ≤ (x6_2 : Int) := of_decide_eq_true (by first | (with_reducible assumption) | assumption)
                  have q155 : x6_2 < (l0.length : Int) := of_decide_eq_true (by first | (with_reducible assumption) | assumption)
                  obtain ⟨ad155, e155, hx155_0⟩ := Kd.at_int HR0.out x6_2 p155 q155
                  cases e155
                  replace hx155_0 := (HB.out.cell (World.block_lt_of_cell? w _ hx155_0)).trans hx155_0
                  replace p155 := eq_true p155
                  replace q155 := eq_true q155
                  obtain ⟨Ao12, co12, eo12⟩ := Kd.R_slice HO_5.out
                  subst eo12
                  go_wp2_with (first | ((with_reducible refine gate_callee (f := 11) rfl ?_); refine goesL_ (some 34) rfl rfl Try.func11 (by kernel_rfl) rfl #[.slice Ao12 x5_2.length co12, .int .u64 (rd l0 x6_2)] rfl (by (try simp only [List.map_toArray, List.map_cons, List.map_nil]); first | done | rfl | (simp only [List.length_drop, List.length_take]; rfl)) ?_; (with_reducible refine (varint_Put.calls _ _ x5_2 (rd l0 x6_2) t156 _ ?side1 ?side2 A11.out).mono ?_); (case side1 => repeat (first | exact (Kd.R_reads' HO_5.out).2.2 | (with_reducible refine Kd.C_alloc ?_ _) | (with_reducible refine Kd.C_drewN ?_ _) | (with_reducible refine Kd.C_drew ?_))); (case side2 => exact (Kd.R_reads' HO_5.out).2.1); rintro e w13 ⟨v157, rfl, ho0, hb⟩; refine ⟨_, rfl, ?_⟩; have n0_ := Aside0.mk (Kd.R_elder' (by (with_reducible repeat (first | apply Kd.R_alloc | apply Kd.R_drewN | apply Kd.R_drew)); exact HO_5.out) (Kd.R_base ho0) hb); have n1_ := Aside0.mk (Kd.R_lower (Kd.R_new' ho0 (Kd.R_lt (by (with_reducible repeat (first | apply Kd.R_alloc | apply Kd.R_drewN | apply Kd.R_drew)); exact HO_5.out))) (below_size (by repeat (first | (with_reducible first | exact HB.out | apply below_alloc | apply pw_below_drewN | apply below_drew1) | exact HB.out)))); have n2_ := Aside0.mk (below_step (by repeat (first | (with_reducible first | exact HB.out | apply below_alloc | apply pw_below_drewN | apply below_drew1) | exact HB.out)) hb); clear HO_5; clear HB; have HO_5 := n0_; have HO158 := n1_; have HB := n2_; clear n0_ n1_ n2_; (try clear hb); (try clear hb2); (try clear hk); (try clear hi); (try clear ho0)))
                  go_roundg k2
                  case measure => have := HJ4.out; have := HK2.out; omega
                  case rel => exact ⟨(t156), (wrap64 (x6_2 + 1)), (by first | rfl | (simp; done) | (simp [*]; done)), H', ⟨by have := HJ4.out; have := HK2.out; omega⟩, ⟨by (with_reducible repeat (first | apply Kd.R_alloc | apply Kd.R_drewN | apply Kd.R_drew)); exact Kd.R_mono HO158.out (fun _ hk => trivial)⟩, ⟨by repeat (first | (with_reducible first | exact HB.out | apply below_alloc | apply pw_below_drewN | apply below_drew1) | exact HB.out)⟩⟩
                · rw [if_neg c10] at H
                  exact absurd H (by simp)
              · rw [if_neg c9] at H
                have c9b0 : decide (x6_2 < (l0.length : Int)) = false := decide_eq_false c9
                clear c9
                by_cases c14 : x5_2.length + l1.length < 140737488355328
                · rw [if_pos c14] at H
                  have LMc14 := Aside0.mk c14
                  clear c14
                  obtain ⟨y159, hy159⟩ : ∃ y_ : List Int, y_ = (x5_2 ++ l1) := ⟨_, rfl⟩
                  replace H : (stratumlaw02_VarintBack.l1 k2 l0 y159 (x5_2.length : Int) 0 0) = some r := by first | (rw [hy159]; with_reducible exact H) | (have H2_ := (Option.bind_some _ _).symm.trans H; rw [hy159]; with_reducible exact H2_) | (have H2_ := (Option.bind_some _ _).symm.trans H; with_reducible exact H2_) | with_reducible exact H | (rw [hy159]; exact H) | exact H
                  have Ny159 := Aside0.mk hy159
                  clear hy159
                  have H' := Aside0.mk H
                  clear H
                  obtain ⟨Ao15, co15, eo15⟩ := Kd.R_slice HO_5.out
                  subst eo15
                  go_wp2_with (first | ((with_reducible refine gate_builtin (b := .append) (xs := #[.tmp 37, .tmp 38]) rfl ?_); (try (refine gate_guard (by rfl) ?_; dsimp only)); at_builtin; refine Kd.R_append_rows (Kd.int .u8) (w0 := w) w.heap.size rfl (.tmp 37) (.tmp 38) 22 5 (.int .u8 0) 1 rfl Try.underlying22 info5 rfl (by decide) (by omega) (.slice Ao15 x5_2.length co15) x5_2 l1 _ _ _ (fun _ => True) (fun _ => False) rfl rfl ?aO ?aR (fun _ _ h => h) (fun _ h => h.elim) ?aF ?aB ?aS ?aL ?_; (case aR => repeat (first | exact (Kd.C_below HR1.out HB.out) | (with_reducible refine Kd.C_alloc ?_ _) | (with_reducible refine Kd.C_drewN ?_ _) | (with_reducible refine Kd.C_drew ?_))); (case aB => exact (by repeat (first | (with_reducible first | exact HB.out | apply below_alloc | apply pw_below_drewN | apply below_drew1) | exact HB.out))); (case aF => exact (fun _ _ => trivial)); (case aO => exact (by (with_reducible repeat (first | apply Kd.R_alloc | apply Kd.R_drewN | apply Kd.R_drew)); exact HO_5.out)); (case aS => exact (below_size (by repeat (first | (with_reducible first | exact HB.out | apply below_alloc | apply pw_below_drewN | apply below_drew1) | exact HB.out)))); (case aL => have := LMc14.out; omega); intro v160 w16 ho hb hg hat; rw [← Ny159.out] at ho; have n0_ := Aside0.mk (hb); have n1_ := Aside0.mk (ho); clear HB; clear HO_5; have HB := n0_; have HO161 := n1_; clear n0_ n1_; clear ho hb hg hat))
                  go_loopg [8, 9] k2 (fun kq v8 v9 w' => ∃ (x8_3 : Int) (x9_3 : Int), v8 = .int .i64 x8_3 ∧ v9 = .int .i64 x9_3 ∧ Aside0 (stratumlaw02_VarintBack.l1 kq l0 y159 (x5_2.length : Int) x8_3 x9_3 = some r) ∧ Aside0 (kq ≤ k2) ∧ Aside0 (Kd.R (Kd.int .u8) 5 w' w.heap.size (fun _ => True) v160 y159) ∧ Aside0 (Below w.heap.size w w'))
                  case atStart => exact ⟨(0), (0), (by first | rfl | (simp; done) | (simp [*]; done)), (by first | rfl | (simp; done) | (simp [*]; done)), H', ⟨Nat.le_refl _⟩, ⟨by (with_reducible repeat (first | apply Kd.R_alloc | apply Kd.R_drewN | apply Kd.R_drew)); exact HO161.out⟩, ⟨by repeat (first | (with_reducible first | exact HB.out | apply below_alloc | apply pw_below_drewN | apply below_drew1) | exact HB.out)⟩⟩
                  case round =>
                    clear H'
                    try clear c1
                    try clear p1
                    try clear q1
                    try clear hx1
                    try clear p2
                    try clear c4
                    try clear c5
                    try clear p6
                    try clear c7
                    try clear c7b0
                    try clear c7b1
                    try clear c8
                    try clear c9
                    try clear c9b0
                    try clear c10
                    try clear c10b0
                    try clear c11
                    try clear c14
                    try clear p15
                    try clear q15
                    try clear hx15
                    try clear hx155_0
                    try clear p155
                    try clear p2
                    try clear q155
                    obtain ⟨x8_3, x9_3, rfl, rfl, HA, HK3, HO_5, HB⟩ := hrel
                    cases gk with
                    | zero => exact absurd HA.out (by simp [stratumlaw02_VarintBack.l1])
                    | succ k3 =>
                      have H := HA.out
                      clear HA
                      simp only [stratumlaw02_VarintBack.l1] at H
                      by_cases c17 : x9_3 < (l0.length : Int)
                      · rw [if_pos c17] at H
                        have c17b0 : decide (x9_3 < (l0.length : Int)) = true := decide_eq_true c17
                        clear c17
                        by_cases c18 : 0 ≤ x8_3
                        · rw [if_pos c18] at H
                          have c18b0 := eq_true c18
                          have c18b1 : decide (0 ≤ x8_3) = true := decide_eq_true c18
                          clear c18
                          by_cases c19 : x8_3 ≤ (y159.length : Int)
                          · rw [if_pos c19] at H
                            have c19b0 := eq_true c19
                            have c19b1 : decide (x8_3 ≤ (y159.length : Int)) = true := decide_eq_true c19
                            clear c19
                            obtain ⟨y162, hy162⟩ : ∃ y_ : List Int, y_ = (y159.drop (x8_3 : Int).toNat) := ⟨_, rfl⟩
                            replace H : ((varint_Take.f k3 y162).bind fun bt166 => (if 0 ≤ x9_3 then (if bt166.1 = (rd l0 x9_3) then ((varint_Size.f bt166.1).bind fun t170 => (if bt166.2.1 = t170 then (if bt166.2.2 = 0 then (if (wrap64 (x8_3 + bt166.2.1)) > (x5_2.length : Int) then (some false) else (stratumlaw02_VarintBack.l1 k3 l0 y159 (x5_2.length : Int) (wrap64 (x8_3 + bt166.2.1)) (wrap64 (x9_3 + 1)))) else (some false)) else (some false))) else (some false)) else (none))) = some r := by first | (rw [hy162]; with_reducible exact H) | (have H2_ := (Option.bind_some _ _).symm.trans H; rw [hy162]; with_reducible exact H2_) | (have H2_ := (Option.bind_some _ _).symm.trans H; with_reducible exact H2_) | with_reducible exact H | (rw [hy162]; exact H) | exact H
                            have Ny162 := Aside0.mk hy162
                            clear hy162
                            replace H := Option.bind_eq_some_iff.mp H
                            obtain ⟨⟨t166, t167, t168⟩, A200, H⟩ := H
                            replace H : (if 0 ≤ x9_3 then (if t166 = (rd l0 x9_3) then ((varint_Size.f t166).bind fun t170 => (if t167 = t170 then (if t168 = 0 then (if (wrap64 (x8_3 + t167)) > (x5_2.length : Int) then (some false) else (stratumlaw02_VarintBack.l1 k3 l0 y159 (x5_2.length : Int) (wrap64 (x8_3 + t167)) (wrap64 (x9_3 + 1)))) else (some false)) else (some false))) else (some false)) else (none)) = some r := H
                            have A20 := Aside0.mk A200
                            clear A200
                            by_cases c21 : 0 ≤ x9_3
                            · rw [if_pos c21] at H
                              have c21b0 : decide (0 ≤ x9_3) = true := decide_eq_true c21
                              clear c21
                              by_cases c22 : t166 = (rd l0 x9_3)
                              · rw [if_pos c22] at H
                                have c22b0 : (t166 == (rd l0 x9_3)) = true := beq_iff_eq.mpr c22
                                have c22b1 : (t166 != (rd l0 x9_3)) = false := bne_eq_false_iff_eq.mpr c22
                                clear c22
                                replace H := Option.bind_eq_some_iff.mp H
                                obtain ⟨t170, A230, H⟩ := H
                                replace H : (if t167 = t170 then (if t168 = 0 then (if (wrap64 (x8_3 + t167)) > (x5_2.length : Int) then (some false) else (stratumlaw02_VarintBack.l1 k3 l0 y159 (x5_2.length : Int) (wrap64 (x8_3 + t167)) (wrap64 (x9_3 + 1)))) else (some false)) else (some false)) = some r := H
                                have A23 := Aside0.mk A230
                                clear A230
                                by_cases c24 : t167 = t170
                                · rw [if_pos c24] at H
                                  have c24b0 : (t167 == t170) = true := beq_iff_eq.mpr c24
                                  have c24b1 : (t167 != t170) = false := bne_eq_false_iff_eq.mpr c24
                                  clear c24
                                  by_cases c25 : t168 = 0
                                  · rw [if_pos c25] at H
                                    have c25b0 : (t168 == 0) = true := beq_iff_eq.mpr c25
                                    have c25b1 : (t168 != 0) = false := bne_eq_false_iff_eq.mpr c25
                                    clear c25
                                    by_cases c26 : (wrap64 (x8_3 + t167)) > (x5_2.length : Int)
                                    · rw [if_pos c26] at H
                                      have c26b0 : decide ((x5_2.length : Int) < (wrap64 (x8_3 + t167))) = true := decide_eq_true c26
                                      clear c26
                                      obtain rfl := Option.some.inj H
                                      obtain ⟨Ao28, co28, eo28⟩ := Kd.R_slice HO_5.out
                                      subst eo28
                                      have q27 : (x8_3 : Int) ≤ ((y159.length : Int) : Int) := of_decide_eq_true (by first | (with_reducible assumption) | assumption)
                                      obtain ⟨i027, hi027, _, hsz27, _⟩ := info_parts info5
                                      have hroom27 : y159.length ≤ co28 := (Kd.R_reads' HO_5.out).2.1
                                      have hC27 : Kd.C (Kd.int .u8) _ Ao28 y159.length y159 := (Kd.R_reads' HO_5.out).2.2
                                      have q027 : (0 : Int) ≤ (x8_3 : Int) := of_decide_eq_true (by first | (with_reducible assumption) | assumption)
                                      have hcut27 := cut_from (P := Try.prog) 22 5 .i64 Try.underlying22 hi027 1 hsz27 Ao28 y159.length co28 x8_3 q027 q27
                                      have hr27 := Kd.C_drop (m := (x8_3 : Int).toNat) (c := co28) hC27 (by omega) hroom27
                                      obtain ⟨A27, hA27⟩ : ∃ A1, A1 = (if co28 = (x8_3 : Int).toNat then Ao28 else (Ao28 : Option Addr).map (·.add ((x8_3 : Int).toNat * 1))) := ⟨_, rfl⟩
                                      obtain ⟨c27, hc27⟩ : ∃ c1, c1 = co28 - (x8_3 : Int).toNat := ⟨_, rfl⟩
                                      have hy27 : y162.length = y159.length - (x8_3 : Int).toNat := (by rw [Ny162.out, List.length_drop] <;> omega)
                                      rw [show (y159).drop (x8_3 : Int).toNat = y162 from Ny162.out.symm] at hr27
                                      replace hr27 : Kd.C (Kd.int .u8) _ A27 y162.length y162 := (by rw [hA27]; exact hr27)
                                      rw [← hy27, ← hA27, ← hc27] at hcut27
                                      have HR165 := Aside0.mk hr27
                                      have HC165 := Aside0.mk (show y162.length ≤ c27 from by rw [hy27, hc27]; exact Nat.sub_le_sub_right hroom27 _)
                                      clear hr27 hC27 hroom27 hi027 hsz27 hc27
                                      have KY27 := Aside0.mk hy27
                                      have KA27 := Aside0.mk hA27
                                      clear hy27 hA27
                                      have KL27 := Aside0.mk (show (x8_3 : Int).toNat ≤ y159.length from by omega)
                                      replace q27 := eq_true q27
                                      go_wp2_with (first | ((with_reducible refine gate_callee (f := 20) rfl ?_); refine goesL_ (some 50) rfl rfl Try.func20 (by kernel_rfl) rfl #[.slice A27 y162.length c27] rfl (by (try simp only [List.map_toArray, List.map_cons, List.map_nil]); first | done | rfl | (simp only [List.length_drop, List.length_take]; rfl)) ?_; (with_reducible refine (varint_Take.calls k3 _ _ y162 t166 t167 t168 _ ?side1 ?side2 A20.out).mono ?_); (case side1 => repeat (first | exact (by repeat (first | (with_reducible exact HR165.out) | (with_reducible refine Kd.C_alloc ?_ _) | (with_reducible refine Kd.C_drewN ?_ _) | (with_reducible refine Kd.C_drew ?_) | exact HR165.out)) | (with_reducible refine Kd.C_alloc ?_ _) | (with_reducible refine Kd.C_drewN ?_ _) | (with_reducible refine Kd.C_drew ?_))); (case side2 => exact HC165.out); rintro e w' ⟨rfl, ⟨nd, rfl⟩⟩; refine ⟨_, rfl, ?_⟩; have p169 : 0 ≤ (x9_3 : Int) := of_decide_eq_true (by first | (with_reducible assumption) | assumption); have q169 : x9_3 < (l0.length : Int) := of_decide_eq_true (by first | (with_reducible assumption) | assumption); obtain ⟨ad169, e169, hx169_0⟩ := Kd.at_int HR0.out x9_3 p169 q169; cases e169; replace hx169_0 := (HB.out.cell (World.block_lt_of_cell? w _ hx169_0)).trans hx169_0; replace p169 := eq_true p169; replace q169 := eq_true q169) | (go_at_call 13; (with_reducible refine (varint_Size.calls t166 t170 _ A23.out).mono ?_); rintro e w' ⟨rfl, ⟨nd, rfl⟩⟩))
                                      go_ret
                                      exact ⟨by first | rfl | (simp [errW_none, errW_some] <;> rfl) | (simp [*, errW_none, errW_some] <;> rfl), by repeat (first | (with_reducible first | exact HB.out | apply below_alloc | apply pw_below_drewN | apply below_drew1) | exact HB.out)⟩
                                    · rw [if_neg c26] at H
                                      have c26b0 : decide ((x5_2.length : Int) < (wrap64 (x8_3 + t167))) = false := decide_eq_false c26
                                      clear c26
                                      have H' := Aside0.mk H
                                      clear H
                                      obtain ⟨Ao30, co30, eo30⟩ := Kd.R_slice HO_5.out
                                      subst eo30
                                      have q29 : (x8_3 : Int) ≤ ((y159.length : Int) : Int) := of_decide_eq_true (by first | (with_reducible assumption) | assumption)
                                      obtain ⟨i029, hi029, _, hsz29, _⟩ := info_parts info5
                                      have hroom29 : y159.length ≤ co30 := (Kd.R_reads' HO_5.out).2.1
                                      have hC29 : Kd.C (Kd.int .u8) _ Ao30 y159.length y159 := (Kd.R_reads' HO_5.out).2.2
                                      have q029 : (0 : Int) ≤ (x8_3 : Int) := of_decide_eq_true (by first | (with_reducible assumption) | assumption)
                                      have hcut29 := cut_from (P := Try.prog) 22 5 .i64 Try.underlying22 hi029 1 hsz29 Ao30 y159.length co30 x8_3 q029 q29
                                      have hr29 := Kd.C_drop (m := (x8_3 : Int).toNat) (c := co30) hC29 (by omega) hroom29
                                      obtain ⟨A29, hA29⟩ : ∃ A1, A1 = (if co30 = (x8_3 : Int).toNat then Ao30 else (Ao30 : Option Addr).map (·.add ((x8_3 : Int).toNat * 1))) := ⟨_, rfl⟩
                                      obtain ⟨c29, hc29⟩ : ∃ c1, c1 = co30 - (x8_3 : Int).toNat := ⟨_, rfl⟩
                                      have hy29 : y162.length = y159.length - (x8_3 : Int).toNat := (by rw [Ny162.out, List.length_drop] <;> omega)
                                      rw [show (y159).drop (x8_3 : Int).toNat = y162 from Ny162.out.symm] at hr29
                                      replace hr29 : Kd.C (Kd.int .u8) _ A29 y162.length y162 := (by rw [hA29]; exact hr29)
                                      rw [← hy29, ← hA29, ← hc29] at hcut29
                                      have HR165 := Aside0.mk hr29
                                      have HC165 := Aside0.mk (show y162.length ≤ c29 from by rw [hy29, hc29]; exact Nat.sub_le_sub_right hroom29 _)
                                      clear hr29 hC29 hroom29 hi029 hsz29 hc29
                                      have KY29 := Aside0.mk hy29
                                      have KA29 := Aside0.mk hA29
                                      clear hy29 hA29
                                      have KL29 := Aside0.mk (show (x8_3 : Int).toNat ≤ y159.length from by omega)
                                      replace q29 := eq_true q29
                                      go_wp2_with (first | ((with_reducible refine gate_callee (f := 20) rfl ?_); refine goesL_ (some 50) rfl rfl Try.func20 (by kernel_rfl) rfl #[.slice A29 y162.length c29] rfl (by (try simp only [List.map_toArray, List.map_cons, List.map_nil]); first | done | rfl | (simp only [List.length_drop, List.length_take]; rfl)) ?_; (with_reducible refine (varint_Take.calls k3 _ _ y162 t166 t167 t168 _ ?side1 ?side2 A20.out).mono ?_); (case side1 => repeat (first | exact (by repeat (first | (with_reducible exact HR165.out) | (with_reducible refine Kd.C_alloc ?_ _) | (with_reducible refine Kd.C_drewN ?_ _) | (with_reducible refine Kd.C_drew ?_) | exact HR165.out)) | (with_reducible refine Kd.C_alloc ?_ _) | (with_reducible refine Kd.C_drewN ?_ _) | (with_reducible refine Kd.C_drew ?_))); (case side2 => exact HC165.out); rintro e w' ⟨rfl, ⟨nd, rfl⟩⟩; refine ⟨_, rfl, ?_⟩; have p169 : 0 ≤ (x9_3 : Int) := of_decide_eq_true (by first | (with_reducible assumption) | assumption); have q169 : x9_3 < (l0.length : Int) := of_decide_eq_true (by first | (with_reducible assumption) | assumption); obtain ⟨ad169, e169, hx169_0⟩ := Kd.at_int HR0.out x9_3 p169 q169; cases e169; replace hx169_0 := (HB.out.cell (World.block_lt_of_cell? w _ hx169_0)).trans hx169_0; replace p169 := eq_true p169; replace q169 := eq_true q169) | (go_at_call 13; (with_reducible refine (varint_Size.calls t166 t170 _ A23.out).mono ?_); rintro e w' ⟨rfl, ⟨nd, rfl⟩⟩))
                                      go_roundg k3
                                      case measure => have := HJ4.out; have := HK2.out; have := HK3.out; omega
                                      case rel => exact ⟨(wrap64 (x8_3 + t167)), (wrap64 (x9_3 + 1)), (by first | rfl | (simp; done) | (simp [*]; done)), (by first | rfl | (simp; done) | (simp [*]; done)), H', ⟨by have := HJ4.out; have := HK2.out; have := HK3.out; omega⟩, ⟨by (with_reducible repeat (first | apply Kd.R_alloc | apply Kd.R_drewN | apply Kd.R_drew)); exact HO_5.out⟩, ⟨by repeat (first | (with_reducible first | exact HB.out | apply below_alloc | apply pw_below_drewN | apply below_drew1) | exact HB.out)⟩⟩
                                  · rw [if_neg c25] at H
                                    have c25b0 : (t168 == 0) = false := beq_eq_false_iff_ne.mpr c25
                                    have c25b1 : (t168 != 0) = true := bne_iff_ne.mpr c25
                                    obtain rfl := Option.some.inj H
                                    obtain ⟨Ao32, co32, eo32⟩ := Kd.R_slice HO_5.out
                                    subst eo32
                                    have q31 : (x8_3 : Int) ≤ ((y159.length : Int) : Int) := of_decide_eq_true (by first | (with_reducible assumption) | assumption)
                                    obtain ⟨i031, hi031, _, hsz31, _⟩ := info_parts info5
                                    have hroom31 : y159.length ≤ co32 := (Kd.R_reads' HO_5.out).2.1
                                    have hC31 : Kd.C (Kd.int .u8) _ Ao32 y159.length y159 := (Kd.R_reads' HO_5.out).2.2
                                    have q031 : (0 : Int) ≤ (x8_3 : Int) := of_decide_eq_true (by first | (with_reducible assumption) | assumption)
                                    have hcut31 := cut_from (P := Try.prog) 22 5 .i64 Try.underlying22 hi031 1 hsz31 Ao32 y159.length co32 x8_3 q031 q31
                                    have hr31 := Kd.C_drop (m := (x8_3 : Int).toNat) (c := co32) hC31 (by omega) hroom31
                                    obtain ⟨A31, hA31⟩ : ∃ A1, A1 = (if co32 = (x8_3 : Int).toNat then Ao32 else (Ao32 : Option Addr).map (·.add ((x8_3 : Int).toNat * 1))) := ⟨_, rfl⟩
                                    obtain ⟨c31, hc31⟩ : ∃ c1, c1 = co32 - (x8_3 : Int).toNat := ⟨_, rfl⟩
                                    have hy31 : y162.length = y159.length - (x8_3 : Int).toNat := (by rw [Ny162.out, List.length_drop] <;> omega)
                                    rw [show (y159).drop (x8_3 : Int).toNat = y162 from Ny162.out.symm] at hr31
                                    replace hr31 : Kd.C (Kd.int .u8) _ A31 y162.length y162 := (by rw [hA31]; exact hr31)
                                    rw [← hy31, ← hA31, ← hc31] at hcut31
                                    have HR165 := Aside0.mk hr31
                                    have HC165 := Aside0.mk (show y162.length ≤ c31 from by rw [hy31, hc31]; exact Nat.sub_le_sub_right hroom31 _)
                                    clear hr31 hC31 hroom31 hi031 hsz31 hc31
                                    have KY31 := Aside0.mk hy31
                                    have KA31 := Aside0.mk hA31
                                    clear hy31 hA31
                                    have KL31 := Aside0.mk (show (x8_3 : Int).toNat ≤ y159.length from by omega)
                                    replace q31 := eq_true q31
                                    go_wp2_with (first | ((with_reducible refine gate_callee (f := 20) rfl ?_); refine goesL_ (some 50) rfl rfl Try.func20 (by kernel_rfl) rfl #[.slice A31 y162.length c31] rfl (by (try simp only [List.map_toArray, List.map_cons, List.map_nil]); first | done | rfl | (simp only [List.length_drop, List.length_take]; rfl)) ?_; (with_reducible refine (varint_Take.calls k3 _ _ y162 t166 t167 t168 _ ?side1 ?side2 A20.out).mono ?_); (case side1 => repeat (first | exact (by repeat (first | (with_reducible exact HR165.out) | (with_reducible refine Kd.C_alloc ?_ _) | (with_reducible refine Kd.C_drewN ?_ _) | (with_reducible refine Kd.C_drew ?_) | exact HR165.out)) | (with_reducible refine Kd.C_alloc ?_ _) | (with_reducible refine Kd.C_drewN ?_ _) | (with_reducible refine Kd.C_drew ?_))); (case side2 => exact HC165.out); rintro e w' ⟨rfl, ⟨nd, rfl⟩⟩; refine ⟨_, rfl, ?_⟩; have p169 : 0 ≤ (x9_3 : Int) := of_decide_eq_true (by first | (with_reducible assumption) | assumption); have q169 : x9_3 < (l0.length : Int) := of_decide_eq_true (by first | (with_reducible assumption) | assumption); obtain ⟨ad169, e169, hx169_0⟩ := Kd.at_int HR0.out x9_3 p169 q169; cases e169; replace hx169_0 := (HB.out.cell (World.block_lt_of_cell? w _ hx169_0)).trans hx169_0; replace p169 := eq_true p169; replace q169 := eq_true q169) | (go_at_call 13; (with_reducible refine (varint_Size.calls t166 t170 _ A23.out).mono ?_); rintro e w' ⟨rfl, ⟨nd, rfl⟩⟩))
                                    go_ret
                                    exact ⟨by first | rfl | (simp [errW_none, errW_some] <;> rfl) | (simp [*, errW_none, errW_some] <;> rfl), by repeat (first | (with_reducible first | exact HB.out | apply below_alloc | apply pw_below_drewN | apply below_drew1) | exact HB.out)⟩
                                · rw [if_neg c24] at H
                                  have c24b0 : (t167 == t170) = false := beq_eq_false_iff_ne.mpr c24
                                  have c24b1 : (t167 != t170) = true := bne_iff_ne.mpr c24
                                  obtain rfl := Option.some.inj H
                                  obtain ⟨Ao34, co34, eo34⟩ := Kd.R_slice HO_5.out
                                  subst eo34
                                  have q33 : (x8_3 : Int) ≤ ((y159.length : Int) : Int) := of_decide_eq_true (by first | (with_reducible assumption) | assumption)
                                  obtain ⟨i033, hi033, _, hsz33, _⟩ := info_parts info5
                                  have hroom33 : y159.length ≤ co34 := (Kd.R_reads' HO_5.out).2.1
                                  have hC33 : Kd.C (Kd.int .u8) _ Ao34 y159.length y159 := (Kd.R_reads' HO_5.out).2.2
                                  have q033 : (0 : Int) ≤ (x8_3 : Int) := of_decide_eq_true (by first | (with_reducible assumption) | assumption)
                                  have hcut33 := cut_from (P := Try.prog) 22 5 .i64 Try.underlying22 hi033 1 hsz33 Ao34 y159.length co34 x8_3 q033 q33
                                  have hr33 := Kd.C_drop (m := (x8_3 : Int).toNat) (c := co34) hC33 (by omega) hroom33
                                  obtain ⟨A33, hA33⟩ : ∃ A1, A1 = (if co34 = (x8_3 : Int).toNat then Ao34 else (Ao34 : Option Addr).map (·.add ((x8_3 : Int).toNat * 1))) := ⟨_, rfl⟩
                                  obtain ⟨c33, hc33⟩ : ∃ c1, c1 = co34 - (x8_3 : Int).toNat := ⟨_, rfl⟩
                                  have hy33 : y162.length = y159.length - (x8_3 : Int).toNat := (by rw [Ny162.out, List.length_drop] <;> omega)
                                  rw [show (y159).drop (x8_3 : Int).toNat = y162 from Ny162.out.symm] at hr33
                                  replace hr33 : Kd.C (Kd.int .u8) _ A33 y162.length y162 := (by rw [hA33]; exact hr33)
                                  rw [← hy33, ← hA33, ← hc33] at hcut33
                                  have HR165 := Aside0.mk hr33
                                  have HC165 := Aside0.mk (show y162.length ≤ c33 from by rw [hy33, hc33]; exact Nat.sub_le_sub_right hroom33 _)
                                  clear hr33 hC33 hroom33 hi033 hsz33 hc33
                                  have KY33 := Aside0.mk hy33
                                  have KA33 := Aside0.mk hA33
                                  clear hy33 hA33
                                  have KL33 := Aside0.mk (show (x8_3 : Int).toNat ≤ y159.length from by omega)
                                  replace q33 := eq_true q33
                                  go_wp2_with (first | ((with_reducible refine gate_callee (f := 20) rfl ?_); refine goesL_ (some 50) rfl rfl Try.func20 (by kernel_rfl) rfl #[.slice A33 y162.length c33] rfl (by (try simp only [List.map_toArray, List.map_cons, List.map_nil]); first | done | rfl | (simp only [List.length_drop, List.length_take]; rfl)) ?_; (with_reducible refine (varint_Take.calls k3 _ _ y162 t166 t167 t168 _ ?side1 ?side2 A20.out).mono ?_); (case side1 => repeat (first | exact (by repeat (first | (with_reducible exact HR165.out) | (with_reducible refine Kd.C_alloc ?_ _) | (with_reducible refine Kd.C_drewN ?_ _) | (with_reducible refine Kd.C_drew ?_) | exact HR165.out)) | (with_reducible refine Kd.C_alloc ?_ _) | (with_reducible refine Kd.C_drewN ?_ _) | (with_reducible refine Kd.C_drew ?_))); (case side2 => exact HC165.out); rintro e w' ⟨rfl, ⟨nd, rfl⟩⟩; refine ⟨_, rfl, ?_⟩; have p169 : 0 ≤ (x9_3 : Int) := of_decide_eq_true (by first | (with_reducible assumption) | assumption); have q169 : x9_3 < (l0.length : Int) := of_decide_eq_true (by first | (with_reducible assumption) | assumption); obtain ⟨ad169, e169, hx169_0⟩ := Kd.at_int HR0.out x9_3 p169 q169; cases e169; replace hx169_0 := (HB.out.cell (World.block_lt_of_cell? w _ hx169_0)).trans hx169_0; replace p169 := eq_true p169; replace q169 := eq_true q169) | (go_at_call 13; (with_reducible refine (varint_Size.calls t166 t170 _ A23.out).mono ?_); rintro e w' ⟨rfl, ⟨nd, rfl⟩⟩))
                                  go_ret
                                  exact ⟨by first | rfl | (simp [errW_none, errW_some] <;> rfl) | (simp [*, errW_none, errW_some] <;> rfl), by repeat (first | (with_reducible first | exact HB.out | apply below_alloc | apply pw_below_drewN | apply below_drew1) | exact HB.out)⟩
                              · rw [if_neg c22] at H
                                have c22b0 : (t166 == (rd l0 x9_3)) = false := beq_eq_false_iff_ne.mpr c22
                                have c22b1 : (t166 != (rd l0 x9_3)) = true := bne_iff_ne.mpr c22
                                obtain rfl := Option.some.inj H
                                obtain ⟨Ao36, co36, eo36⟩ := Kd.R_slice HO_5.out
                                subst eo36
                                have q35 : (x8_3 : Int) ≤ ((y159.length : Int) : Int) := of_decide_eq_true (by first | (with_reducible assumption) | assumption)
                                obtain ⟨i035, hi035, _, hsz35, _⟩ := info_parts info5
                                have hroom35 : y159.length ≤ co36 := (Kd.R_reads' HO_5.out).2.1
                                have hC35 : Kd.C (Kd.int .u8) _ Ao36 y159.length y159 := (Kd.R_reads' HO_5.out).2.2
                                have q035 : (0 : Int) ≤ (x8_3 : Int) := of_decide_eq_true (by first | (with_reducible assumption) | assumption)
                                have hcut35 := cut_from (P := Try.prog) 22 5 .i64 Try.underlying22 hi035 1 hsz35 Ao36 y159.length co36 x8_3 q035 q35
                                have hr35 := Kd.C_drop (m := (x8_3 : Int).toNat) (c := co36) hC35 (by omega) hroom35
                                obtain ⟨A35, hA35⟩ : ∃ A1, A1 = (if co36 = (x8_3 : Int).toNat then Ao36 else (Ao36 : Option Addr).map (·.add ((x8_3 : Int).toNat * 1))) := ⟨_, rfl⟩
                                obtain ⟨c35, hc35⟩ : ∃ c1, c1 = co36 - (x8_3 : Int).toNat := ⟨_, rfl⟩
                                have hy35 : y162.length = y159.length - (x8_3 : Int).toNat := (by rw [Ny162.out, List.length_drop] <;> omega)
                                rw [show (y159).drop (x8_3 : Int).toNat = y162 from Ny162.out.symm] at hr35
                                replace hr35 : Kd.C (Kd.int .u8) _ A35 y162.length y162 := (by rw [hA35]; exact hr35)
                                rw [← hy35, ← hA35, ← hc35] at hcut35
                                have HR165 := Aside0.mk hr35
                                have HC165 := Aside0.mk (show y162.length ≤ c35 from by rw [hy35, hc35]; exact Nat.sub_le_sub_right hroom35 _)
                                clear hr35 hC35 hroom35 hi035 hsz35 hc35
                                have KY35 := Aside0.mk hy35
                                have KA35 := Aside0.mk hA35
                                clear hy35 hA35
                                have KL35 := Aside0.mk (show (x8_3 : Int).toNat ≤ y159.length from by omega)
                                replace q35 := eq_true q35
                                go_wp2_with (first | ((with_reducible refine gate_callee (f := 20) rfl ?_); refine goesL_ (some 50) rfl rfl Try.func20 (by kernel_rfl) rfl #[.slice A35 y162.length c35] rfl (by (try simp only [List.map_toArray, List.map_cons, List.map_nil]); first | done | rfl | (simp only [List.length_drop, List.length_take]; rfl)) ?_; (with_reducible refine (varint_Take.calls k3 _ _ y162 t166 t167 t168 _ ?side1 ?side2 A20.out).mono ?_); (case side1 => repeat (first | exact (by repeat (first | (with_reducible exact HR165.out) | (with_reducible refine Kd.C_alloc ?_ _) | (with_reducible refine Kd.C_drewN ?_ _) | (with_reducible refine Kd.C_drew ?_) | exact HR165.out)) | (with_reducible refine Kd.C_alloc ?_ _) | (with_reducible refine Kd.C_drewN ?_ _) | (with_reducible refine Kd.C_drew ?_))); (case side2 => exact HC165.out); rintro e w' ⟨rfl, ⟨nd, rfl⟩⟩; refine ⟨_, rfl, ?_⟩; have p169 : 0 ≤ (x9_3 : Int) := of_decide_eq_true (by first | (with_reducible assumption) | assumption); have q169 : x9_3 < (l0.length : Int) := of_decide_eq_true (by first | (with_reducible assumption) | assumption); obtain ⟨ad169, e169, hx169_0⟩ := Kd.at_int HR0.out x9_3 p169 q169; cases e169; replace hx169_0 := (HB.out.cell (World.block_lt_of_cell? w _ hx169_0)).trans hx169_0; replace p169 := eq_true p169; replace q169 := eq_true q169))
                                go_ret
                                exact ⟨by first | rfl | (simp [errW_none, errW_some] <;> rfl) | (simp [*, errW_none, errW_some] <;> rfl), by repeat (first | (with_reducible first | exact HB.out | apply below_alloc | apply pw_below_drewN | apply below_drew1) | exact HB.out)⟩
                            · rw [if_neg c21] at H
                              exact absurd H (by simp)
                          · rw [if_neg c19] at H
                            exact absurd H (by simp)
                        · rw [if_neg c18] at H
                          exact absurd H (by simp)
                      · rw [if_neg c17] at H
                        have c17b0 : decide (x9_3 < (l0.length : Int)) = false := decide_eq_false c17
                        clear c17
                        obtain rfl := Option.some.inj H
                        go_wp2
                        go_ret
                        exact ⟨by first | rfl | (simp [errW_none, errW_some] <;> rfl) | (simp [*, errW_none, errW_some] <;> rfl), by repeat (first | (with_reducible first | exact HB.out | apply below_alloc | apply pw_below_drewN | apply below_drew1) | exact HB.out)⟩
                · rw [if_neg c14] at H
                  exact absurd H (by simp)
  · replace c4 := Bool.eq_false_iff.mpr c4
    subst c4
    have H1 : (some false) = some r := by rw [if_neg (show ¬ (false = true) by decide)] at H; exact H
    clear H
    have H := H1
    clear H1
    obtain rfl := Option.some.inj H
    go_enter Try.func5, Try.ntmps5
    go_wp2_with (first | ((with_reducible refine gate_callee (f := 9) rfl ?_); refine goesL_ (some 13) rfl rfl Try.func9 (by kernel_rfl) rfl #[] rfl (by (try simp only [List.map_toArray, List.map_cons, List.map_nil]); first | done | rfl | (simp only [List.length_drop, List.length_take]; rfl)) ?_; (with_reducible refine (stratumlaw02_lives.calls k  false _ A3.out).mono ?_); rintro e w37 ⟨rfl, hb⟩; refine ⟨_, rfl, ?_⟩; have n0_ := Aside0.mk (below_step (by repeat (first | (with_reducible first | exact HB.out | apply below_alloc | apply pw_below_drewN | apply below_drew1) | exact HB.out)) hb); clear HB; have HB := n0_; clear n0_; (try clear hb); (try clear hb2); (try clear hk); (try clear hi)))
    go_ret
    exact ⟨by first | rfl | (simp [errW_none, errW_some] <;> rfl) | (simp [*, errW_none, errW_some] <;> rfl), by repeat (first | (with_reducible first | exact HB.out | apply below_alloc | apply pw_below_drewN | apply below_drew1) | exact HB.out)⟩

/-- THE ONE PURE STATEMENT of stratumlaw02_VarintBack: yours. -/
def stratumlaw02_VarintBack.Pure : Prop := ∀ (l0 : List Int) (l1 : List Int), l0.length ≤ maxLen → l0.length * 8 ≤ 140737488351232 → (∀ x ∈ l0, (Lit.int .u64 x).wf = true) → l1.length ≤ maxLen → l1.length * 1 ≤ 140737488351232 → (∀ x ∈ l1, (Lit.int .u8 x).wf = true) → ∃ k, stratumlaw02_VarintBack.f k l0 l1 = some true
theorem stratumlaw02_VarintBack.walk (P : stratumlaw02_VarintBack.Pure) (a0 : Option Addr) (len0 cap0 : Nat) (z0 : List Int) (a1 : Option Addr) (len1 cap1 : Nat) (z1 : List Int) (w : World) (w0 : (a0 = none ∧ len0 = 0 ∧ cap0 = 0 ∧ z0 = []) ∨ ∃ x, a0 = some x ∧ len0 ≤ cap0 ∧ cap0 ≤ maxLen ∧ z0.length = cap0 ∧ (∀ i, i < z0.length → w.cell? (x.add i) = some (.int .u64 (z0.getD i 0))) ∧ ∀ n ∈ z0, (Lit.int .u64 n).wf = true) (y0 : len0 * 8 ≤ 140737488351232) (w1 : (a1 = none ∧ len1 = 0 ∧ cap1 = 0 ∧ z1 = []) ∨ ∃ x, a1 = some x ∧ len1 ≤ cap1 ∧ cap1 ≤ maxLen ∧ z1.length = cap1 ∧ (∀ i, i < z1.length → w.cell? (x.add i) = some (.int .u8 (z1.getD i 0))) ∧ ∀ n ∈ z1, (Lit.int .u8 n).wf = true) (y1 : len1 * 1 ≤ 140737488351232) :
    Calls Try.prog 5 #[.slice a0 len0 cap0, .slice a1 len1 cap1] w fun e w' => e = .returned (.bool true) ∧ Below w.heap.size w w' := by
  obtain ⟨l0, rfl, hr0, hm0, hw0, hc0⟩ := ReadsInt.ofRowC w0
  obtain ⟨l1, rfl, hr1, hm1, hw1, hc1⟩ := ReadsInt.ofRowC w1
  obtain ⟨k, h⟩ := P l0 l1 hm0 y0 hw0 hm1 y1 hw1
  refine (stratumlaw02_VarintBack.calls k _ _ l0 _ _ l1 true w (Kd.C_of_reads (d := (0 : Int)) (h1 := fun _ => rfl) hr0) hc0 (Kd.C_of_reads (d := (0 : Int)) (h1 := fun _ => rfl) hr1) hc1 h).mono ?_
  rintro e w' ⟨rfl, hd⟩
  exact ⟨rfl, hd⟩

-- NOT PRINTED: function 6 (stratumlaw02_VarintOne)

end Go.Proofs.Ytjcbeihedbhodaa.X
