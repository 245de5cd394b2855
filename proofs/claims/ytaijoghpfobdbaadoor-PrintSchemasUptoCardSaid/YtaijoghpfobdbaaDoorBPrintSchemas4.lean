/- The texts of the law PrintSchemas, put together by a program of this workplace out of its own texts and of what the kit's print has written: walks of the functions, plain laws. No condition but those in the theorems. -/
import Derived.Test.YtaijoghpfobdbaaDoorBPrintSchemas0
import Derived.Test.YtaijoghpfobdbaaDoorBPrintSchemas1
import Derived.Test.YtaijoghpfobdbaaDoorBPrintSchemas2
import Derived.Test.YtaijoghpfobdbaaDoorBPrintSchemas3
section
namespace Go.Proofs.YtaijoghpfobdbaaDoor.X
open Go.RowKit Go.Proofs.YtaijoghpfobdbaaDoorW.PrintWords Go.Proofs.YtaijoghpfobdbaaDoorW.PrintLast Go.Proofs.YtaijoghpfobdbaaDoorW.PrintMore
attribute [local go_sem] max2_int min2_int max_two min_two max_three min_three max_four min_four   -- for this text's walks alone
set_option linter.unusedVariables false
set_option linter.unusedSimpArgs false
def stratumref10_ahead.j0 : Nat → Int → Bool → Option (ByteArray)
  | 0, _, _ => none
  | k + 1, x4, x21 => if x21 = true then (some (⟨#[40]⟩ : ByteArray)) else (if x4 = 9 then (some (⟨#[99, 97, 116, 40]⟩ : ByteArray)) else (if x4 = 10 then (some (⟨#[114, 101, 112, 40]⟩ : ByteArray)) else (if x4 = 11 then (some (⟨#[108, 101, 110, 40]⟩ : ByteArray)) else (some (⟨#[104, 101, 120, 40]⟩ : ByteArray)))))
def stratumref10_ahead.f (k : Nat) (a0_0 : Int) (a0_1 : Int) (a0_2 : Int) (a0_3 : ByteArray) (a0_4 : Int) : Option (ByteArray) := if a0_0 = 1 then ((stratumref10_digits.f k a0_2).bind fun t262 => (some t262)) else (if a0_0 = 2 then ((stratumref10_Quote.f k a0_3).bind fun t263 => (some t263)) else (if a0_0 = 3 then (some (⟨#[116, 114, 117, 101]⟩ : ByteArray)) else (if a0_0 = 4 then (some (⟨#[102, 97, 108, 115, 101]⟩ : ByteArray)) else (if a0_0 = 5 then (some (⟨#[45]⟩ : ByteArray)) else (if a0_0 = 6 then (stratumref10_ahead.j0 k a0_0 (a0_0 == 6)) else (if a0_0 = 7 then (stratumref10_ahead.j0 k a0_0 (a0_0 == 7)) else (stratumref10_ahead.j0 k a0_0 (a0_0 == 8))))))))
set_option maxHeartbeats 8000000 in
set_option maxRecDepth 100000 in
theorem stratumref10_ahead.calls (k : Nat) (a0_0 : Int) (a0_1 : Int) (a0_2 : Int) (a0_3 : ByteArray) (a0_4 : Int) (r : ByteArray) (w : World) (h : stratumref10_ahead.f k a0_0 a0_1 a0_2 a0_3 a0_4 = some r) :
    Calls Tryd.prog 72 #[.agg #[.int .i64 a0_0, .int .i64 a0_1, .int .u64 a0_2, .string a0_3, .int .i64 a0_4]] w fun e w' => e = .returned (.string r) ∧ Below w.heap.size w w' := by
  have hu46 := Tryd.underlying46
  have HB := Aside0.mk (Below.refl w.heap.size w)
  have H : (if a0_0 = 1 then ((stratumref10_digits.f k a0_2).bind fun t262 => (some t262)) else (if a0_0 = 2 then ((stratumref10_Quote.f k a0_3).bind fun t263 => (some t263)) else (if a0_0 = 3 then (some (⟨#[116, 114, 117, 101]⟩ : ByteArray)) else (if a0_0 = 4 then (some (⟨#[102, 97, 108, 115, 101]⟩ : ByteArray)) else (if a0_0 = 5 then (some (⟨#[45]⟩ : ByteArray)) else (if a0_0 = 6 then (stratumref10_ahead.j0 k a0_0 (a0_0 == 6)) else (if a0_0 = 7 then (stratumref10_ahead.j0 k a0_0 (a0_0 == 7)) else (stratumref10_ahead.j0 k a0_0 (a0_0 == 8))))))))) = some r := h
  clear h
  by_cases c2 : a0_0 = 1
  · rw [if_pos c2] at H
    have c2b0 : (a0_0 == 1) = true := beq_iff_eq.mpr c2
    have c2b1 : (a0_0 != 1) = false := bne_eq_false_iff_eq.mpr c2
    clear c2
    replace H := Option.bind_eq_some_iff.mp H
    obtain ⟨t262, A30, H⟩ := H
    replace H : (some t262) = some r := H
    have A3 := Aside0.mk A30
    clear A30
    obtain rfl := Option.some.inj H
    go_enter Tryd.func72, Tryd.ntmps72
    go_wp2_with (first | ((with_reducible refine gate_dst (N := 1) rfl ?_); refine box_event ?hg (N := 1) ?hd (cs := #[.int .i64 a0_0, .int .i64 a0_1, .int .u64 a0_2, .string a0_3, .int .i64 a0_4]) (t := 46) ?hr ?_; (case hd => rfl); (case hg => rfl); (case hr => first | (go_simp; done) | (go_simp; rfl)); intro gb261 hg w4 hbox hb; have n0_ := Aside0.mk (below_step (by repeat (first | (with_reducible first | exact HB.out | apply below_alloc | apply pw_below_drewN | apply below_drew1) | exact HB.out)) hb); have n1_ := Aside0.mk (hbox); have n2_ := Aside0.mk ((by rw [hg]; exact (below_size (by repeat (first | (with_reducible first | exact HB.out | apply below_alloc | apply pw_below_drewN | apply below_drew1) | exact HB.out))) : w.heap.size ≤ gb261)); have n3_ := Aside0.mk ((by rw [hg]; exact (below_size (by repeat (first | (with_reducible first | exact HB.out | apply below_alloc | apply pw_below_drewN | apply below_drew1) | exact HB.out))) : w.heap.size ≤ gb261)); clear HB; have HB := n0_; have BK261 := n1_; have GW261 := n2_; have GE261 := n3_; clear n0_ n1_ n2_ n3_; clear hb hbox hg; have hcz5_0 : w4.cell? ⟨gb261, 0, none⟩ = some (.int .i64 a0_0) := (blk_cell BK261.out 0).trans rfl; have hcz5_1 : w4.cell? ⟨gb261, 1, none⟩ = some (.int .i64 a0_1) := (blk_cell BK261.out 1).trans rfl; have hcz5_2 : w4.cell? ⟨gb261, 2, none⟩ = some (.int .u64 a0_2) := (blk_cell BK261.out 2).trans rfl; have hcz5_3 : w4.cell? ⟨gb261, 3, none⟩ = some (.string a0_3) := (blk_cell BK261.out 3).trans rfl; have hcz5_4 : w4.cell? ⟨gb261, 4, none⟩ = some (.int .i64 a0_4) := (blk_cell BK261.out 4).trans rfl; have hfz5_0 := blk_frozen BK261.out 0; have hfz5_1 := blk_frozen BK261.out 1; have hfz5_2 := blk_frozen BK261.out 2; have hfz5_3 := blk_frozen BK261.out 3; have hfz5_4 := blk_frozen BK261.out 4) | ((with_reducible refine gate_callee (f := 43) rfl ?_); refine goesL_ (some 9) rfl rfl Tryd.func43 (by kernel_rfl) rfl #[.int .u64 a0_2] rfl (by (try simp only [List.map_toArray, List.map_cons, List.map_nil]); first | done | rfl | (simp only [List.length_drop, List.length_take]; rfl)) ?_; (with_reducible refine (stratumref10_digits.calls k a0_2 t262 _ A3.out).mono ?_); rintro e w6 ⟨rfl, hb⟩; refine ⟨_, rfl, ?_⟩; have n0_ := Aside0.mk (blk_below (g := gb261) (o := .cells #[.int .i64 a0_0, .int .i64 a0_1, .int .u64 a0_2, .string a0_3, .int .i64 a0_4] 46 (0, 0)) (by (with_reducible repeat (first | refine blk_drewN ?_ _ | refine blk_drew ?_ | refine blk_alloc ?_ _)); exact BK261.out) hb); have n1_ := Aside0.mk (below_step (by repeat (first | (with_reducible first | exact HB.out | apply below_alloc | apply pw_below_drewN | apply below_drew1 | refine below_set ?_ GE261.out) | exact HB.out)) hb); clear BK261; clear HB; have BK261 := n0_; have HB := n1_; clear n0_ n1_; (try clear hb); (try clear hb2); (try clear hk); (try clear hi)))
    go_ret
    exact ⟨by first | rfl | (simp [errW_none, errW_some] <;> rfl) | (simp [*, errW_none, errW_some] <;> rfl), by repeat (first | (with_reducible first | exact HB.out | apply below_alloc | apply pw_below_drewN | apply below_drew1 | refine below_set ?_ GE261.out) | exact HB.out)⟩
  · rw [if_neg c2] at H
    have c2b0 : (a0_0 == 1) = false := beq_eq_false_iff_ne.mpr c2
    have c2b1 : (a0_0 != 1) = true := bne_iff_ne.mpr c2
    by_cases c7 : a0_0 = 2
    · rw [if_pos c7] at H
      have c7b0 : (a0_0 == 2) = true := beq_iff_eq.mpr c7
      have c7b1 : (a0_0 != 2) = false := bne_eq_false_iff_eq.mpr c7
      clear c7
      replace H := Option.bind_eq_some_iff.mp H
      obtain ⟨t263, A80, H⟩ := H
      replace H : (some t263) = some r := H
      have A8 := Aside0.mk A80
      clear A80
      obtain rfl := Option.some.inj H
      go_enter Tryd.func72, Tryd.ntmps72
      go_wp2_with (first | ((with_reducible refine gate_dst (N := 1) rfl ?_); refine box_event ?hg (N := 1) ?hd (cs := #[.int .i64 a0_0, .int .i64 a0_1, .int .u64 a0_2, .string a0_3, .int .i64 a0_4]) (t := 46) ?hr ?_; (case hd => rfl); (case hg => rfl); (case hr => first | (go_simp; done) | (go_simp; rfl)); intro gb261 hg w9 hbox hb; have n0_ := Aside0.mk (below_step (by repeat (first | (with_reducible first | exact HB.out | apply below_alloc | apply pw_below_drewN | apply below_drew1) | exact HB.out)) hb); have n1_ := Aside0.mk (hbox); have n2_ := Aside0.mk ((by rw [hg]; exact (below_size (by repeat (first | (with_reducible first | exact HB.out | apply below_alloc | apply pw_below_drewN | apply below_drew1) | exact HB.out))) : w.heap.size ≤ gb261)); have n3_ := Aside0.mk ((by rw [hg]; exact (below_size (by repeat (first | (with_reducible first | exact HB.out | apply below_alloc | apply pw_below_drewN | apply below_drew1) | exact HB.out))) : w.heap.size ≤ gb261)); clear HB; have HB := n0_; have BK261 := n1_; have GW261 := n2_; have GE261 := n3_; clear n0_ n1_ n2_ n3_; clear hb hbox hg; have hcz10_0 : w9.cell? ⟨gb261, 0, none⟩ = some (.int .i64 a0_0) := (blk_cell BK261.out 0).trans rfl; have hcz10_1 : w9.cell? ⟨gb261, 1, none⟩ = some (.int .i64 a0_1) := (blk_cell BK261.out 1).trans rfl; have hcz10_2 : w9.cell? ⟨gb261, 2, none⟩ = some (.int .u64 a0_2) := (blk_cell BK261.out 2).trans rfl; have hcz10_3 : w9.cell? ⟨gb261, 3, none⟩ = some (.string a0_3) := (blk_cell BK261.out 3).trans rfl; have hcz10_4 : w9.cell? ⟨gb261, 4, none⟩ = some (.int .i64 a0_4) := (blk_cell BK261.out 4).trans rfl; have hfz10_0 := blk_frozen BK261.out 0; have hfz10_1 := blk_frozen BK261.out 1; have hfz10_2 := blk_frozen BK261.out 2; have hfz10_3 := blk_frozen BK261.out 3; have hfz10_4 := blk_frozen BK261.out 4) | ((with_reducible refine gate_callee (f := 75) rfl ?_); refine goesL_ (some 14) rfl rfl Tryd.func75 (by kernel_rfl) rfl #[.string a0_3] rfl (by (try simp only [List.map_toArray, List.map_cons, List.map_nil]); first | done | rfl | (simp only [List.length_drop, List.length_take]; rfl)) ?_; (with_reducible refine (stratumref10_Quote.calls k a0_3 t263 _ A8.out).mono ?_); rintro e w11 ⟨rfl, hb⟩; refine ⟨_, rfl, ?_⟩; have n0_ := Aside0.mk (blk_below (g := gb261) (o := .cells #[.int .i64 a0_0, .int .i64 a0_1, .int .u64 a0_2, .string a0_3, .int .i64 a0_4] 46 (0, 0)) (by (with_reducible repeat (first | refine blk_drewN ?_ _ | refine blk_drew ?_ | refine blk_alloc ?_ _)); exact BK261.out) hb); have n1_ := Aside0.mk (below_step (by repeat (first | (with_reducible first | exact HB.out | apply below_alloc | apply pw_below_drewN | apply below_drew1 | refine below_set ?_ GE261.out) | exact HB.out)) hb); clear BK261; clear HB; have BK261 := n0_; have HB := n1_; clear n0_ n1_; (try clear hb); (try clear hb2); (try clear hk); (try clear hi)))
      go_ret
      exact ⟨by first | rfl | (simp [errW_none, errW_some] <;> rfl) | (simp [*, errW_none, errW_some] <;> rfl), by repeat (first | (with_reducible first | exact HB.out | apply below_alloc | apply pw_below_drewN | apply below_drew1 | refine below_set ?_ GE261.out) | exact HB.out)⟩
    · rw [if_neg c7] at H
      have c7b0 : (a0_0 == 2) = false := beq_eq_false_iff_ne.mpr c7
      have c7b1 : (a0_0 != 2) = true := bne_iff_ne.mpr c7
      by_cases c12 : a0_0 = 3
      · rw [if_pos c12] at H
        have c12b0 : (a0_0 == 3) = true := beq_iff_eq.mpr c12
        have c12b1 : (a0_0 != 3) = false := bne_eq_false_iff_eq.mpr c12
        clear c12
        obtain rfl := Option.some.inj H
        go_enter Tryd.func72, Tryd.ntmps72
        go_wp2_with (first | ((with_reducible refine gate_dst (N := 1) rfl ?_); refine box_event ?hg (N := 1) ?hd (cs := #[.int .i64 a0_0, .int .i64 a0_1, .int .u64 a0_2, .string a0_3, .int .i64 a0_4]) (t := 46) ?hr ?_; (case hd => rfl); (case hg => rfl); (case hr => first | (go_simp; done) | (go_simp; rfl)); intro gb261 hg w13 hbox hb; have n0_ := Aside0.mk (below_step (by repeat (first | (with_reducible first | exact HB.out | apply below_alloc | apply pw_below_drewN | apply below_drew1) | exact HB.out)) hb); have n1_ := Aside0.mk (hbox); have n2_ := Aside0.mk ((by rw [hg]; exact (below_size (by repeat (first | (with_reducible first | exact HB.out | apply below_alloc | apply pw_below_drewN | apply below_drew1) | exact HB.out))) : w.heap.size ≤ gb261)); have n3_ := Aside0.mk ((by rw [hg]; exact (below_size (by repeat (first | (with_reducible first | exact HB.out | apply below_alloc | apply pw_below_drewN | apply below_drew1) | exact HB.out))) : w.heap.size ≤ gb261)); clear HB; have HB := n0_; have BK261 := n1_; have GW261 := n2_; have GE261 := n3_; clear n0_ n1_ n2_ n3_; clear hb hbox hg; have hcz14_0 : w13.cell? ⟨gb261, 0, none⟩ = some (.int .i64 a0_0) := (blk_cell BK261.out 0).trans rfl; have hcz14_1 : w13.cell? ⟨gb261, 1, none⟩ = some (.int .i64 a0_1) := (blk_cell BK261.out 1).trans rfl; have hcz14_2 : w13.cell? ⟨gb261, 2, none⟩ = some (.int .u64 a0_2) := (blk_cell BK261.out 2).trans rfl; have hcz14_3 : w13.cell? ⟨gb261, 3, none⟩ = some (.string a0_3) := (blk_cell BK261.out 3).trans rfl; have hcz14_4 : w13.cell? ⟨gb261, 4, none⟩ = some (.int .i64 a0_4) := (blk_cell BK261.out 4).trans rfl; have hfz14_0 := blk_frozen BK261.out 0; have hfz14_1 := blk_frozen BK261.out 1; have hfz14_2 := blk_frozen BK261.out 2; have hfz14_3 := blk_frozen BK261.out 3; have hfz14_4 := blk_frozen BK261.out 4))
        go_ret
        exact ⟨by first | rfl | (simp [errW_none, errW_some] <;> rfl) | (simp [*, errW_none, errW_some] <;> rfl), by repeat (first | (with_reducible first | exact HB.out | apply below_alloc | apply pw_below_drewN | apply below_drew1 | refine below_set ?_ GE261.out) | exact HB.out)⟩
      · rw [if_neg c12] at H
        have c12b0 : (a0_0 == 3) = false := beq_eq_false_iff_ne.mpr c12
        have c12b1 : (a0_0 != 3) = true := bne_iff_ne.mpr c12
        by_cases c15 : a0_0 = 4
        · rw [if_pos c15] at H
          have c15b0 : (a0_0 == 4) = true := beq_iff_eq.mpr c15
          have c15b1 : (a0_0 != 4) = false := bne_eq_false_iff_eq.mpr c15
          clear c15
          obtain rfl := Option.some.inj H
          go_enter Tryd.func72, Tryd.ntmps72
          go_wp2_with (first | ((with_reducible refine gate_dst (N := 1) rfl ?_); refine box_event ?hg (N := 1) ?hd (cs := #[.int .i64 a0_0, .int .i64 a0_1, .int .u64 a0_2, .string a0_3, .int .i64 a0_4]) (t := 46) ?hr ?_; (case hd => rfl); (case hg => rfl); (case hr => first | (go_simp; done) | (go_simp; rfl)); intro gb261 hg w16 hbox hb; have n0_ := Aside0.mk (below_step (by repeat (first | (with_reducible first | exact HB.out | apply below_alloc | apply pw_below_drewN | apply below_drew1) | exact HB.out)) hb); have n1_ := Aside0.mk (hbox); have n2_ := Aside0.mk ((by rw [hg]; exact (below_size (by repeat (first | (with_reducible first | exact HB.out | apply below_alloc | apply pw_below_drewN | apply below_drew1) | exact HB.out))) : w.heap.size ≤ gb261)); have n3_ := Aside0.mk ((by rw [hg]; exact (below_size (by repeat (first | (with_reducible first | exact HB.out | apply below_alloc | apply pw_below_drewN | apply below_drew1) | exact HB.out))) : w.heap.size ≤ gb261)); clear HB; have HB := n0_; have BK261 := n1_; have GW261 := n2_; have GE261 := n3_; clear n0_ n1_ n2_ n3_; clear hb hbox hg; have hcz17_0 : w16.cell? ⟨gb261, 0, none⟩ = some (.int .i64 a0_0) := (blk_cell BK261.out 0).trans rfl; have hcz17_1 : w16.cell? ⟨gb261, 1, none⟩ = some (.int .i64 a0_1) := (blk_cell BK261.out 1).trans rfl; have hcz17_2 : w16.cell? ⟨gb261, 2, none⟩ = some (.int .u64 a0_2) := (blk_cell BK261.out 2).trans rfl; have hcz17_3 : w16.cell? ⟨gb261, 3, none⟩ = some (.string a0_3) := (blk_cell BK261.out 3).trans rfl; have hcz17_4 : w16.cell? ⟨gb261, 4, none⟩ = some (.int .i64 a0_4) := (blk_cell BK261.out 4).trans rfl; have hfz17_0 := blk_frozen BK261.out 0; have hfz17_1 := blk_frozen BK261.out 1; have hfz17_2 := blk_frozen BK261.out 2; have hfz17_3 := blk_frozen BK261.out 3; have hfz17_4 := blk_frozen BK261.out 4))
          go_ret
          exact ⟨by first | rfl | (simp [errW_none, errW_some] <;> rfl) | (simp [*, errW_none, errW_some] <;> rfl), by repeat (first | (with_reducible first | exact HB.out | apply below_alloc | apply pw_below_drewN | apply below_drew1 | refine below_set ?_ GE261.out) | exact HB.out)⟩
        · rw [if_neg c15] at H
          have c15b0 : (a0_0 == 4) = false := beq_eq_false_iff_ne.mpr c15
          have c15b1 : (a0_0 != 4) = true := bne_iff_ne.mpr c15
          by_cases c18 : a0_0 = 5
          · rw [if_pos c18] at H
            have c18b0 : (a0_0 == 5) = true := beq_iff_eq.mpr c18
            have c18b1 : (a0_0 != 5) = false := bne_eq_false_iff_eq.mpr c18
            clear c18
            obtain rfl := Option.some.inj H
            go_enter Tryd.func72, Tryd.ntmps72
            go_wp2_with (first | ((with_reducible refine gate_dst (N := 1) rfl ?_); refine box_event ?hg (N := 1) ?hd (cs := #[.int .i64 a0_0, .int .i64 a0_1, .int .u64 a0_2, .string a0_3, .int .i64 a0_4]) (t := 46) ?hr ?_; (case hd => rfl); (case hg => rfl); (case hr => first | (go_simp; done) | (go_simp; rfl)); intro gb261 hg w19 hbox hb; have n0_ := Aside0.mk (below_step (by repeat (first | (with_reducible first | exact HB.out | apply below_alloc | apply pw_below_drewN | apply below_drew1) | exact HB.out)) hb); have n1_ := Aside0.mk (hbox); have n2_ := Aside0.mk ((by rw [hg]; exact (below_size (by repeat (first | (with_reducible first | exact HB.out | apply below_alloc | apply pw_below_drewN | apply below_drew1) | exact HB.out))) : w.heap.size ≤ gb261)); have n3_ := Aside0.mk ((by rw [hg]; exact (below_size (by repeat (first | (with_reducible first | exact HB.out | apply below_alloc | apply pw_below_drewN | apply below_drew1) | exact HB.out))) : w.heap.size ≤ gb261)); clear HB; have HB := n0_; have BK261 := n1_; have GW261 := n2_; have GE261 := n3_; clear n0_ n1_ n2_ n3_; clear hb hbox hg; have hcz20_0 : w19.cell? ⟨gb261, 0, none⟩ = some (.int .i64 a0_0) := (blk_cell BK261.out 0).trans rfl; have hcz20_1 : w19.cell? ⟨gb261, 1, none⟩ = some (.int .i64 a0_1) := (blk_cell BK261.out 1).trans rfl; have hcz20_2 : w19.cell? ⟨gb261, 2, none⟩ = some (.int .u64 a0_2) := (blk_cell BK261.out 2).trans rfl; have hcz20_3 : w19.cell? ⟨gb261, 3, none⟩ = some (.string a0_3) := (blk_cell BK261.out 3).trans rfl; have hcz20_4 : w19.cell? ⟨gb261, 4, none⟩ = some (.int .i64 a0_4) := (blk_cell BK261.out 4).trans rfl; have hfz20_0 := blk_frozen BK261.out 0; have hfz20_1 := blk_frozen BK261.out 1; have hfz20_2 := blk_frozen BK261.out 2; have hfz20_3 := blk_frozen BK261.out 3; have hfz20_4 := blk_frozen BK261.out 4))
            go_ret
            exact ⟨by first | rfl | (simp [errW_none, errW_some] <;> rfl) | (simp [*, errW_none, errW_some] <;> rfl), by repeat (first | (with_reducible first | exact HB.out | apply below_alloc | apply pw_below_drewN | apply below_drew1 | refine below_set ?_ GE261.out) | exact HB.out)⟩
          · rw [if_neg c18] at H
            have c18b0 : (a0_0 == 5) = false := beq_eq_false_iff_ne.mpr c18
            have c18b1 : (a0_0 != 5) = true := bne_iff_ne.mpr c18
            have HC21 := Aside0.mk H
            clear H
            go_enter Tryd.func72, Tryd.ntmps72
            go_upto_if 21 with (first | ((with_reducible refine gate_dst (N := 1) rfl ?_); refine box_event ?hg (N := 1) ?hd (cs := #[.int .i64 a0_0, .int .i64 a0_1, .int .u64 a0_2, .string a0_3, .int .i64 a0_4]) (t := 46) ?hr ?_; (case hd => rfl); (case hg => rfl); (case hr => first | (go_simp; done) | (go_simp; rfl)); intro gb261 hg w22 hbox hb; have n0_ := Aside0.mk (below_step (by repeat (first | (with_reducible first | exact HB.out | apply below_alloc | apply pw_below_drewN | apply below_drew1) | exact HB.out)) hb); have n1_ := Aside0.mk (hbox); have n2_ := Aside0.mk ((by rw [hg]; exact (below_size (by repeat (first | (with_reducible first | exact HB.out | apply below_alloc | apply pw_below_drewN | apply below_drew1) | exact HB.out))) : w.heap.size ≤ gb261)); have n3_ := Aside0.mk ((by rw [hg]; exact (below_size (by repeat (first | (with_reducible first | exact HB.out | apply below_alloc | apply pw_below_drewN | apply below_drew1) | exact HB.out))) : w.heap.size ≤ gb261)); clear HB; have HB := n0_; have BK261 := n1_; have GW261 := n2_; have GE261 := n3_; clear n0_ n1_ n2_ n3_; clear hb hbox hg; have hcz23_0 : w22.cell? ⟨gb261, 0, none⟩ = some (.int .i64 a0_0) := (blk_cell BK261.out 0).trans rfl; have hcz23_1 : w22.cell? ⟨gb261, 1, none⟩ = some (.int .i64 a0_1) := (blk_cell BK261.out 1).trans rfl; have hcz23_2 : w22.cell? ⟨gb261, 2, none⟩ = some (.int .u64 a0_2) := (blk_cell BK261.out 2).trans rfl; have hcz23_3 : w22.cell? ⟨gb261, 3, none⟩ = some (.string a0_3) := (blk_cell BK261.out 3).trans rfl; have hcz23_4 : w22.cell? ⟨gb261, 4, none⟩ = some (.int .i64 a0_4) := (blk_cell BK261.out 4).trans rfl; have hfz23_0 := blk_frozen BK261.out 0; have hfz23_1 := blk_frozen BK261.out 1; have hfz23_2 := blk_frozen BK261.out 2; have hfz23_3 := blk_frozen BK261.out 3; have hfz23_4 := blk_frozen BK261.out 4))
            (try simp only [Act.put, List.setIfInBounds_toArray, List.set_cons_zero, List.set_cons_succ])
            go_cut [21] (fun v21 wc => ∃ (kq : Nat) (x21_20 : Bool), v21 = .bool x21_20 ∧ Aside0 (stratumref10_ahead.j0 kq a0_0 x21_20 = some r) ∧ Aside0 (kq ≤ k) ∧ Aside0 (wc.heap[gb261]? = some (.cells #[.int .i64 a0_0, .int .i64 a0_1, .int .u64 a0_2, .string a0_3, .int .i64 a0_4] 46 (0, 0))) ∧ Aside0 (Below w.heap.size w wc))
            case first =>
              have H := HC21.out
              clear HC21
              by_cases c24 : a0_0 = 6
              · rw [if_pos c24] at H
                have c24b0 : (a0_0 == 6) = true := beq_iff_eq.mpr c24
                have c24b1 : (a0_0 != 6) = false := bne_eq_false_iff_eq.mpr c24
                clear c24
                (first | rw [c24b0] | (simp only [i64_w, i32_w]; rw [c24b0]) | skip)
                have H' := Aside0.mk H
                clear H
                go_wp2
                go_meet
                case rel => exact ⟨_, ((a0_0 == 6)), (by first | rfl | (simp; done) | (simp [*]; done)), H', ⟨by first | omega | exact Nat.le_refl _⟩, ⟨by (with_reducible repeat (first | refine blk_drewN ?_ _ | refine blk_drew ?_ | refine blk_alloc ?_ _)); exact BK261.out⟩, ⟨by repeat (first | (with_reducible first | exact HB.out | apply below_alloc | apply pw_below_drewN | apply below_drew1 | refine below_set ?_ GE261.out) | exact HB.out)⟩⟩
              · rw [if_neg c24] at H
                have c24b0 : (a0_0 == 6) = false := beq_eq_false_iff_ne.mpr c24
                have c24b1 : (a0_0 != 6) = true := bne_iff_ne.mpr c24
                (first | rw [c24b0] | (simp only [i64_w, i32_w]; rw [c24b0]) | skip)
                by_cases c25 : a0_0 = 7
                · rw [if_pos c25] at H
                  have c25b0 : (a0_0 == 7) = true := beq_iff_eq.mpr c25
                  have c25b1 : (a0_0 != 7) = false := bne_eq_false_iff_eq.mpr c25
                  clear c25
                  have H' := Aside0.mk H
                  clear H
                  go_wp2
                  go_meet
                  case rel => exact ⟨_, ((a0_0 == 7)), (by first | rfl | (simp; done) | (simp [*]; done)), H', ⟨by first | omega | exact Nat.le_refl _⟩, ⟨by (with_reducible repeat (first | refine blk_drewN ?_ _ | refine blk_drew ?_ | refine blk_alloc ?_ _)); exact BK261.out⟩, ⟨by repeat (first | (with_reducible first | exact HB.out | apply below_alloc | apply pw_below_drewN | apply below_drew1 | refine below_set ?_ GE261.out) | exact HB.out)⟩⟩
                · rw [if_neg c25] at H
                  have c25b0 : (a0_0 == 7) = false := beq_eq_false_iff_ne.mpr c25
                  have c25b1 : (a0_0 != 7) = true := bne_iff_ne.mpr c25
                  have H' := Aside0.mk H
                  clear H
                  go_wp2
                  go_meet
                  case rel => exact ⟨_, ((a0_0 == 8)), (by first | rfl | (simp; done) | (simp [*]; done)), H', ⟨by first | omega | exact Nat.le_refl _⟩, ⟨by (with_reducible repeat (first | refine blk_drewN ?_ _ | refine blk_drew ?_ | refine blk_alloc ?_ _)); exact BK261.out⟩, ⟨by repeat (first | (with_reducible first | exact HB.out | apply below_alloc | apply pw_below_drewN | apply below_drew1 | refine below_set ?_ GE261.out) | exact HB.out)⟩⟩
            case rest =>
              clear HC21
              try clear c1
              try clear c2
              try clear c2b0
              try clear c2b1
              try clear p2
              try clear c4
              try clear c7
              try clear c7b0
              try clear c7b1
              try clear c12
              try clear c12b0
              try clear c12b1
              try clear c15
              try clear c15b0
              try clear c15b1
              try clear c18
              try clear c18b0
              try clear c18b1
              try clear c24
              try clear c24b0
              try clear c24b1
              try clear c25
              try clear c25b0
              try clear c25b1
              try clear hcz10_0
              try clear hcz10_1
              try clear hcz10_2
              try clear hcz10_3
              try clear hcz10_4
              try clear hcz14_0
              try clear hcz14_1
              try clear hcz14_2
              try clear hcz14_3
              try clear hcz14_4
              try clear hcz17_0
              try clear hcz17_1
              try clear hcz17_2
              try clear hcz17_3
              try clear hcz17_4
              try clear hcz20_0
              try clear hcz20_1
              try clear hcz20_2
              try clear hcz20_3
              try clear hcz20_4
              try clear hcz23_0
              try clear hcz23_1
              try clear hcz23_2
              try clear hcz23_3
              try clear hcz23_4
              try clear hcz5_0
              try clear hcz5_1
              try clear hcz5_2
              try clear hcz5_3
              try clear hcz5_4
              try clear hfz10_0
              try clear hfz10_1
              try clear hfz10_2
              try clear hfz10_3
              try clear hfz10_4
              try clear hfz14_0
              try clear hfz14_1
              try clear hfz14_2
              try clear hfz14_3
              try clear hfz14_4
              try clear hfz17_0
              try clear hfz17_1
              try clear hfz17_2
              try clear hfz17_3
              try clear hfz17_4
              try clear hfz20_0
              try clear hfz20_1
              try clear hfz20_2
              try clear hfz20_3
              try clear hfz20_4
              try clear hfz23_0
              try clear hfz23_1
              try clear hfz23_2
              try clear hfz23_3
              try clear hfz23_4
              try clear hfz5_0
              try clear hfz5_1
              try clear hfz5_2
              try clear hfz5_3
              try clear hfz5_4
              obtain ⟨kq, x21_20, rfl, HA, HJ20, BK261, HB⟩ := hcut
              cases kq with
              | zero => exact absurd HA.out (by simp [stratumref10_ahead.j0])
              | succ kj20 =>
                have H := HA.out
                clear HA
                simp only [stratumref10_ahead.j0] at H
                by_cases c26 : x21_20 = true
                · subst c26
                  have H1 : (some (⟨#[40]⟩ : ByteArray)) = some r := by rw [if_pos rfl] at H; exact H
                  clear H
                  have H := H1
                  clear H1
                  obtain rfl := Option.some.inj H
                  go_wp2
                  go_ret
                  exact ⟨by first | rfl | (simp [errW_none, errW_some] <;> rfl) | (simp [*, errW_none, errW_some] <;> rfl), by repeat (first | (with_reducible first | exact HB.out | apply below_alloc | apply pw_below_drewN | apply below_drew1 | refine below_set ?_ GE261.out) | exact HB.out)⟩
                · replace c26 := Bool.eq_false_iff.mpr c26
                  subst c26
                  have H1 : (if a0_0 = 9 then (some (⟨#[99, 97, 116, 40]⟩ : ByteArray)) else (if a0_0 = 10 then (some (⟨#[114, 101, 112, 40]⟩ : ByteArray)) else (if a0_0 = 11 then (some (⟨#[108, 101, 110, 40]⟩ : ByteArray)) else (some (⟨#[104, 101, 120, 40]⟩ : ByteArray))))) = some r := by rw [if_neg (show ¬ (false = true) by decide)] at H; exact H
                  clear H
                  have H := H1
                  clear H1
                  by_cases c27 : a0_0 = 9
                  · rw [if_pos c27] at H
                    have c27b0 : (a0_0 == 9) = true := beq_iff_eq.mpr c27
                    have c27b1 : (a0_0 != 9) = false := bne_eq_false_iff_eq.mpr c27
                    clear c27
                    obtain rfl := Option.some.inj H
                    go_wp2
                    go_ret
                    exact ⟨by first | rfl | (simp [errW_none, errW_some] <;> rfl) | (simp [*, errW_none, errW_some] <;> rfl), by repeat (first | (with_reducible first | exact HB.out | apply below_alloc | apply pw_below_drewN | apply below_drew1 | refine below_set ?_ GE261.out) | exact HB.out)⟩
                  · rw [if_neg c27] at H
                    have c27b0 : (a0_0 == 9) = false := beq_eq_false_iff_ne.mpr c27
                    have c27b1 : (a0_0 != 9) = true := bne_iff_ne.mpr c27
                    by_cases c28 : a0_0 = 10
                    · rw [if_pos c28] at H
                      have c28b0 : (a0_0 == 10) = true := beq_iff_eq.mpr c28
                      have c28b1 : (a0_0 != 10) = false := bne_eq_false_iff_eq.mpr c28
                      clear c28
                      obtain rfl := Option.some.inj H
                      go_wp2
                      go_ret
                      exact ⟨by first | rfl | (simp [errW_none, errW_some] <;> rfl) | (simp [*, errW_none, errW_some] <;> rfl), by repeat (first | (with_reducible first | exact HB.out | apply below_alloc | apply pw_below_drewN | apply below_drew1 | refine below_set ?_ GE261.out) | exact HB.out)⟩
                    · rw [if_neg c28] at H
                      have c28b0 : (a0_0 == 10) = false := beq_eq_false_iff_ne.mpr c28
                      have c28b1 : (a0_0 != 10) = true := bne_iff_ne.mpr c28
                      by_cases c29 : a0_0 = 11
                      · rw [if_pos c29] at H
                        have c29b0 : (a0_0 == 11) = true := beq_iff_eq.mpr c29
                        have c29b1 : (a0_0 != 11) = false := bne_eq_false_iff_eq.mpr c29
                        clear c29
                        obtain rfl := Option.some.inj H
                        go_wp2
                        go_ret
                        exact ⟨by first | rfl | (simp [errW_none, errW_some] <;> rfl) | (simp [*, errW_none, errW_some] <;> rfl), by repeat (first | (with_reducible first | exact HB.out | apply below_alloc | apply pw_below_drewN | apply below_drew1 | refine below_set ?_ GE261.out) | exact HB.out)⟩
                      · rw [if_neg c29] at H
                        have c29b0 : (a0_0 == 11) = false := beq_eq_false_iff_ne.mpr c29
                        have c29b1 : (a0_0 != 11) = true := bne_iff_ne.mpr c29
                        obtain rfl := Option.some.inj H
                        go_wp2
                        go_ret
                        exact ⟨by first | rfl | (simp [errW_none, errW_some] <;> rfl) | (simp [*, errW_none, errW_some] <;> rfl), by repeat (first | (with_reducible first | exact HB.out | apply below_alloc | apply pw_below_drewN | apply below_drew1 | refine below_set ?_ GE261.out) | exact HB.out)⟩
def stratumref10_between.f (a0_0 : Int) (a0_1 : Int) (a0_2 : Int) (a0_3 : ByteArray) (a0_4 : Int) : Option (ByteArray) := if a0_0 = 6 then (some (⟨#[32, 43, 32]⟩ : ByteArray)) else (if a0_0 = 7 then (some (⟨#[32, 45, 32]⟩ : ByteArray)) else (if a0_0 = 8 then (some (⟨#[32, 42, 32]⟩ : ByteArray)) else (some (⟨#[44, 32]⟩ : ByteArray))))
set_option maxHeartbeats 8000000 in
set_option maxRecDepth 100000 in
theorem stratumref10_between.calls (a0_0 : Int) (a0_1 : Int) (a0_2 : Int) (a0_3 : ByteArray) (a0_4 : Int) (r : ByteArray) (w : World) (h : stratumref10_between.f a0_0 a0_1 a0_2 a0_3 a0_4 = some r) :
    Calls Tryd.prog 70 #[.agg #[.int .i64 a0_0, .int .i64 a0_1, .int .u64 a0_2, .string a0_3, .int .i64 a0_4]] w fun e w' => e = .returned (.string r) ∧ Below w.heap.size w w' := by
  have hu46 := Tryd.underlying46
  have HB := Aside0.mk (Below.refl w.heap.size w)
  have H : (if a0_0 = 6 then (some (⟨#[32, 43, 32]⟩ : ByteArray)) else (if a0_0 = 7 then (some (⟨#[32, 45, 32]⟩ : ByteArray)) else (if a0_0 = 8 then (some (⟨#[32, 42, 32]⟩ : ByteArray)) else (some (⟨#[44, 32]⟩ : ByteArray))))) = some r := h
  clear h
  by_cases c2 : a0_0 = 6
  · rw [if_pos c2] at H
    have c2b0 : (a0_0 == 6) = true := beq_iff_eq.mpr c2
    have c2b1 : (a0_0 != 6) = false := bne_eq_false_iff_eq.mpr c2
    clear c2
    obtain rfl := Option.some.inj H
    go_enter Tryd.func70, Tryd.ntmps70
    go_wp2_with (first | ((with_reducible refine gate_dst (N := 1) rfl ?_); refine box_event ?hg (N := 1) ?hd (cs := #[.int .i64 a0_0, .int .i64 a0_1, .int .u64 a0_2, .string a0_3, .int .i64 a0_4]) (t := 46) ?hr ?_; (case hd => rfl); (case hg => rfl); (case hr => first | (go_simp; done) | (go_simp; rfl)); intro gb264 hg w3 hbox hb; have n0_ := Aside0.mk (below_step (by repeat (first | (with_reducible first | exact HB.out | apply below_alloc | apply pw_below_drewN | apply below_drew1) | exact HB.out)) hb); have n1_ := Aside0.mk (hbox); have n2_ := Aside0.mk ((by rw [hg]; exact (below_size (by repeat (first | (with_reducible first | exact HB.out | apply below_alloc | apply pw_below_drewN | apply below_drew1) | exact HB.out))) : w.heap.size ≤ gb264)); have n3_ := Aside0.mk ((by rw [hg]; exact (below_size (by repeat (first | (with_reducible first | exact HB.out | apply below_alloc | apply pw_below_drewN | apply below_drew1) | exact HB.out))) : w.heap.size ≤ gb264)); clear HB; have HB := n0_; have BK264 := n1_; have GW264 := n2_; have GE264 := n3_; clear n0_ n1_ n2_ n3_; clear hb hbox hg; have hcz4_0 : w3.cell? ⟨gb264, 0, none⟩ = some (.int .i64 a0_0) := (blk_cell BK264.out 0).trans rfl; have hcz4_1 : w3.cell? ⟨gb264, 1, none⟩ = some (.int .i64 a0_1) := (blk_cell BK264.out 1).trans rfl; have hcz4_2 : w3.cell? ⟨gb264, 2, none⟩ = some (.int .u64 a0_2) := (blk_cell BK264.out 2).trans rfl; have hcz4_3 : w3.cell? ⟨gb264, 3, none⟩ = some (.string a0_3) := (blk_cell BK264.out 3).trans rfl; have hcz4_4 : w3.cell? ⟨gb264, 4, none⟩ = some (.int .i64 a0_4) := (blk_cell BK264.out 4).trans rfl; have hfz4_0 := blk_frozen BK264.out 0; have hfz4_1 := blk_frozen BK264.out 1; have hfz4_2 := blk_frozen BK264.out 2; have hfz4_3 := blk_frozen BK264.out 3; have hfz4_4 := blk_frozen BK264.out 4))
    go_ret
    exact ⟨by first | rfl | (simp [errW_none, errW_some] <;> rfl) | (simp [*, errW_none, errW_some] <;> rfl), by repeat (first | (with_reducible first | exact HB.out | apply below_alloc | apply pw_below_drewN | apply below_drew1 | refine below_set ?_ GE264.out) | exact HB.out)⟩
  · rw [if_neg c2] at H
    have c2b0 : (a0_0 == 6) = false := beq_eq_false_iff_ne.mpr c2
    have c2b1 : (a0_0 != 6) = true := bne_iff_ne.mpr c2
    by_cases c5 : a0_0 = 7
    · rw [if_pos c5] at H
      have c5b0 : (a0_0 == 7) = true := beq_iff_eq.mpr c5
      have c5b1 : (a0_0 != 7) = false := bne_eq_false_iff_eq.mpr c5
      clear c5
      obtain rfl := Option.some.inj H
      go_enter Tryd.func70, Tryd.ntmps70
      go_wp2_with (first | ((with_reducible refine gate_dst (N := 1) rfl ?_); refine box_event ?hg (N := 1) ?hd (cs := #[.int .i64 a0_0, .int .i64 a0_1, .int .u64 a0_2, .string a0_3, .int .i64 a0_4]) (t := 46) ?hr ?_; (case hd => rfl); (case hg => rfl); (case hr => first | (go_simp; done) | (go_simp; rfl)); intro gb264 hg w6 hbox hb; have n0_ := Aside0.mk (below_step (by repeat (first | (with_reducible first | exact HB.out | apply below_alloc | apply pw_below_drewN | apply below_drew1) | exact HB.out)) hb); have n1_ := Aside0.mk (hbox); have n2_ := Aside0.mk ((by rw [hg]; exact (below_size (by repeat (first | (with_reducible first | exact HB.out | apply below_alloc | apply pw_below_drewN | apply below_drew1) | exact HB.out))) : w.heap.size ≤ gb264)); have n3_ := Aside0.mk ((by rw [hg]; exact (below_size (by repeat (first | (with_reducible first | exact HB.out | apply below_alloc | apply pw_below_drewN | apply below_drew1) | exact HB.out))) : w.heap.size ≤ gb264)); clear HB; have HB := n0_; have BK264 := n1_; have GW264 := n2_; have GE264 := n3_; clear n0_ n1_ n2_ n3_; clear hb hbox hg; have hcz7_0 : w6.cell? ⟨gb264, 0, none⟩ = some (.int .i64 a0_0) := (blk_cell BK264.out 0).trans rfl; have hcz7_1 : w6.cell? ⟨gb264, 1, none⟩ = some (.int .i64 a0_1) := (blk_cell BK264.out 1).trans rfl; have hcz7_2 : w6.cell? ⟨gb264, 2, none⟩ = some (.int .u64 a0_2) := (blk_cell BK264.out 2).trans rfl; have hcz7_3 : w6.cell? ⟨gb264, 3, none⟩ = some (.string a0_3) := (blk_cell BK264.out 3).trans rfl; have hcz7_4 : w6.cell? ⟨gb264, 4, none⟩ = some (.int .i64 a0_4) := (blk_cell BK264.out 4).trans rfl; have hfz7_0 := blk_frozen BK264.out 0; have hfz7_1 := blk_frozen BK264.out 1; have hfz7_2 := blk_frozen BK264.out 2; have hfz7_3 := blk_frozen BK264.out 3; have hfz7_4 := blk_frozen BK264.out 4))
      go_ret
      exact ⟨by first | rfl | (simp [errW_none, errW_some] <;> rfl) | (simp [*, errW_none, errW_some] <;> rfl), by repeat (first | (with_reducible first | exact HB.out | apply below_alloc | apply pw_below_drewN | apply below_drew1 | refine below_set ?_ GE264.out) | exact HB.out)⟩
    · rw [if_neg c5] at H
      have c5b0 : (a0_0 == 7) = false := beq_eq_false_iff_ne.mpr c5
      have c5b1 : (a0_0 != 7) = true := bne_iff_ne.mpr c5
      by_cases c8 : a0_0 = 8
      · rw [if_pos c8] at H
        have c8b0 : (a0_0 == 8) = true := beq_iff_eq.mpr c8
        have c8b1 : (a0_0 != 8) = false := bne_eq_false_iff_eq.mpr c8
        clear c8
        obtain rfl := Option.some.inj H
        go_enter Tryd.func70, Tryd.ntmps70
        go_wp2_with (first | ((with_reducible refine gate_dst (N := 1) rfl ?_); refine box_event ?hg (N := 1) ?hd (cs := #[.int .i64 a0_0, .int .i64 a0_1, .int .u64 a0_2, .string a0_3, .int .i64 a0_4]) (t := 46) ?hr ?_; (case hd => rfl); (case hg => rfl); (case hr => first | (go_simp; done) | (go_simp; rfl)); intro gb264 hg w9 hbox hb; have n0_ := Aside0.mk (below_step (by repeat (first | (with_reducible first | exact HB.out | apply below_alloc | apply pw_below_drewN | apply below_drew1) | exact HB.out)) hb); have n1_ := Aside0.mk (hbox); have n2_ := Aside0.mk ((by rw [hg]; exact (below_size (by repeat (first | (with_reducible first | exact HB.out | apply below_alloc | apply pw_below_drewN | apply below_drew1) | exact HB.out))) : w.heap.size ≤ gb264)); have n3_ := Aside0.mk ((by rw [hg]; exact (below_size (by repeat (first | (with_reducible first | exact HB.out | apply below_alloc | apply pw_below_drewN | apply below_drew1) | exact HB.out))) : w.heap.size ≤ gb264)); clear HB; have HB := n0_; have BK264 := n1_; have GW264 := n2_; have GE264 := n3_; clear n0_ n1_ n2_ n3_; clear hb hbox hg; have hcz10_0 : w9.cell? ⟨gb264, 0, none⟩ = some (.int .i64 a0_0) := (blk_cell BK264.out 0).trans rfl; have hcz10_1 : w9.cell? ⟨gb264, 1, none⟩ = some (.int .i64 a0_1) := (blk_cell BK264.out 1).trans rfl; have hcz10_2 : w9.cell? ⟨gb264, 2, none⟩ = some (.int .u64 a0_2) := (blk_cell BK264.out 2).trans rfl; have hcz10_3 : w9.cell? ⟨gb264, 3, none⟩ = some (.string a0_3) := (blk_cell BK264.out 3).trans rfl; have hcz10_4 : w9.cell? ⟨gb264, 4, none⟩ = some (.int .i64 a0_4) := (blk_cell BK264.out 4).trans rfl; have hfz10_0 := blk_frozen BK264.out 0; have hfz10_1 := blk_frozen BK264.out 1; have hfz10_2 := blk_frozen BK264.out 2; have hfz10_3 := blk_frozen BK264.out 3; have hfz10_4 := blk_frozen BK264.out 4))
        go_ret
        exact ⟨by first | rfl | (simp [errW_none, errW_some] <;> rfl) | (simp [*, errW_none, errW_some] <;> rfl), by repeat (first | (with_reducible first | exact HB.out | apply below_alloc | apply pw_below_drewN | apply below_drew1 | refine below_set ?_ GE264.out) | exact HB.out)⟩
      · rw [if_neg c8] at H
        have c8b0 : (a0_0 == 8) = false := beq_eq_false_iff_ne.mpr c8
        have c8b1 : (a0_0 != 8) = true := bne_iff_ne.mpr c8
        obtain rfl := Option.some.inj H
        go_enter Tryd.func70, Tryd.ntmps70
        go_wp2_with (first | ((with_reducible refine gate_dst (N := 1) rfl ?_); refine box_event ?hg (N := 1) ?hd (cs := #[.int .i64 a0_0, .int .i64 a0_1, .int .u64 a0_2, .string a0_3, .int .i64 a0_4]) (t := 46) ?hr ?_; (case hd => rfl); (case hg => rfl); (case hr => first | (go_simp; done) | (go_simp; rfl)); intro gb264 hg w11 hbox hb; have n0_ := Aside0.mk (below_step (by repeat (first | (with_reducible first | exact HB.out | apply below_alloc | apply pw_below_drewN | apply below_drew1) | exact HB.out)) hb); have n1_ := Aside0.mk (hbox); have n2_ := Aside0.mk ((by rw [hg]; exact (below_size (by repeat (first | (with_reducible first | exact HB.out | apply below_alloc | apply pw_below_drewN | apply below_drew1) | exact HB.out))) : w.heap.size ≤ gb264)); have n3_ := Aside0.mk ((by rw [hg]; exact (below_size (by repeat (first | (with_reducible first | exact HB.out | apply below_alloc | apply pw_below_drewN | apply below_drew1) | exact HB.out))) : w.heap.size ≤ gb264)); clear HB; have HB := n0_; have BK264 := n1_; have GW264 := n2_; have GE264 := n3_; clear n0_ n1_ n2_ n3_; clear hb hbox hg; have hcz12_0 : w11.cell? ⟨gb264, 0, none⟩ = some (.int .i64 a0_0) := (blk_cell BK264.out 0).trans rfl; have hcz12_1 : w11.cell? ⟨gb264, 1, none⟩ = some (.int .i64 a0_1) := (blk_cell BK264.out 1).trans rfl; have hcz12_2 : w11.cell? ⟨gb264, 2, none⟩ = some (.int .u64 a0_2) := (blk_cell BK264.out 2).trans rfl; have hcz12_3 : w11.cell? ⟨gb264, 3, none⟩ = some (.string a0_3) := (blk_cell BK264.out 3).trans rfl; have hcz12_4 : w11.cell? ⟨gb264, 4, none⟩ = some (.int .i64 a0_4) := (blk_cell BK264.out 4).trans rfl; have hfz12_0 := blk_frozen BK264.out 0; have hfz12_1 := blk_frozen BK264.out 1; have hfz12_2 := blk_frozen BK264.out 2; have hfz12_3 := blk_frozen BK264.out 3; have hfz12_4 := blk_frozen BK264.out 4))
        go_ret
        exact ⟨by first | rfl | (simp [errW_none, errW_some] <;> rfl) | (simp [*, errW_none, errW_some] <;> rfl), by repeat (first | (with_reducible first | exact HB.out | apply below_alloc | apply pw_below_drewN | apply below_drew1 | refine below_set ?_ GE264.out) | exact HB.out)⟩
def stratumref10_behind.f (a0_0 : Int) (a0_1 : Int) (a0_2 : Int) (a0_3 : ByteArray) (a0_4 : Int) : Option (ByteArray) := if a0_0 ≥ 6 then (some (⟨#[41]⟩ : ByteArray)) else (some (⟨#[]⟩ : ByteArray))
set_option maxHeartbeats 8000000 in
set_option maxRecDepth 100000 in
theorem stratumref10_behind.calls (a0_0 : Int) (a0_1 : Int) (a0_2 : Int) (a0_3 : ByteArray) (a0_4 : Int) (r : ByteArray) (w : World) (h : stratumref10_behind.f a0_0 a0_1 a0_2 a0_3 a0_4 = some r) :
    Calls Tryd.prog 71 #[.agg #[.int .i64 a0_0, .int .i64 a0_1, .int .u64 a0_2, .string a0_3, .int .i64 a0_4]] w fun e w' => e = .returned (.string r) ∧ Below w.heap.size w w' := by
  have hu46 := Tryd.underlying46
  have HB := Aside0.mk (Below.refl w.heap.size w)
  have H : (if a0_0 ≥ 6 then (some (⟨#[41]⟩ : ByteArray)) else (some (⟨#[]⟩ : ByteArray))) = some r := h
  clear h
  by_cases c2 : a0_0 ≥ 6
  · rw [if_pos c2] at H
    have c2b0 : decide (6 ≤ a0_0) = true := decide_eq_true c2
    clear c2
    obtain rfl := Option.some.inj H
    go_enter Tryd.func71, Tryd.ntmps71
    go_wp2_with (first | ((with_reducible refine gate_dst (N := 1) rfl ?_); refine box_event ?hg (N := 1) ?hd (cs := #[.int .i64 a0_0, .int .i64 a0_1, .int .u64 a0_2, .string a0_3, .int .i64 a0_4]) (t := 46) ?hr ?_; (case hd => rfl); (case hg => rfl); (case hr => first | (go_simp; done) | (go_simp; rfl)); intro gb265 hg w3 hbox hb; have n0_ := Aside0.mk (below_step (by repeat (first | (with_reducible first | exact HB.out | apply below_alloc | apply pw_below_drewN | apply below_drew1) | exact HB.out)) hb); have n1_ := Aside0.mk (hbox); have n2_ := Aside0.mk ((by rw [hg]; exact (below_size (by repeat (first | (with_reducible first | exact HB.out | apply below_alloc | apply pw_below_drewN | apply below_drew1) | exact HB.out))) : w.heap.size ≤ gb265)); have n3_ := Aside0.mk ((by rw [hg]; exact (below_size (by repeat (first | (with_reducible first | exact HB.out | apply below_alloc | apply pw_below_drewN | apply below_drew1) | exact HB.out))) : w.heap.size ≤ gb265)); clear HB; have HB := n0_; have BK265 := n1_; have GW265 := n2_; have GE265 := n3_; clear n0_ n1_ n2_ n3_; clear hb hbox hg; have hcz4_0 : w3.cell? ⟨gb265, 0, none⟩ = some (.int .i64 a0_0) := (blk_cell BK265.out 0).trans rfl; have hcz4_1 : w3.cell? ⟨gb265, 1, none⟩ = some (.int .i64 a0_1) := (blk_cell BK265.out 1).trans rfl; have hcz4_2 : w3.cell? ⟨gb265, 2, none⟩ = some (.int .u64 a0_2) := (blk_cell BK265.out 2).trans rfl; have hcz4_3 : w3.cell? ⟨gb265, 3, none⟩ = some (.string a0_3) := (blk_cell BK265.out 3).trans rfl; have hcz4_4 : w3.cell? ⟨gb265, 4, none⟩ = some (.int .i64 a0_4) := (blk_cell BK265.out 4).trans rfl; have hfz4_0 := blk_frozen BK265.out 0; have hfz4_1 := blk_frozen BK265.out 1; have hfz4_2 := blk_frozen BK265.out 2; have hfz4_3 := blk_frozen BK265.out 3; have hfz4_4 := blk_frozen BK265.out 4))
    go_ret
    exact ⟨by first | rfl | (simp [errW_none, errW_some] <;> rfl) | (simp [*, errW_none, errW_some] <;> rfl), by repeat (first | (with_reducible first | exact HB.out | apply below_alloc | apply pw_below_drewN | apply below_drew1 | refine below_set ?_ GE265.out) | exact HB.out)⟩
  · rw [if_neg c2] at H
    have c2b0 : decide (6 ≤ a0_0) = false := decide_eq_false c2
    clear c2
    obtain rfl := Option.some.inj H
    go_enter Tryd.func71, Tryd.ntmps71
    go_wp2_with (first | ((with_reducible refine gate_dst (N := 1) rfl ?_); refine box_event ?hg (N := 1) ?hd (cs := #[.int .i64 a0_0, .int .i64 a0_1, .int .u64 a0_2, .string a0_3, .int .i64 a0_4]) (t := 46) ?hr ?_; (case hd => rfl); (case hg => rfl); (case hr => first | (go_simp; done) | (go_simp; rfl)); intro gb265 hg w5 hbox hb; have n0_ := Aside0.mk (below_step (by repeat (first | (with_reducible first | exact HB.out | apply below_alloc | apply pw_below_drewN | apply below_drew1) | exact HB.out)) hb); have n1_ := Aside0.mk (hbox); have n2_ := Aside0.mk ((by rw [hg]; exact (below_size (by repeat (first | (with_reducible first | exact HB.out | apply below_alloc | apply pw_below_drewN | apply below_drew1) | exact HB.out))) : w.heap.size ≤ gb265)); have n3_ := Aside0.mk ((by rw [hg]; exact (below_size (by repeat (first | (with_reducible first | exact HB.out | apply below_alloc | apply pw_below_drewN | apply below_drew1) | exact HB.out))) : w.heap.size ≤ gb265)); clear HB; have HB := n0_; have BK265 := n1_; have GW265 := n2_; have GE265 := n3_; clear n0_ n1_ n2_ n3_; clear hb hbox hg; have hcz6_0 : w5.cell? ⟨gb265, 0, none⟩ = some (.int .i64 a0_0) := (blk_cell BK265.out 0).trans rfl; have hcz6_1 : w5.cell? ⟨gb265, 1, none⟩ = some (.int .i64 a0_1) := (blk_cell BK265.out 1).trans rfl; have hcz6_2 : w5.cell? ⟨gb265, 2, none⟩ = some (.int .u64 a0_2) := (blk_cell BK265.out 2).trans rfl; have hcz6_3 : w5.cell? ⟨gb265, 3, none⟩ = some (.string a0_3) := (blk_cell BK265.out 3).trans rfl; have hcz6_4 : w5.cell? ⟨gb265, 4, none⟩ = some (.int .i64 a0_4) := (blk_cell BK265.out 4).trans rfl; have hfz6_0 := blk_frozen BK265.out 0; have hfz6_1 := blk_frozen BK265.out 1; have hfz6_2 := blk_frozen BK265.out 2; have hfz6_3 := blk_frozen BK265.out 3; have hfz6_4 := blk_frozen BK265.out 4))
    go_ret
    exact ⟨by first | rfl | (simp [errW_none, errW_some] <;> rfl) | (simp [*, errW_none, errW_some] <;> rfl), by repeat (first | (with_reducible first | exact HB.out | apply below_alloc | apply pw_below_drewN | apply below_drew1 | refine below_set ?_ GE265.out) | exact HB.out)⟩
def stratumref10_word.l0 : Nat → ByteArray → List ByteArray → Int → Option (Bool)
  | 0, _, _, _ => none
  | k + 1, x0, x3, x4 => if x4 < (x3.length : Int) then (if 0 ≤ x4 then (if (rdOf ByteArray.empty x3 x4).toList = x0.toList then (some true) else (stratumref10_word.l0 k x0 x3 (wrap64 (x4 + 1)))) else (none)) else (some false)
def stratumref10_word.f (k : Nat) (a0 : ByteArray) : Option (Bool) := stratumref10_word.l0 k a0 (([(⟨#[101, 118, 101, 110, 116]⟩ : ByteArray), (⟨#[118, 101, 114, 115, 105, 111, 110]⟩ : ByteArray), (⟨#[97, 100, 100]⟩ : ByteArray), (⟨#[114, 101, 110, 97, 109, 101]⟩ : ByteArray), (⟨#[115, 112, 108, 105, 116]⟩ : ByteArray), (⟨#[106, 111, 105, 110]⟩ : ByteArray), (⟨#[114, 101, 116, 121, 112, 101]⟩ : ByteArray), (⟨#[100, 114, 111, 112]⟩ : ByteArray), (⟨#[116, 111]⟩ : ByteArray), (⟨#[97, 116]⟩ : ByteArray), (⟨#[105, 110, 116, 111]⟩ : ByteArray), (⟨#[119, 105, 116, 104]⟩ : ByteArray), (⟨#[116, 114, 117, 101]⟩ : ByteArray), (⟨#[102, 97, 108, 115, 101]⟩ : ByteArray), (⟨#[99, 97, 116]⟩ : ByteArray), (⟨#[114, 101, 112]⟩ : ByteArray), (⟨#[108, 101, 110]⟩ : ByteArray), (⟨#[104, 101, 120]⟩ : ByteArray)] : List ByteArray)) 0
set_option maxHeartbeats 8000000 in
set_option maxRecDepth 100000 in
theorem stratumref10_word.calls (k : Nat) (a0 : ByteArray) (r : Bool) (w : World) (h : stratumref10_word.f k a0 = some r) :
    Calls Tryd.prog 97 #[.string a0] w fun e w' => e = .returned (.bool r) ∧ Below w.heap.size w w' := by
  have HB := Aside0.mk (Below.refl w.heap.size w)
  have H : (stratumref10_word.l0 k a0 (([(⟨#[101, 118, 101, 110, 116]⟩ : ByteArray), (⟨#[118, 101, 114, 115, 105, 111, 110]⟩ : ByteArray), (⟨#[97, 100, 100]⟩ : ByteArray), (⟨#[114, 101, 110, 97, 109, 101]⟩ : ByteArray), (⟨#[115, 112, 108, 105, 116]⟩ : ByteArray), (⟨#[106, 111, 105, 110]⟩ : ByteArray), (⟨#[114, 101, 116, 121, 112, 101]⟩ : ByteArray), (⟨#[100, 114, 111, 112]⟩ : ByteArray), (⟨#[116, 111]⟩ : ByteArray), (⟨#[97, 116]⟩ : ByteArray), (⟨#[105, 110, 116, 111]⟩ : ByteArray), (⟨#[119, 105, 116, 104]⟩ : ByteArray), (⟨#[116, 114, 117, 101]⟩ : ByteArray), (⟨#[102, 97, 108, 115, 101]⟩ : ByteArray), (⟨#[99, 97, 116]⟩ : ByteArray), (⟨#[114, 101, 112]⟩ : ByteArray), (⟨#[108, 101, 110]⟩ : ByteArray), (⟨#[104, 101, 120]⟩ : ByteArray)] : List ByteArray)) 0) = some r := h
  clear h
  obtain ⟨y266, hy266⟩ : ∃ y_ : List ByteArray, y_ = (([(⟨#[101, 118, 101, 110, 116]⟩ : ByteArray), (⟨#[118, 101, 114, 115, 105, 111, 110]⟩ : ByteArray), (⟨#[97, 100, 100]⟩ : ByteArray), (⟨#[114, 101, 110, 97, 109, 101]⟩ : ByteArray), (⟨#[115, 112, 108, 105, 116]⟩ : ByteArray), (⟨#[106, 111, 105, 110]⟩ : ByteArray), (⟨#[114, 101, 116, 121, 112, 101]⟩ : ByteArray), (⟨#[100, 114, 111, 112]⟩ : ByteArray), (⟨#[116, 111]⟩ : ByteArray), (⟨#[97, 116]⟩ : ByteArray), (⟨#[105, 110, 116, 111]⟩ : ByteArray), (⟨#[119, 105, 116, 104]⟩ : ByteArray), (⟨#[116, 114, 117, 101]⟩ : ByteArray), (⟨#[102, 97, 108, 115, 101]⟩ : ByteArray), (⟨#[99, 97, 116]⟩ : ByteArray), (⟨#[114, 101, 112]⟩ : ByteArray), (⟨#[108, 101, 110]⟩ : ByteArray), (⟨#[104, 101, 120]⟩ : ByteArray)] : List ByteArray)) := ⟨_, rfl⟩
  replace H : (stratumref10_word.l0 k a0 y266 0) = some r := by first | (rw [hy266]; with_reducible exact H) | (have H2_ := (Option.bind_some _ _).symm.trans H; rw [hy266]; with_reducible exact H2_) | (have H2_ := (Option.bind_some _ _).symm.trans H; with_reducible exact H2_) | with_reducible exact H | (rw [hy266]; exact H) | exact H
  have Ny266 := Aside0.mk hy266
  clear hy266
  have H' := Aside0.mk H
  clear H
  go_enter Tryd.func97, Tryd.ntmps97
  go_wp2_with (first | ((with_reducible refine gate_dst (N := 5) rfl ?_); refine Kd.R_lit Kd.string _ 9 ?hg (N := 5) ?hd (xs := ([(⟨#[101, 118, 101, 110, 116]⟩ : ByteArray), (⟨#[118, 101, 114, 115, 105, 111, 110]⟩ : ByteArray), (⟨#[97, 100, 100]⟩ : ByteArray), (⟨#[114, 101, 110, 97, 109, 101]⟩ : ByteArray), (⟨#[115, 112, 108, 105, 116]⟩ : ByteArray), (⟨#[106, 111, 105, 110]⟩ : ByteArray), (⟨#[114, 101, 116, 121, 112, 101]⟩ : ByteArray), (⟨#[100, 114, 111, 112]⟩ : ByteArray), (⟨#[116, 111]⟩ : ByteArray), (⟨#[97, 116]⟩ : ByteArray), (⟨#[105, 110, 116, 111]⟩ : ByteArray), (⟨#[119, 105, 116, 104]⟩ : ByteArray), (⟨#[116, 114, 117, 101]⟩ : ByteArray), (⟨#[102, 97, 108, 115, 101]⟩ : ByteArray), (⟨#[99, 97, 116]⟩ : ByteArray), (⟨#[114, 101, 112]⟩ : ByteArray), (⟨#[108, 101, 110]⟩ : ByteArray), (⟨#[104, 101, 120]⟩ : ByteArray)] : List ByteArray)) (inner := [.string (⟨#[101, 118, 101, 110, 116]⟩ : ByteArray), .string (⟨#[118, 101, 114, 115, 105, 111, 110]⟩ : ByteArray), .string (⟨#[97, 100, 100]⟩ : ByteArray), .string (⟨#[114, 101, 110, 97, 109, 101]⟩ : ByteArray), .string (⟨#[115, 112, 108, 105, 116]⟩ : ByteArray), .string (⟨#[106, 111, 105, 110]⟩ : ByteArray), .string (⟨#[114, 101, 116, 121, 112, 101]⟩ : ByteArray), .string (⟨#[100, 114, 111, 112]⟩ : ByteArray), .string (⟨#[116, 111]⟩ : ByteArray), .string (⟨#[97, 116]⟩ : ByteArray), .string (⟨#[105, 110, 116, 111]⟩ : ByteArray), .string (⟨#[119, 105, 116, 104]⟩ : ByteArray), .string (⟨#[116, 114, 117, 101]⟩ : ByteArray), .string (⟨#[102, 97, 108, 115, 101]⟩ : ByteArray), .string (⟨#[99, 97, 116]⟩ : ByteArray), .string (⟨#[114, 101, 112]⟩ : ByteArray), .string (⟨#[108, 101, 110]⟩ : ByteArray), .string (⟨#[104, 101, 120]⟩ : ByteArray)]) (ok := fun _ => True) (okp := fun _ => True) ?hr ?hp (fun _ hk => hk) trivial (Below.refl _ _) (Nat.le_refl _) (by simp) ?_; (case hd => rfl); (case hg => rfl); (case hr => first | (go_simp; done) | (go_simp; rfl)); (case hp => exact (Reps.one (show Kd.M Kd.string _ _ _ (⟨#[101, 118, 101, 110, 116]⟩ : ByteArray) [.string (⟨#[101, 118, 101, 110, 116]⟩ : ByteArray)] from rfl) (Reps.one (show Kd.M Kd.string _ _ _ (⟨#[118, 101, 114, 115, 105, 111, 110]⟩ : ByteArray) [.string (⟨#[118, 101, 114, 115, 105, 111, 110]⟩ : ByteArray)] from rfl) (Reps.one (show Kd.M Kd.string _ _ _ (⟨#[97, 100, 100]⟩ : ByteArray) [.string (⟨#[97, 100, 100]⟩ : ByteArray)] from rfl) (Reps.one (show Kd.M Kd.string _ _ _ (⟨#[114, 101, 110, 97, 109, 101]⟩ : ByteArray) [.string (⟨#[114, 101, 110, 97, 109, 101]⟩ : ByteArray)] from rfl) (Reps.one (show Kd.M Kd.string _ _ _ (⟨#[115, 112, 108, 105, 116]⟩ : ByteArray) [.string (⟨#[115, 112, 108, 105, 116]⟩ : ByteArray)] from rfl) (Reps.one (show Kd.M Kd.string _ _ _ (⟨#[106, 111, 105, 110]⟩ : ByteArray) [.string (⟨#[106, 111, 105, 110]⟩ : ByteArray)] from rfl) (Reps.one (show Kd.M Kd.string _ _ _ (⟨#[114, 101, 116, 121, 112, 101]⟩ : ByteArray) [.string (⟨#[114, 101, 116, 121, 112, 101]⟩ : ByteArray)] from rfl) (Reps.one (show Kd.M Kd.string _ _ _ (⟨#[100, 114, 111, 112]⟩ : ByteArray) [.string (⟨#[100, 114, 111, 112]⟩ : ByteArray)] from rfl) (Reps.one (show Kd.M Kd.string _ _ _ (⟨#[116, 111]⟩ : ByteArray) [.string (⟨#[116, 111]⟩ : ByteArray)] from rfl) (Reps.one (show Kd.M Kd.string _ _ _ (⟨#[97, 116]⟩ : ByteArray) [.string (⟨#[97, 116]⟩ : ByteArray)] from rfl) (Reps.one (show Kd.M Kd.string _ _ _ (⟨#[105, 110, 116, 111]⟩ : ByteArray) [.string (⟨#[105, 110, 116, 111]⟩ : ByteArray)] from rfl) (Reps.one (show Kd.M Kd.string _ _ _ (⟨#[119, 105, 116, 104]⟩ : ByteArray) [.string (⟨#[119, 105, 116, 104]⟩ : ByteArray)] from rfl) (Reps.one (show Kd.M Kd.string _ _ _ (⟨#[116, 114, 117, 101]⟩ : ByteArray) [.string (⟨#[116, 114, 117, 101]⟩ : ByteArray)] from rfl) (Reps.one (show Kd.M Kd.string _ _ _ (⟨#[102, 97, 108, 115, 101]⟩ : ByteArray) [.string (⟨#[102, 97, 108, 115, 101]⟩ : ByteArray)] from rfl) (Reps.one (show Kd.M Kd.string _ _ _ (⟨#[99, 97, 116]⟩ : ByteArray) [.string (⟨#[99, 97, 116]⟩ : ByteArray)] from rfl) (Reps.one (show Kd.M Kd.string _ _ _ (⟨#[114, 101, 112]⟩ : ByteArray) [.string (⟨#[114, 101, 112]⟩ : ByteArray)] from rfl) (Reps.one (show Kd.M Kd.string _ _ _ (⟨#[108, 101, 110]⟩ : ByteArray) [.string (⟨#[108, 101, 110]⟩ : ByteArray)] from rfl) (Reps.one (show Kd.M Kd.string _ _ _ (⟨#[104, 101, 120]⟩ : ByteArray) [.string (⟨#[104, 101, 120]⟩ : ByteArray)] from rfl) (Reps.none _ _)))))))))))))))))))); intro v267 w2 ho3 hb hg_ hnew_; clear hg_ hnew_; (first | rw [← Ny266.out] at ho3 | (simp only [Int.reduceToNat] at ho3; rw [← Ny266.out] at ho3)); have n0_ := Aside0.mk (Kd.R_lower ho3 (below_size (by repeat (first | (with_reducible first | exact HB.out | apply below_alloc | apply pw_below_drewN | apply below_drew1) | exact HB.out)))); have n1_ := Aside0.mk (below_step (by repeat (first | (with_reducible first | exact HB.out | apply below_alloc | apply pw_below_drewN | apply below_drew1) | exact HB.out)) hb); clear HB; have HO268 := n0_; have HB := n1_; clear n0_ n1_; clear hb ho3))
  go_loopg [4] k (fun kq v4 w' => ∃ (x4_1 : Int), v4 = .int .i64 x4_1 ∧ Aside0 (stratumref10_word.l0 kq a0 y266 x4_1 = some r) ∧ Aside0 (kq ≤ k) ∧ Aside0 (Kd.R Kd.string 9 w' w.heap.size (fun _ => True) v267 y266) ∧ Aside0 (Below w.heap.size w w'))
  case atStart => exact ⟨(0), (by first | rfl | (simp; done) | (simp [*]; done)), H', ⟨Nat.le_refl _⟩, ⟨by (with_reducible repeat (first | apply Kd.R_alloc | apply Kd.R_drewN | apply Kd.R_drew)); exact HO268.out⟩, ⟨by repeat (first | (with_reducible first | exact HB.out | apply below_alloc | apply pw_below_drewN | apply below_drew1) | exact HB.out)⟩⟩
  case round =>
    clear H'
    try clear p2
    obtain ⟨x4_1, rfl, HA, HK1, HO_3, HB⟩ := hrel
    cases gk with
    | zero => exact absurd HA.out (by simp [stratumref10_word.l0])
    | succ k1 =>
      have H := HA.out
      clear HA
      simp only [stratumref10_word.l0] at H
      by_cases c4 : x4_1 < (y266.length : Int)
      · rw [if_pos c4] at H
        have c4b0 : decide (x4_1 < (y266.length : Int)) = true := decide_eq_true c4
        clear c4
        by_cases c5 : 0 ≤ x4_1
        · rw [if_pos c5] at H
          have c5b0 : decide (0 ≤ x4_1) = true := decide_eq_true c5
          clear c5
          by_cases c6 : (rdOf ByteArray.empty y266 x4_1).toList = a0.toList
          · rw [if_pos c6] at H
            have c6b0 : ((rdOf ByteArray.empty y266 x4_1).toList == a0.toList) = true := beq_iff_eq.mpr c6
            have c6b1 : ((rdOf ByteArray.empty y266 x4_1).toList != a0.toList) = false := bne_eq_false_iff_eq.mpr c6
            clear c6
            obtain rfl := Option.some.inj H
            obtain ⟨Ao7, co7, eo7⟩ := Kd.R_slice HO_3.out
            subst eo7
            have p269 : 0 ≤ (x4_1 : Int) := of_decide_eq_true (by first | (with_reducible assumption) | assumption)
            have q269 : x4_1 < (y266.length : Int) := of_decide_eq_true (by first | (with_reducible assumption) | assumption)
            obtain ⟨ad269, e269, hx269_0⟩ := Kd.at_string (Kd.R_reads' HO_3.out).2.2 x4_1 p269 q269
            cases e269
            replace p269 := eq_true p269
            replace q269 := eq_true q269
            go_wp2
            go_ret
            exact ⟨by first | rfl | (simp [errW_none, errW_some] <;> rfl) | (simp [*, errW_none, errW_some] <;> rfl), by repeat (first | (with_reducible first | exact HB.out | apply below_alloc | apply pw_below_drewN | apply below_drew1) | exact HB.out)⟩
          · rw [if_neg c6] at H
            have c6b0 : ((rdOf ByteArray.empty y266 x4_1).toList == a0.toList) = false := beq_eq_false_iff_ne.mpr c6
            have c6b1 : ((rdOf ByteArray.empty y266 x4_1).toList != a0.toList) = true := bne_iff_ne.mpr c6
            have H' := Aside0.mk H
            clear H
            obtain ⟨Ao8, co8, eo8⟩ := Kd.R_slice HO_3.out
            subst eo8
            have p269 : 0 ≤ (x4_1 : Int) := of_decide_eq_true (by first | (with_reducible assumption) | assumption)
            have q269 : x4_1 < (y266.length : Int) := of_decide_eq_true (by first | (with_reducible assumption) | assumption)
            obtain ⟨ad269, e269, hx269_0⟩ := Kd.at_string (Kd.R_reads' HO_3.out).2.2 x4_1 p269 q269
            cases e269
            replace p269 := eq_true p269
            replace q269 := eq_true q269
            go_wp2
            go_roundg k1
            case measure => have := HK1.out; omega
            case rel => exact ⟨(wrap64 (x4_1 + 1)), (by first | rfl | (simp; done) | (simp [*]; done)), H', ⟨by have := HK1.out; omega⟩, ⟨by (with_reducible repeat (first | apply Kd.R_alloc | apply Kd.R_drewN | apply Kd.R_drew)); exact HO_3.out⟩, ⟨by repeat (first | (with_reducible first | exact HB.out | apply below_alloc | apply pw_below_drewN | apply below_drew1) | exact HB.out)⟩⟩
        · rw [if_neg c5] at H
          exact absurd H (by simp)
      · rw [if_neg c4] at H
        have c4b0 : decide (x4_1 < (y266.length : Int)) = false := decide_eq_false c4
        clear c4
        obtain rfl := Option.some.inj H
        obtain ⟨Ao9, co9, eo9⟩ := Kd.R_slice HO_3.out
        subst eo9
        go_wp2
        go_ret
        exact ⟨by first | rfl | (simp [errW_none, errW_some] <;> rfl) | (simp [*, errW_none, errW_some] <;> rfl), by repeat (first | (with_reducible first | exact HB.out | apply below_alloc | apply pw_below_drewN | apply below_drew1) | exact HB.out)⟩
end Go.Proofs.YtaijoghpfobdbaaDoor.X
end
section
namespace Go.Proofs.YtaijoghpfobdbaaDoor.X
open Go.RowKit Go.Proofs.YtaijoghpfobdbaaDoorW.PrintWords Go.Proofs.YtaijoghpfobdbaaDoorW.PrintLast Go.Proofs.YtaijoghpfobdbaaDoorW.PrintMore
attribute [local go_sem] max2_int min2_int max_two min_two max_three min_three max_four min_four   -- for this text's walks alone
set_option linter.unusedVariables false
set_option linter.unusedSimpArgs false
mutual
def stratumref10_name.j0 : Nat → ByteArray → Bool → Option (Bool)
  | 0, _, _ => none
  | k + 1, x0, x17 => if x17 = true then (some false) else (stratumref10_name.l0 k x0 0)
def stratumref10_name.l0 : Nat → ByteArray → Int → Option (Bool)
  | 0, _, _ => none
  | k + 1, x0, x3 => if x3 < (x0.size : Int) then (if 0 ≤ x3 then (if (bt x0 x3) = 95 then (stratumref10_name.l0 k x0 (wrap64 (x3 + 1))) else (if (bt x0 x3) ≥ 97 then (if (bt x0 x3) ≤ 122 then (stratumref10_name.l0 k x0 (wrap64 (x3 + 1))) else (if (bt x0 x3) ≥ 65 then (if ((bt x0 x3) ≤ 90) then (stratumref10_name.l0 k x0 (wrap64 (x3 + 1))) else (if x3 = 0 then (some false) else (if (bt x0 x3) < 48 then (some false) else (if (bt x0 x3) > 57 then (some false) else (stratumref10_name.l0 k x0 (wrap64 (x3 + 1))))))) else (if x3 = 0 then (some false) else (if (bt x0 x3) < 48 then (some false) else (if (bt x0 x3) > 57 then (some false) else (stratumref10_name.l0 k x0 (wrap64 (x3 + 1)))))))) else (if (bt x0 x3) ≥ 65 then (if ((bt x0 x3) ≤ 90) then (stratumref10_name.l0 k x0 (wrap64 (x3 + 1))) else (if x3 = 0 then (some false) else (if (bt x0 x3) < 48 then (some false) else (if (bt x0 x3) > 57 then (some false) else (stratumref10_name.l0 k x0 (wrap64 (x3 + 1))))))) else (if x3 = 0 then (some false) else (if (bt x0 x3) < 48 then (some false) else (if (bt x0 x3) > 57 then (some false) else (stratumref10_name.l0 k x0 (wrap64 (x3 + 1))))))))) else (none)) else (some true)
end
def stratumref10_name.f (k : Nat) (a0 : ByteArray) : Option (Bool) := if (a0.size : Int) < 1 then (stratumref10_name.j0 k a0 true) else (if (a0.size : Int) > 64 then (stratumref10_name.j0 k a0 true) else ((stratumref10_word.f k a0).bind fun t270 => (stratumref10_name.j0 k a0 t270)))
set_option maxHeartbeats 8000000 in
set_option maxRecDepth 100000 in
theorem stratumref10_name.calls (k : Nat) (a0 : ByteArray) (r : Bool) (w : World) (h : stratumref10_name.f k a0 = some r) :
    Calls Tryd.prog 73 #[.string a0] w fun e w' => e = .returned (.bool r) ∧ Below w.heap.size w w' := by
  have HB := Aside0.mk (Below.refl w.heap.size w)
  have H : (if (a0.size : Int) < 1 then (stratumref10_name.j0 k a0 true) else (if (a0.size : Int) > 64 then (stratumref10_name.j0 k a0 true) else ((stratumref10_word.f k a0).bind fun t270 => (stratumref10_name.j0 k a0 t270)))) = some r := h
  clear h
  have HC2 := Aside0.mk H
  clear H
  go_enter Tryd.func73, Tryd.ntmps73
  go_upto_region 1 with (fail)
  go_cut [17] (fun v17 wc => ∃ (kq : Nat) (x17_1 : Bool), v17 = .bool x17_1 ∧ Aside0 (stratumref10_name.j0 kq a0 x17_1 = some r) ∧ Aside0 (kq ≤ k) ∧ Aside0 (Below w.heap.size w wc))
  case first =>
    have H := HC2.out
    clear HC2
    by_cases c3 : (a0.size : Int) < 1
    · rw [if_pos c3] at H
      have c3b0 : decide ((a0.size : Int) < 1) = true := decide_eq_true c3
      have c3b1 : decide (a0.size < 1) = true := decide_eq_true (by omega)
      clear c3
      (first | rw [c3b0] | (simp only [i64_w, i32_w]; rw [c3b0]) | skip)
      have H' := Aside0.mk H
      clear H
      go_wp2
      go_meet
      case rel => exact ⟨_, (true), (by first | rfl | (simp; done) | (simp [*]; done)), H', ⟨by first | omega | exact Nat.le_refl _⟩, ⟨by repeat (first | (with_reducible first | exact HB.out | apply below_alloc | apply pw_below_drewN | apply below_drew1) | exact HB.out)⟩⟩
    · rw [if_neg c3] at H
      have c3b0 : decide ((a0.size : Int) < 1) = false := decide_eq_false c3
      have c3b1 : decide (a0.size < 1) = false := decide_eq_false (by omega)
      clear c3
      (first | rw [c3b0] | (simp only [i64_w, i32_w]; rw [c3b0]) | skip)
      by_cases c4 : (a0.size : Int) > 64
      · rw [if_pos c4] at H
        have c4b0 : decide (64 < (a0.size : Int)) = true := decide_eq_true c4
        have c4b1 : decide (64 < a0.size) = true := decide_eq_true (by omega)
        clear c4
        have H' := Aside0.mk H
        clear H
        go_wp2
        go_meet
        case rel => exact ⟨_, (true), (by first | rfl | (simp; done) | (simp [*]; done)), H', ⟨by first | omega | exact Nat.le_refl _⟩, ⟨by repeat (first | (with_reducible first | exact HB.out | apply below_alloc | apply pw_below_drewN | apply below_drew1) | exact HB.out)⟩⟩
      · rw [if_neg c4] at H
        have c4b0 : decide (64 < (a0.size : Int)) = false := decide_eq_false c4
        have c4b1 : decide (64 < a0.size) = false := decide_eq_false (by omega)
        clear c4
        replace H := Option.bind_eq_some_iff.mp H
        obtain ⟨t270, A50, H⟩ := H
        replace H : (stratumref10_name.j0 k a0 t270) = some r := H
        have A5 := Aside0.mk A50
        clear A50
        have H' := Aside0.mk H
        clear H
        go_wp2_with (first | (go_at_call 97; (with_reducible refine (stratumref10_word.calls k a0 t270 _ A5.out).mono ?_); rintro e w6 ⟨rfl, hb⟩; have n0_ := Aside0.mk (below_step (by repeat (first | (with_reducible first | exact HB.out | apply below_alloc | apply pw_below_drewN | apply below_drew1) | exact HB.out)) hb); clear HB; have HB := n0_; clear n0_; (try clear hb); (try clear hb2); (try clear hk); (try clear hi)))
        go_meet
        case rel => exact ⟨_, (t270), (by first | rfl | (simp; done) | (simp [*]; done)), H', ⟨by first | omega | exact Nat.le_refl _⟩, ⟨by repeat (first | (with_reducible first | exact HB.out | apply below_alloc | apply pw_below_drewN | apply below_drew1) | exact HB.out)⟩⟩
  case rest =>
    clear HC2
    try clear p2
    try clear c3
    try clear c3b0
    try clear c3b1
    try clear c4
    try clear c4b0
    try clear c4b1
    obtain ⟨kq, x17_1, rfl, HA, HJ1, HB⟩ := hcut
    cases kq with
    | zero => exact absurd HA.out (by simp [stratumref10_name.j0])
    | succ kj1 =>
      have H := HA.out
      clear HA
      simp only [stratumref10_name.j0] at H
      by_cases c7 : x17_1 = true
      · subst c7
        have H1 : (some false) = some r := by rw [if_pos rfl] at H; exact H
        clear H
        have H := H1
        clear H1
        obtain rfl := Option.some.inj H
        go_wp2
        go_ret
        exact ⟨by first | rfl | (simp [errW_none, errW_some] <;> rfl) | (simp [*, errW_none, errW_some] <;> rfl), by repeat (first | (with_reducible first | exact HB.out | apply below_alloc | apply pw_below_drewN | apply below_drew1) | exact HB.out)⟩
      · replace c7 := Bool.eq_false_iff.mpr c7
        subst c7
        have H1 : (stratumref10_name.l0 kj1 a0 0) = some r := by rw [if_neg (show ¬ (false = true) by decide)] at H; exact H
        clear H
        have H := H1
        clear H1
        have H' := Aside0.mk H
        clear H
        go_wp2
        go_loopg [3] kj1 (fun kq v3 w' => ∃ (x3_2 : Int), v3 = .int .i64 x3_2 ∧ Aside0 (stratumref10_name.l0 kq a0 x3_2 = some r) ∧ Aside0 (kq ≤ kj1) ∧ Aside0 (Below w.heap.size w w'))
        case atStart => exact ⟨(0), (by first | rfl | (simp; done) | (simp [*]; done)), H', ⟨Nat.le_refl _⟩, ⟨by repeat (first | (with_reducible first | exact HB.out | apply below_alloc | apply pw_below_drewN | apply below_drew1) | exact HB.out)⟩⟩
        case round =>
          clear H'
          try clear p2
          try clear c3
          try clear c3b0
          try clear c3b1
          try clear c4
          try clear c4b0
          try clear c4b1
          try clear c7
          try clear p2
          obtain ⟨x3_2, rfl, HA, HK2, HB⟩ := hrel
          cases gk with
          | zero => exact absurd HA.out (by simp [stratumref10_name.l0])
          | succ k2 =>
            have H := HA.out
            clear HA
            simp only [stratumref10_name.l0] at H
            by_cases c8 : x3_2 < (a0.size : Int)
            · rw [if_pos c8] at H
              have c8b0 : decide (x3_2 < (a0.size : Int)) = true := decide_eq_true c8
              clear c8
              by_cases c9 : 0 ≤ x3_2
              · rw [if_pos c9] at H
                have c9b0 : decide (0 ≤ x3_2) = true := decide_eq_true c9
                clear c9
                by_cases c11 : (bt a0 x3_2) = 95
                · rw [if_pos c11] at H
                  have c11b0 : ((bt a0 x3_2) == 95) = true := beq_iff_eq.mpr c11
                  have c11b1 : ((bt a0 x3_2) != 95) = false := bne_eq_false_iff_eq.mpr c11
                  clear c11
                  have H' := Aside0.mk H
                  clear H
                  have p10 : 0 ≤ (x3_2 : Int) := of_decide_eq_true (by first | (with_reducible assumption) | assumption)
                  have q10 : x3_2 < (a0.size : Int) := of_decide_eq_true (by first | (with_reducible assumption) | assumption)
                  have hx10 := bt_at a0 x3_2
                  replace p10 := eq_true p10
                  replace q10 := eq_true q10
                  go_wp2
                  go_roundg k2
                  case measure => have := HJ1.out; have := HK2.out; omega
                  case rel => exact ⟨(wrap64 (x3_2 + 1)), (by first | rfl | (simp; done) | (simp [*]; done)), H', ⟨by have := HJ1.out; have := HK2.out; omega⟩, ⟨by repeat (first | (with_reducible first | exact HB.out | apply below_alloc | apply pw_below_drewN | apply below_drew1) | exact HB.out)⟩⟩
                · rw [if_neg c11] at H
                  have c11b0 : ((bt a0 x3_2) == 95) = false := beq_eq_false_iff_ne.mpr c11
                  have c11b1 : ((bt a0 x3_2) != 95) = true := bne_iff_ne.mpr c11
                  by_cases c12 : (bt a0 x3_2) ≥ 97
                  · rw [if_pos c12] at H
                    have c12b0 : decide (97 ≤ (bt a0 x3_2)) = true := decide_eq_true c12
                    clear c12
                    by_cases c13 : (bt a0 x3_2) ≤ 122
                    · rw [if_pos c13] at H
                      have c13b0 : decide ((bt a0 x3_2) ≤ 122) = true := decide_eq_true c13
                      clear c13
                      have H' := Aside0.mk H
                      clear H
                      have p10 : 0 ≤ (x3_2 : Int) := of_decide_eq_true (by first | (with_reducible assumption) | assumption)
                      have q10 : x3_2 < (a0.size : Int) := of_decide_eq_true (by first | (with_reducible assumption) | assumption)
                      have hx10 := bt_at a0 x3_2
                      replace p10 := eq_true p10
                      replace q10 := eq_true q10
                      go_wp2
                      go_roundg k2
                      case measure => have := HJ1.out; have := HK2.out; omega
                      case rel => exact ⟨(wrap64 (x3_2 + 1)), (by first | rfl | (simp; done) | (simp [*]; done)), H', ⟨by have := HJ1.out; have := HK2.out; omega⟩, ⟨by repeat (first | (with_reducible first | exact HB.out | apply below_alloc | apply pw_below_drewN | apply below_drew1) | exact HB.out)⟩⟩
                    · rw [if_neg c13] at H
                      have c13b0 : decide ((bt a0 x3_2) ≤ 122) = false := decide_eq_false c13
                      clear c13
                      by_cases c14 : (bt a0 x3_2) ≥ 65
                      · rw [if_pos c14] at H
                        have c14b0 : decide (65 ≤ (bt a0 x3_2)) = true := decide_eq_true c14
                        clear c14
                        by_cases c15 : ((bt a0 x3_2) ≤ 90)
                        · rw [if_pos c15] at H
                          have c15b0 : decide ((bt a0 x3_2) ≤ 90) = true := decide_eq_true c15
                          clear c15
                          have H' := Aside0.mk H
                          clear H
                          have p10 : 0 ≤ (x3_2 : Int) := of_decide_eq_true (by first | (with_reducible assumption) | assumption)
                          have q10 : x3_2 < (a0.size : Int) := of_decide_eq_true (by first | (with_reducible assumption) | assumption)
                          have hx10 := bt_at a0 x3_2
                          replace p10 := eq_true p10
                          replace q10 := eq_true q10
                          go_wp2
                          go_roundg k2
                          case measure => have := HJ1.out; have := HK2.out; omega
                          case rel => exact ⟨(wrap64 (x3_2 + 1)), (by first | rfl | (simp; done) | (simp [*]; done)), H', ⟨by have := HJ1.out; have := HK2.out; omega⟩, ⟨by repeat (first | (with_reducible first | exact HB.out | apply below_alloc | apply pw_below_drewN | apply below_drew1) | exact HB.out)⟩⟩
                        · rw [if_neg c15] at H
                          have c15b0 : decide ((bt a0 x3_2) ≤ 90) = false := decide_eq_false c15
                          clear c15
                          by_cases c16 : x3_2 = 0
                          · rw [if_pos c16] at H
                            have c16b0 : (x3_2 == 0) = true := beq_iff_eq.mpr c16
                            have c16b1 : (x3_2 != 0) = false := bne_eq_false_iff_eq.mpr c16
                            clear c16
                            obtain rfl := Option.some.inj H
                            have p10 : 0 ≤ (x3_2 : Int) := of_decide_eq_true (by first | (with_reducible assumption) | assumption)
                            have q10 : x3_2 < (a0.size : Int) := of_decide_eq_true (by first | (with_reducible assumption) | assumption)
                            have hx10 := bt_at a0 x3_2
                            replace p10 := eq_true p10
                            replace q10 := eq_true q10
                            go_wp2
                            go_ret
                            exact ⟨by first | rfl | (simp [errW_none, errW_some] <;> rfl) | (simp [*, errW_none, errW_some] <;> rfl), by repeat (first | (with_reducible first | exact HB.out | apply below_alloc | apply pw_below_drewN | apply below_drew1) | exact HB.out)⟩
                          · rw [if_neg c16] at H
                            have c16b0 : (x3_2 == 0) = false := beq_eq_false_iff_ne.mpr c16
                            have c16b1 : (x3_2 != 0) = true := bne_iff_ne.mpr c16
                            by_cases c17 : (bt a0 x3_2) < 48
                            · rw [if_pos c17] at H
                              have c17b0 : decide ((bt a0 x3_2) < 48) = true := decide_eq_true c17
                              clear c17
                              obtain rfl := Option.some.inj H
                              have p10 : 0 ≤ (x3_2 : Int) := of_decide_eq_true (by first | (with_reducible assumption) | assumption)
                              have q10 : x3_2 < (a0.size : Int) := of_decide_eq_true (by first | (with_reducible assumption) | assumption)
                              have hx10 := bt_at a0 x3_2
                              replace p10 := eq_true p10
                              replace q10 := eq_true q10
                              go_wp2
                              go_ret
                              exact ⟨by first | rfl | (simp [errW_none, errW_some] <;> rfl) | (simp [*, errW_none, errW_some] <;> rfl), by repeat (first | (with_reducible first | exact HB.out | apply below_alloc | apply pw_below_drewN | apply below_drew1) | exact HB.out)⟩
                            · rw [if_neg c17] at H
                              have c17b0 : decide ((bt a0 x3_2) < 48) = false := decide_eq_false c17
                              clear c17
                              by_cases c18 : (bt a0 x3_2) > 57
                              · rw [if_pos c18] at H
                                have c18b0 : decide (57 < (bt a0 x3_2)) = true := decide_eq_true c18
                                clear c18
                                obtain rfl := Option.some.inj H
                                have p10 : 0 ≤ (x3_2 : Int) := of_decide_eq_true (by first | (with_reducible assumption) | assumption)
                                have q10 : x3_2 < (a0.size : Int) := of_decide_eq_true (by first | (with_reducible assumption) | assumption)
                                have hx10 := bt_at a0 x3_2
                                replace p10 := eq_true p10
                                replace q10 := eq_true q10
                                go_wp2
                                go_ret
                                exact ⟨by first | rfl | (simp [errW_none, errW_some] <;> rfl) | (simp [*, errW_none, errW_some] <;> rfl), by repeat (first | (with_reducible first | exact HB.out | apply below_alloc | apply pw_below_drewN | apply below_drew1) | exact HB.out)⟩
                              · rw [if_neg c18] at H
                                have c18b0 : decide (57 < (bt a0 x3_2)) = false := decide_eq_false c18
                                clear c18
                                have H' := Aside0.mk H
                                clear H
                                have p10 : 0 ≤ (x3_2 : Int) := of_decide_eq_true (by first | (with_reducible assumption) | assumption)
                                have q10 : x3_2 < (a0.size : Int) := of_decide_eq_true (by first | (with_reducible assumption) | assumption)
                                have hx10 := bt_at a0 x3_2
                                replace p10 := eq_true p10
                                replace q10 := eq_true q10
                                go_wp2
                                go_roundg k2
                                case measure => have := HJ1.out; have := HK2.out; omega
                                case rel => exact ⟨(wrap64 (x3_2 + 1)), (by first | rfl | (simp; done) | (simp [*]; done)), H', ⟨by have := HJ1.out; have := HK2.out; omega⟩, ⟨by repeat (first | (with_reducible first | exact HB.out | apply below_alloc | apply pw_below_drewN | apply below_drew1) | exact HB.out)⟩⟩
                      · rw [if_neg c14] at H
                        have c14b0 : decide (65 ≤ (bt a0 x3_2)) = false := decide_eq_false c14
                        clear c14
                        by_cases c19 : x3_2 = 0
                        · rw [if_pos c19] at H
                          have c19b0 : (x3_2 == 0) = true := beq_iff_eq.mpr c19
                          have c19b1 : (x3_2 != 0) = false := bne_eq_false_iff_eq.mpr c19
                          clear c19
                          obtain rfl := Option.some.inj H
                          have p10 : 0 ≤ (x3_2 : Int) := of_decide_eq_true (by first | (with_reducible assumption) | assumption)
                          have q10 : x3_2 < (a0.size : Int) := of_decide_eq_true (by first | (with_reducible assumption) | assumption)
                          have hx10 := bt_at a0 x3_2
                          replace p10 := eq_true p10
                          replace q10 := eq_true q10
                          go_wp2
                          go_ret
                          exact ⟨by first | rfl | (simp [errW_none, errW_some] <;> rfl) | (simp [*, errW_none, errW_some] <;> rfl), by repeat (first | (with_reducible first | exact HB.out | apply below_alloc | apply pw_below_drewN | apply below_drew1) | exact HB.out)⟩
                        · rw [if_neg c19] at H
                          have c19b0 : (x3_2 == 0) = false := beq_eq_false_iff_ne.mpr c19
                          have c19b1 : (x3_2 != 0) = true := bne_iff_ne.mpr c19
                          by_cases c20 : (bt a0 x3_2) < 48
                          · rw [if_pos c20] at H
                            have c20b0 : decide ((bt a0 x3_2) < 48) = true := decide_eq_true c20
                            clear c20
                            obtain rfl := Option.some.inj H
                            have p10 : 0 ≤ (x3_2 : Int) := of_decide_eq_true (by first | (with_reducible assumption) | assumption)
                            have q10 : x3_2 < (a0.size : Int) := of_decide_eq_true (by first | (with_reducible assumption) | assumption)
                            have hx10 := bt_at a0 x3_2
                            replace p10 := eq_true p10
                            replace q10 := eq_true q10
                            go_wp2
                            go_ret
                            exact ⟨by first | rfl | (simp [errW_none, errW_some] <;> rfl) | (simp [*, errW_none, errW_some] <;> rfl), by repeat (first | (with_reducible first | exact HB.out | apply below_alloc | apply pw_below_drewN | apply below_drew1) | exact HB.out)⟩
                          · rw [if_neg c20] at H
                            have c20b0 : decide ((bt a0 x3_2) < 48) = false := decide_eq_false c20
                            clear c20
                            by_cases c21 : (bt a0 x3_2) > 57
                            · rw [if_pos c21] at H
                              have c21b0 : decide (57 < (bt a0 x3_2)) = true := decide_eq_true c21
                              clear c21
                              obtain rfl := Option.some.inj H
                              have p10 : 0 ≤ (x3_2 : Int) := of_decide_eq_true (by first | (with_reducible assumption) | assumption)
                              have q10 : x3_2 < (a0.size : Int) := of_decide_eq_true (by first | (with_reducible assumption) | assumption)
                              have hx10 := bt_at a0 x3_2
                              replace p10 := eq_true p10
                              replace q10 := eq_true q10
                              go_wp2
                              go_ret
                              exact ⟨by first | rfl | (simp [errW_none, errW_some] <;> rfl) | (simp [*, errW_none, errW_some] <;> rfl), by repeat (first | (with_reducible first | exact HB.out | apply below_alloc | apply pw_below_drewN | apply below_drew1) | exact HB.out)⟩
                            · rw [if_neg c21] at H
                              have c21b0 : decide (57 < (bt a0 x3_2)) = false := decide_eq_false c21
                              clear c21
                              have H' := Aside0.mk H
                              clear H
                              have p10 : 0 ≤ (x3_2 : Int) := of_decide_eq_true (by first | (with_reducible assumption) | assumption)
                              have q10 : x3_2 < (a0.size : Int) := of_decide_eq_true (by first | (with_reducible assumption) | assumption)
                              have hx10 := bt_at a0 x3_2
                              replace p10 := eq_true p10
                              replace q10 := eq_true q10
                              go_wp2
                              go_roundg k2
                              case measure => have := HJ1.out; have := HK2.out; omega
                              case rel => exact ⟨(wrap64 (x3_2 + 1)), (by first | rfl | (simp; done) | (simp [*]; done)), H', ⟨by have := HJ1.out; have := HK2.out; omega⟩, ⟨by repeat (first | (with_reducible first | exact HB.out | apply below_alloc | apply pw_below_drewN | apply below_drew1) | exact HB.out)⟩⟩
                  · rw [if_neg c12] at H
                    have c12b0 : decide (97 ≤ (bt a0 x3_2)) = false := decide_eq_false c12
                    clear c12
                    by_cases c22 : (bt a0 x3_2) ≥ 65
                    · rw [if_pos c22] at H
                      have c22b0 : decide (65 ≤ (bt a0 x3_2)) = true := decide_eq_true c22
                      clear c22
                      by_cases c23 : ((bt a0 x3_2) ≤ 90)
                      · rw [if_pos c23] at H
                        have c23b0 : decide ((bt a0 x3_2) ≤ 90) = true := decide_eq_true c23
                        clear c23
                        have H' := Aside0.mk H
                        clear H
                        have p10 : 0 ≤ (x3_2 : Int) := of_decide_eq_true (by first | (with_reducible assumption) | assumption)
                        have q10 : x3_2 < (a0.size : Int) := of_decide_eq_true (by first | (with_reducible assumption) | assumption)
                        have hx10 := bt_at a0 x3_2
                        replace p10 := eq_true p10
                        replace q10 := eq_true q10
                        go_wp2
                        go_roundg k2
                        case measure => have := HJ1.out; have := HK2.out; omega
                        case rel => exact ⟨(wrap64 (x3_2 + 1)), (by first | rfl | (simp; done) | (simp [*]; done)), H', ⟨by have := HJ1.out; have := HK2.out; omega⟩, ⟨by repeat (first | (with_reducible first | exact HB.out | apply below_alloc | apply pw_below_drewN | apply below_drew1) | exact HB.out)⟩⟩
                      · rw [if_neg c23] at H
                        have c23b0 : decide ((bt a0 x3_2) ≤ 90) = false := decide_eq_false c23
                        clear c23
                        by_cases c24 : x3_2 = 0
                        · rw [if_pos c24] at H
                          have c24b0 : (x3_2 == 0) = true := beq_iff_eq.mpr c24
                          have c24b1 : (x3_2 != 0) = false := bne_eq_false_iff_eq.mpr c24
                          clear c24
                          obtain rfl := Option.some.inj H
                          have p10 : 0 ≤ (x3_2 : Int) := of_decide_eq_true (by first | (with_reducible assumption) | assumption)
                          have q10 : x3_2 < (a0.size : Int) := of_decide_eq_true (by first | (with_reducible assumption) | assumption)
                          have hx10 := bt_at a0 x3_2
                          replace p10 := eq_true p10
                          replace q10 := eq_true q10
                          go_wp2
                          go_ret
                          exact ⟨by first | rfl | (simp [errW_none, errW_some] <;> rfl) | (simp [*, errW_none, errW_some] <;> rfl), by repeat (first | (with_reducible first | exact HB.out | apply below_alloc | apply pw_below_drewN | apply below_drew1) | exact HB.out)⟩
                        · rw [if_neg c24] at H
                          have c24b0 : (x3_2 == 0) = false := beq_eq_false_iff_ne.mpr c24
                          have c24b1 : (x3_2 != 0) = true := bne_iff_ne.mpr c24
                          by_cases c25 : (bt a0 x3_2) < 48
                          · rw [if_pos c25] at H
                            have c25b0 : decide ((bt a0 x3_2) < 48) = true := decide_eq_true c25
                            clear c25
                            obtain rfl := Option.some.inj H
                            have p10 : 0 ≤ (x3_2 : Int) := of_decide_eq_true (by first | (with_reducible assumption) | assumption)
                            have q10 : x3_2 < (a0.size : Int) := of_decide_eq_true (by first | (with_reducible assumption) | assumption)
                            have hx10 := bt_at a0 x3_2
                            replace p10 := eq_true p10
                            replace q10 := eq_true q10
                            go_wp2
                            go_ret
                            exact ⟨by first | rfl | (simp [errW_none, errW_some] <;> rfl) | (simp [*, errW_none, errW_some] <;> rfl), by repeat (first | (with_reducible first | exact HB.out | apply below_alloc | apply pw_below_drewN | apply below_drew1) | exact HB.out)⟩
                          · rw [if_neg c25] at H
                            have c25b0 : decide ((bt a0 x3_2) < 48) = false := decide_eq_false c25
                            clear c25
                            by_cases c26 : (bt a0 x3_2) > 57
                            · rw [if_pos c26] at H
                              have c26b0 : decide (57 < (bt a0 x3_2)) = true := decide_eq_true c26
                              clear c26
                              obtain rfl := Option.some.inj H
                              have p10 : 0 ≤ (x3_2 : Int) := of_decide_eq_true (by first | (with_reducible assumption) | assumption)
                              have q10 : x3_2 < (a0.size : Int) := of_decide_eq_true (by first | (with_reducible assumption) | assumption)
                              have hx10 := bt_at a0 x3_2
                              replace p10 := eq_true p10
                              replace q10 := eq_true q10
                              go_wp2
                              go_ret
                              exact ⟨by first | rfl | (simp [errW_none, errW_some] <;> rfl) | (simp [*, errW_none, errW_some] <;> rfl), by repeat (first | (with_reducible first | exact HB.out | apply below_alloc | apply pw_below_drewN | apply below_drew1) | exact HB.out)⟩
                            · rw [if_neg c26] at H
                              have c26b0 : decide (57 < (bt a0 x3_2)) = false := decide_eq_false c26
                              clear c26
                              have H' := Aside0.mk H
                              clear H
                              have p10 : 0 ≤ (x3_2 : Int) := of_decide_eq_true (by first | (with_reducible assumption) | assumption)
                              have q10 : x3_2 < (a0.size : Int) := of_decide_eq_true (by first | (with_reducible assumption) | assumption)
                              have hx10 := bt_at a0 x3_2
                              replace p10 := eq_true p10
                              replace q10 := eq_true q10
                              go_wp2
                              go_roundg k2
                              case measure => have := HJ1.out; have := HK2.out; omega
                              case rel => exact ⟨(wrap64 (x3_2 + 1)), (by first | rfl | (simp; done) | (simp [*]; done)), H', ⟨by have := HJ1.out; have := HK2.out; omega⟩, ⟨by repeat (first | (with_reducible first | exact HB.out | apply below_alloc | apply pw_below_drewN | apply below_drew1) | exact HB.out)⟩⟩
                    · rw [if_neg c22] at H
                      have c22b0 : decide (65 ≤ (bt a0 x3_2)) = false := decide_eq_false c22
                      clear c22
                      by_cases c27 : x3_2 = 0
                      · rw [if_pos c27] at H
                        have c27b0 : (x3_2 == 0) = true := beq_iff_eq.mpr c27
                        have c27b1 : (x3_2 != 0) = false := bne_eq_false_iff_eq.mpr c27
                        clear c27
                        obtain rfl := Option.some.inj H
                        have p10 : 0 ≤ (x3_2 : Int) := of_decide_eq_true (by first | (with_reducible assumption) | assumption)
                        have q10 : x3_2 < (a0.size : Int) := of_decide_eq_true (by first | (with_reducible assumption) | assumption)
                        have hx10 := bt_at a0 x3_2
                        replace p10 := eq_true p10
                        replace q10 := eq_true q10
                        go_wp2
                        go_ret
                        exact ⟨by first | rfl | (simp [errW_none, errW_some] <;> rfl) | (simp [*, errW_none, errW_some] <;> rfl), by repeat (first | (with_reducible first | exact HB.out | apply below_alloc | apply pw_below_drewN | apply below_drew1) | exact HB.out)⟩
                      · rw [if_neg c27] at H
                        have c27b0 : (x3_2 == 0) = false := beq_eq_false_iff_ne.mpr c27
                        have c27b1 : (x3_2 != 0) = true := bne_iff_ne.mpr c27
                        by_cases c28 : (bt a0 x3_2) < 48
                        · rw [if_pos c28] at H
                          have c28b0 : decide ((bt a0 x3_2) < 48) = true := decide_eq_true c28
                          clear c28
                          obtain rfl := Option.some.inj H
                          have p10 : 0 ≤ (x3_2 : Int) := of_decide_eq_true (by first | (with_reducible assumption) | assumption)
                          have q10 : x3_2 < (a0.size : Int) := of_decide_eq_true (by first | (with_reducible assumption) | assumption)
                          have hx10 := bt_at a0 x3_2
                          replace p10 := eq_true p10
                          replace q10 := eq_true q10
                          go_wp2
                          go_ret
                          exact ⟨by first | rfl | (simp [errW_none, errW_some] <;> rfl) | (simp [*, errW_none, errW_some] <;> rfl), by repeat (first | (with_reducible first | exact HB.out | apply below_alloc | apply pw_below_drewN | apply below_drew1) | exact HB.out)⟩
                        · rw [if_neg c28] at H
                          have c28b0 : decide ((bt a0 x3_2) < 48) = false := decide_eq_false c28
                          clear c28
                          by_cases c29 : (bt a0 x3_2) > 57
                          · rw [if_pos c29] at H
                            have c29b0 : decide (57 < (bt a0 x3_2)) = true := decide_eq_true c29
                            clear c29
                            obtain rfl := Option.some.inj H
                            have p10 : 0 ≤ (x3_2 : Int) := of_decide_eq_true (by first | (with_reducible assumption) | assumption)
                            have q10 : x3_2 < (a0.size : Int) := of_decide_eq_true (by first | (with_reducible assumption) | assumption)
                            have hx10 := bt_at a0 x3_2
                            replace p10 := eq_true p10
                            replace q10 := eq_true q10
                            go_wp2
                            go_ret
                            exact ⟨by first | rfl | (simp [errW_none, errW_some] <;> rfl) | (simp [*, errW_none, errW_some] <;> rfl), by repeat (first | (with_reducible first | exact HB.out | apply below_alloc | apply pw_below_drewN | apply below_drew1) | exact HB.out)⟩
                          · rw [if_neg c29] at H
                            have c29b0 : decide (57 < (bt a0 x3_2)) = false := decide_eq_false c29
                            clear c29
                            have H' := Aside0.mk H
                            clear H
                            have p10 : 0 ≤ (x3_2 : Int) := of_decide_eq_true (by first | (with_reducible assumption) | assumption)
                            have q10 : x3_2 < (a0.size : Int) := of_decide_eq_true (by first | (with_reducible assumption) | assumption)
                            have hx10 := bt_at a0 x3_2
                            replace p10 := eq_true p10
                            replace q10 := eq_true q10
                            go_wp2
                            go_roundg k2
                            case measure => have := HJ1.out; have := HK2.out; omega
                            case rel => exact ⟨(wrap64 (x3_2 + 1)), (by first | rfl | (simp; done) | (simp [*]; done)), H', ⟨by have := HJ1.out; have := HK2.out; omega⟩, ⟨by repeat (first | (with_reducible first | exact HB.out | apply below_alloc | apply pw_below_drewN | apply below_drew1) | exact HB.out)⟩⟩
              · rw [if_neg c9] at H
                exact absurd H (by simp)
            · rw [if_neg c8] at H
              have c8b0 : decide (x3_2 < (a0.size : Int)) = false := decide_eq_false c8
              clear c8
              obtain rfl := Option.some.inj H
              go_wp2
              go_ret
              exact ⟨by first | rfl | (simp [errW_none, errW_some] <;> rfl) | (simp [*, errW_none, errW_some] <;> rfl), by repeat (first | (with_reducible first | exact HB.out | apply below_alloc | apply pw_below_drewN | apply below_drew1) | exact HB.out)⟩
end Go.Proofs.YtaijoghpfobdbaaDoor.X
end
section
set_option linter.unusedVariables false
set_option linter.unusedSimpArgs false
namespace Go.Proofs.YtaijoghpfobdbaaDoor.T
open Go.RowKit Go.Proofs.YtaijoghpfobdbaaDoor Go.Proofs.YtaijoghpfobdbaaDoor.X Go.Proofs.YtaijoghpfobdbaaDoor.L Go.Proofs.YtaijoghpfobdbaaDoorW.PrintWords Go.Proofs.YtaijoghpfobdbaaDoorW.PrintLast Go.Proofs.YtaijoghpfobdbaaDoorW.PrintMore
open Go.Proofs.YtaijoghpfobdbaaDoor.P (Nd ahd btw bhd wordList wordB nameB)
theorem ev_ite {α : Type} {p : Prop} [Decidable p] {f g : Nat → Option α} {r : α} (h1 : p → Ev f r) (h2 : ¬ p → Ev g r) : Ev (fun k => if p then f k else g k) r := by
  by_cases h : p
  · simp only [if_pos h]; exact h1 h
  · simp only [if_neg h]; exact h2 h
theorem rdig_back (l : List UInt8) (hl : l.length < 100) : ∀ (i : Nat) (m : List UInt8), i ≤ l.length → m.length + i ≤ 100 → Ev (fun k => stratumref10_digits.l1 k (nums l) (nums m) ((i : Int) - 1)) (ba (m ++ (l.take i).reverse))
  | 0, m, _, _ => by
    refine Ev.step (fun k => by simp only [stratumref10_digits.l1]; rfl) ?_
    simp only [if_neg (show ¬ ((0 : Nat) : Int) - 1 ≥ 0 by omega), strOf, List.take_zero, List.reverse_nil, List.append_nil]
    exact Ev.now _
  | i + 1, m, hi, hm => by
    have hlt : i < l.length := by omega
    have hrd : rd (nums l) (i : Int) = (l[i].toNat : Int) := by
      unfold rd nums
      rw [Int.toNat_natCast, List.getD_eq_getElem?_getD, List.getElem?_map, List.getElem?_eq_getElem hlt]; rfl
    have W : Aside0 (wrap64 ((i : Int) - 1) = (i : Int) - 1) := ⟨by unfold wrap64; omega⟩
    refine Ev.step (fun k => by simp only [stratumref10_digits.l1]; rfl) ?_
    have ih := rdig_back l hl i (m ++ [l[i]]) (by omega) (by rw [List.length_append, List.length_singleton]; omega)
    rw [List.append_assoc, show [l[i]] ++ (l.take i).reverse = (l.take (i + 1)).reverse by rw [List.take_succ_eq_append_getElem hlt, List.reverse_append]; rfl, ← nums_snoc] at ih
    simp only [show ((i + 1 : Nat) : Int) - 1 = (i : Int) by omega, if_pos (show (i : Int) ≥ 0 by omega), if_pos (show (0 : Int) ≤ (i : Int) by omega), nums_len, if_pos (show (i : Int) < (l.length : Int) by omega), if_pos (show m.length < 140737488355328 by omega), hrd, W.out]
    exact ih
theorem dg48 (n : Nat) (h : n < 10) : IntKind.u64.wrap (48 + (n : Int)) % 256 = ((UInt8.ofNat (48 + n)).toNat : Int) := by
  rw [IntKind.wrap_u64]
  rw [UInt8.toNat_ofNat']
  omega
theorem rdig_on : ∀ (d u : Nat) (acc : List UInt8), u < 10 ^ (d + 1) → acc.length + d ≤ 50 → u < 18446744073709551616 → Ev (fun k => stratumref10_digits.l0 k (u : Int) (nums acc)) (ba (Lib.decDigits u ++ acc.reverse)) := by
  intro d
  induction d with
  | zero =>
    intro u acc hu ha h64
    have hu : u < 10 := by simpa using hu
    refine Ev.step (fun k => by simp only [stratumref10_digits.l0]; rfl) ?_
    have e := rdig_back (acc ++ [UInt8.ofNat (48 + u)]) (by rw [List.length_append, List.length_singleton]; omega) (acc.length + 1) [] (by rw [List.length_append, List.length_singleton]; omega) (by simp; omega)
    rw [List.take_of_length_le (by simp), List.nil_append, List.reverse_append, ← nums_snoc] at e
    have W : Aside0 (wrap64 (((acc.length + 1 : Nat) : Int) - 1) = ((acc.length + 1 : Nat) : Int) - 1) := ⟨by unfold wrap64; omega⟩
    simp only [if_neg (show ¬ (u : Int) ≥ 10 by omega), nums_len, if_pos (show acc.length < 140737488355328 by omega), Option.bind_some, dg48 u hu, List.length_append, List.length_singleton, W.out]
    rw [Lib.decDigits_one hu]
    exact e
  | succ d ih =>
    intro u acc hu ha h64
    by_cases h10 : u < 10
    · refine Ev.step (fun k => by simp only [stratumref10_digits.l0]; rfl) ?_
      have e := rdig_back (acc ++ [UInt8.ofNat (48 + u)]) (by rw [List.length_append, List.length_singleton]; omega) (acc.length + 1) [] (by rw [List.length_append, List.length_singleton]; omega) (by simp; omega)
      rw [List.take_of_length_le (by simp), List.nil_append, List.reverse_append, ← nums_snoc] at e
      have W : Aside0 (wrap64 (((acc.length + 1 : Nat) : Int) - 1) = ((acc.length + 1 : Nat) : Int) - 1) := ⟨by unfold wrap64; omega⟩
      simp only [if_neg (show ¬ (u : Int) ≥ 10 by omega), nums_len, if_pos (show acc.length < 140737488355328 by omega), Option.bind_some, dg48 u h10, List.length_append, List.length_singleton, W.out]
      rw [Lib.decDigits_one h10]
      exact e
    · have hd : Lib.decDigits u = Lib.decDigits (u / 10) ++ [UInt8.ofNat (48 + u % 10)] := by rw [Lib.decDigits, dif_neg h10]
      have e := ih (u / 10) (acc ++ [UInt8.ofNat (48 + u % 10)]) (by rw [Nat.pow_succ] at hu; omega) (by rw [List.length_append, List.length_singleton]; omega) (by omega)
      rw [List.reverse_append, ← nums_snoc] at e
      have W1 : Aside0 (IntKind.u64.wrap (Int.tdiv (u : Int) 10) = ((u / 10 : Nat) : Int)) := ⟨by rw [IntKind.wrap_u64, Int.tdiv_eq_ediv_of_nonneg (by omega)]; omega⟩
      have W2 : Int.tmod (u : Int) 10 = ((u % 10 : Nat) : Int) := by rw [Int.tmod_eq_emod_of_nonneg (by omega)]; omega
      refine Ev.step (fun k => by simp only [stratumref10_digits.l0]; rfl) ?_
      simp only [if_pos (show (u : Int) ≥ 10 by omega), nums_len, if_pos (show acc.length < 140737488355328 by omega), W1.out, W2, dg48 (u % 10) (by omega)]
      rw [hd, List.append_assoc]
      exact e
theorem rdigits_ev (u : Nat) (hu : u < 18446744073709551616) : Ev (fun k => stratumref10_digits.f k (u : Int)) (ba (Lib.decDigits u)) := by
  have := rdig_on 20 u [] (by omega) (by simp) hu
  rw [List.reverse_nil, List.append_nil] at this
  exact Ev.congr (fun k => rfl) this
theorem rquote_ev (s : ByteArray) (hs : s.size ≤ 4398046511104) : Ev (fun k => stratumref10_Quote.f k s) (ba (L.Quote s.data.toList)) := by
  have key : ∀ (d i : Nat) (acc : List UInt8), s.size - i ≤ d → i ≤ s.size → acc.length ≤ 4 * i + 1 → Ev (fun k => stratumref10_Quote.l0 k s (nums acc) (i : Int)) (ba (acc ++ (qs (s.data.toList.drop i) ++ [34]))) := by
    intro d
    induction d with
    | zero =>
      intro i acc hd hi ha
      have e : s.data.toList.drop i = [] := List.drop_of_length_le (by rw [← size_len]; omega)
      refine Ev.step (fun k => by simp only [stratumref10_Quote.l0]; rfl) ?_
      rw [e]
      simp only [if_neg (show ¬ (i : Int) < (s.size : Int) by omega), if_pos (show (nums acc).length < 140737488355328 by rw [nums_len]; omega), qs, List.nil_append]
      rw [show nums acc ++ [34] = nums (acc ++ [34]) from nums_snoc acc 34, strOf]
      exact Ev.now _
    | succ d ih =>
      intro i acc hd hi ha
      cases hl : s.data.toList.drop i with
      | nil =>
        have := drop_len hl hi
        simp only [List.length_nil] at this
        have := ih i acc (by omega) hi ha
        rw [hl] at this; exact this
      | cons b t =>
        have hlt := drop_lt hl
        have hbt := bt_drop hl
        have hnx := drop_next hl
        have W : Aside0 (wrap64 ((i : Int) + 1) = ((i + 1 : Nat) : Int)) := ⟨w1 1 (by omega)⟩
        have hq := qb_len b
        have ihn := ih (i + 1) (acc ++ qb b) (by omega) (by omega) (by rw [List.length_append]; omega)
        rw [hnx] at ihn
        have hlen : (nums acc).length < 140737488355000 := by rw [nums_len]; omega
        have hb := b.toNat_lt
        have goal : acc ++ (qs (b :: t) ++ [34]) = acc ++ qb b ++ (qs t ++ [34]) := by rw [qs]; simp only [List.append_assoc]
        rw [goal]
        have fin : ∀ (e : List UInt8), qb b = e → Ev (fun k => stratumref10_Quote.l0 k s (nums acc ++ nums e) ((i + 1 : Nat) : Int)) (ba (acc ++ qb b ++ (qs t ++ [34]))) := by
          intro e he; rw [← he, nums_app]; exact ihn
        have hj : ∀ x : Bool, (x = true ↔ (b.toNat = 92 ∨ b.toNat = 34)) → Ev (fun k => stratumref10_Quote.j1 k s (nums acc) (i : Int) (b.toNat : Int) x) (ba (acc ++ qb b ++ (qs t ++ [34]))) := by
          intro x hxx
          refine Ev.step (fun k => by simp only [stratumref10_Quote.j1]; rfl) ?_
          simp only [Option.bind_some, List.length_cons, List.length_nil, W.out]
          by_cases h1 : b.toNat = 92 ∨ b.toNat = 34
          · simp only [hxx.2 h1, if_true, if_pos (show (nums acc).length + (0 + 1 + 1) < 140737488355328 by omega)]
            exact fin [92, b] (by unfold qb; rw [if_pos h1])
          have hxf : ¬ x = true := fun h => h1 (hxx.1 h)
          simp only [if_neg hxf]
          by_cases h2 : b.toNat = 10
          · simp only [if_pos (show (b.toNat : Int) = 10 by omega), if_pos (show (nums acc).length + (0 + 1 + 1) < 140737488355328 by omega)]
            exact fin [92, 110] (by unfold qb; rw [if_neg h1, if_pos h2])
          simp only [if_neg (show ¬ (b.toNat : Int) = 10 by omega)]
          by_cases h3 : b.toNat = 9
          · simp only [if_pos (show (b.toNat : Int) = 9 by omega), if_pos (show (nums acc).length + (0 + 1 + 1) < 140737488355328 by omega)]
            exact fin [92, 116] (by unfold qb; rw [if_neg h1, if_neg h2, if_pos h3])
          simp only [if_neg (show ¬ (b.toNat : Int) = 9 by omega)]
          by_cases h4 : 32 ≤ b.toNat ∧ b.toNat ≤ 126
          · simp only [if_pos (show (b.toNat : Int) ≥ 32 by omega), if_pos (show (b.toNat : Int) < 127 by omega), if_pos (show (nums acc).length < 140737488355328 by omega)]
            exact fin [b] (by unfold qb; rw [if_neg h1, if_neg h2, if_neg h3, if_pos h4])
          have d16 : Int.tdiv (b.toNat : Int) 16 % 256 = ((b.toNat / 16 : Nat) : Int) := by rw [Int.tdiv_eq_ediv_of_nonneg (by omega)]; omega
          have m16 : Int.tmod (b.toNat : Int) 16 = ((b.toNat % 16 : Nat) : Int) := by rw [Int.tmod_eq_emod_of_nonneg (by omega)]; omega
          have dg1 : bt (⟨#[48, 49, 50, 51, 52, 53, 54, 55, 56, 57, 97, 98, 99, 100, 101, 102]⟩ : ByteArray) ((b.toNat / 16 : Nat) : Int) = ((L.hx (b.toNat / 16)).toNat : Int) := digs_hx _ (by omega)
          have dg2 : bt (⟨#[48, 49, 50, 51, 52, 53, 54, 55, 56, 57, 97, 98, 99, 100, 101, 102]⟩ : ByteArray) ((b.toNat % 16 : Nat) : Int) = ((L.hx (b.toNat % 16)).toNat : Int) := digs_hx _ (by omega)
          have last := fin [92, 120, L.hx (b.toNat / 16), L.hx (b.toNat % 16)] (by unfold qb; rw [if_neg h1, if_neg h2, if_neg h3, if_neg h4])
          by_cases h5 : (b.toNat : Int) ≥ 32
          · simp only [if_pos h5, if_neg (show ¬ (b.toNat : Int) < 127 by omega), d16, m16, dg1, dg2, if_pos (show (0 : Int) ≤ ((b.toNat / 16 : Nat) : Int) by omega), if_pos (show ((b.toNat / 16 : Nat) : Int) < 16 by omega), if_pos (show (0 : Int) ≤ ((b.toNat % 16 : Nat) : Int) by omega), if_pos (show ((b.toNat % 16 : Nat) : Int) < 16 by omega), if_pos (show (nums acc).length + (0 + 1 + 1 + 1 + 1) < 140737488355328 by omega)]
            exact last
          · simp only [if_neg h5, d16, m16, dg1, dg2, if_pos (show (0 : Int) ≤ ((b.toNat / 16 : Nat) : Int) by omega), if_pos (show ((b.toNat / 16 : Nat) : Int) < 16 by omega), if_pos (show (0 : Int) ≤ ((b.toNat % 16 : Nat) : Int) by omega), if_pos (show ((b.toNat % 16 : Nat) : Int) < 16 by omega), if_pos (show (nums acc).length + (0 + 1 + 1 + 1 + 1) < 140737488355328 by omega)]
            exact last
        refine Ev.step (fun k => by simp only [stratumref10_Quote.l0]; rfl) ?_
        simp only [if_pos (show (i : Int) < (s.size : Int) by omega), if_pos (show (0 : Int) ≤ (i : Int) by omega), hbt]
        by_cases h0 : b.toNat = 34
        · simp only [if_pos (show (b.toNat : Int) = 34 by omega)]
          exact hj true (by simp [h0])
        · simp only [if_neg (show ¬ (b.toNat : Int) = 34 by omega)]
          exact hj _ (by rw [beq_iff_eq]; omega)
  have := key s.size 0 [34] (by omega) (by omega) (by simp)
  rw [List.drop_zero] at this
  exact Ev.congr (fun k => rfl) this
theorem rahead_j (x : Int) (b : Bool) : Ev (fun k => stratumref10_ahead.j0 k x b) (if b = true then ⟨#[40]⟩ else if x = 9 then ⟨#[99, 97, 116, 40]⟩ else if x = 10 then ⟨#[114, 101, 112, 40]⟩ else if x = 11 then ⟨#[108, 101, 110, 40]⟩ else ⟨#[104, 101, 120, 40]⟩) := by
  refine Ev.step (fun k => by simp only [stratumref10_ahead.j0]; rfl) ?_
  split
  · exact Ev.now _
  · split
    · exact Ev.now _
    · split
      · exact Ev.now _
      · split <;> exact Ev.now _
theorem rahead_ev (n : Nd) (hr : 0 ≤ n.f2 ∧ n.f2 < 18446744073709551616) (hs : n.f3.size ≤ 4398046511104) : Ev (fun k => stratumref10_ahead.f k n.f0 n.f1 n.f2 n.f3 n.f4) (ba (ahd n)) := by
  unfold stratumref10_ahead.f ahd
  by_cases h1 : n.f0 = 1
  · simp only [if_pos h1]
    have := rdigits_ev n.f2.toNat (by omega)
    rw [show ((n.f2.toNat : Nat) : Int) = n.f2 by omega] at this
    exact Ev.bind this (Ev.now _)
  by_cases h2 : n.f0 = 2
  · simp only [if_neg h1, if_pos h2]
    exact Ev.bind (rquote_ev n.f3 hs) (Ev.now _)
  by_cases h3 : n.f0 = 3
  · simp only [if_neg h1, if_neg h2, if_pos h3]; exact Ev.now _
  by_cases h4 : n.f0 = 4
  · simp only [if_neg h1, if_neg h2, if_neg h3, if_pos h4]; exact Ev.now _
  by_cases h5 : n.f0 = 5
  · simp only [if_neg h1, if_neg h2, if_neg h3, if_neg h4, if_pos h5]; exact Ev.now _
  by_cases h6 : n.f0 = 6
  · simp only [if_neg h1, if_neg h2, if_neg h3, if_neg h4, if_neg h5, if_pos h6, if_pos (show n.f0 = 6 ∨ n.f0 = 7 ∨ n.f0 = 8 from .inl h6)]
    have := rahead_j n.f0 (n.f0 == 6)
    rw [if_pos (by simp [h6])] at this; exact this
  by_cases h7 : n.f0 = 7
  · simp only [if_neg h1, if_neg h2, if_neg h3, if_neg h4, if_neg h5, if_neg h6, if_pos h7, if_pos (show n.f0 = 6 ∨ n.f0 = 7 ∨ n.f0 = 8 from .inr (.inl h7))]
    have := rahead_j n.f0 (n.f0 == 7)
    rw [if_pos (by simp [h7])] at this; exact this
  simp only [if_neg h1, if_neg h2, if_neg h3, if_neg h4, if_neg h5, if_neg h6, if_neg h7]
  have := rahead_j n.f0 (n.f0 == 8)
  by_cases h8 : n.f0 = 8
  · rw [if_pos (by simp [h8])] at this
    rw [if_pos (show n.f0 = 6 ∨ n.f0 = 7 ∨ n.f0 = 8 from .inr (.inr h8))]; exact this
  · rw [if_neg (by simp [h8])] at this
    rw [if_neg (by omega)]
    have e : ba (if n.f0 = 9 then [99, 97, 116, 40] else if n.f0 = 10 then [114, 101, 112, 40] else if n.f0 = 11 then [108, 101, 110, 40] else [104, 101, 120, 40]) = (if n.f0 = 9 then ⟨#[99, 97, 116, 40]⟩ else if n.f0 = 10 then ⟨#[114, 101, 112, 40]⟩ else if n.f0 = 11 then ⟨#[108, 101, 110, 40]⟩ else ⟨#[104, 101, 120, 40]⟩) := by
      repeat' split
      all_goals rfl
    rw [e]; exact this
theorem rbetween_eq (n : Nd) : stratumref10_between.f n.f0 n.f1 n.f2 n.f3 n.f4 = some (ba (btw n)) := by
  unfold stratumref10_between.f btw
  repeat' split
  all_goals rfl
theorem rbehind_eq (n : Nd) : stratumref10_behind.f n.f0 n.f1 n.f2 n.f3 n.f4 = some (ba (bhd n)) := by
  unfold stratumref10_behind.f bhd
  by_cases h : n.f0 ≥ 6
  · rw [if_pos h, if_pos (show 6 ≤ n.f0 from h)]; rfl
  · rw [if_neg h, if_neg (show ¬ 6 ≤ n.f0 from h)]; rfl
theorem isL_iff (b : UInt8) : isL b = true ↔ ((97 ≤ b.toNat ∧ b.toNat ≤ 122) ∨ (65 ≤ b.toNat ∧ b.toNat ≤ 90) ∨ b.toNat = 95) := by
  unfold isL G.letr
  rw [decide_eq_true_iff]
  omega
def wrdAll : List ByteArray := wordList.take 18
theorem rword_l (s : ByteArray) : ∀ (d i : Nat), 18 - i ≤ d → i ≤ 18 → Ev (fun k => stratumref10_word.l0 k s wrdAll (i : Int)) ((wrdAll.drop i).any fun y => y.toList == s.toList) := by
  have hlen : wrdAll.length = 18 := rfl
  intro d
  induction d with
  | zero =>
    intro i hd hi
    obtain rfl : i = 18 := by omega
    refine Ev.step (fun k => by simp only [stratumref10_word.l0]; rfl) ?_
    simp only [hlen]
    rw [List.drop_of_length_le (by rw [hlen]; exact Nat.le_refl _)]
    exact Ev.now _
  | succ d ih =>
    intro i hd hi
    by_cases h : i < 18
    · have W : Aside0 (wrap64 ((i : Int) + 1) = ((i + 1 : Nat) : Int)) := ⟨w1 1 (by omega)⟩
      have hrd : rdOf ByteArray.empty wrdAll (i : Int) = wrdAll[i]'(by rw [hlen]; exact h) := by
        unfold rdOf
        rw [Int.toNat_natCast, List.getD_eq_getElem?_getD, List.getElem?_eq_getElem (by rw [hlen]; exact h)]; rfl
      refine Ev.step (fun k => by simp only [stratumref10_word.l0]; rfl) ?_
      simp only [hlen, if_pos (show (i : Int) < ((18 : Nat) : Int) by omega), if_pos (show (0 : Int) ≤ (i : Int) by omega), hrd, W.out]
      rw [List.drop_eq_getElem_cons (by rw [hlen]; exact h)]
      by_cases he : (wrdAll[i]'(by rw [hlen]; exact h)).toList = s.toList
      · simp only [if_pos he]
        rw [List.any_cons, beq_iff_eq.2 he, Bool.true_or]
        exact Ev.now _
      · simp only [if_neg he]
        rw [List.any_cons, beq_eq_false_iff_ne.2 he, Bool.false_or]
        exact ih (i + 1) (by omega) (by omega)
    · exact ih i (by omega) hi
theorem rword_ev (s : ByteArray) : Ev (fun k => stratumref10_word.f k s) (wordB s) := by
  have := rword_l s 18 0 (by omega) (by omega)
  rw [List.drop_zero] at this
  have e : (wrdAll.any fun y => y.toList == s.toList) = wordB s := by
    rw [Bool.eq_iff_iff]
    unfold wordB
    rw [Lib.containsS_iff, List.any_eq_true]
    exact ⟨fun ⟨y, hy, h⟩ => by rw [Lib.bytes_beq_iff] at h; rw [← h]; exact hy, fun h => ⟨s, h, (Lib.bytes_beq_iff _ _).2 rfl⟩⟩
  rw [e] at this
  exact Ev.congr (fun k => rfl) this
theorem rname_l (s : ByteArray) : ∀ (d i : Nat), s.size - i ≤ d → i ≤ s.size → s.size ≤ 64 → Ev (fun k => stratumref10_name.l0 k s (i : Int)) (match s.data.toList.drop i with | [] => true | c :: t => (if i = 0 then isL c else isW c) && decide (lead isW t = t.length)) := by
  intro d
  induction d with
  | zero =>
    intro i hd hi h64
    have e : s.data.toList.drop i = [] := List.drop_of_length_le (by rw [← size_len]; omega)
    refine Ev.step (fun k => by simp only [stratumref10_name.l0]; rfl) ?_
    rw [e]
    simp only [if_neg (show ¬ (i : Int) < (s.size : Int) by omega)]
    exact Ev.now _
  | succ d ih =>
    intro i hd hi h64
    cases hl : s.data.toList.drop i with
    | nil =>
      have := drop_len hl hi
      simp only [List.length_nil] at this
      have := ih i (by omega) hi h64
      rw [hl] at this; exact this
    | cons c t =>
      have hlt := drop_lt hl
      have hbt := bt_drop hl
      have hnx := drop_next hl
      have ihn := ih (i + 1) (by omega) (by omega) h64
      rw [hnx] at ihn
      have W : Aside0 (wrap64 ((i : Int) + 1) = ((i + 1 : Nat) : Int)) := ⟨w1 1 (by omega)⟩
      have hcL := isL_iff c
      have hcD := isD_iff c
      have hW : isW c = (isL c || isD c) := rfl
      have key : ((c.toNat : Int) = 95 ∨ (97 ≤ (c.toNat : Int) ∧ (c.toNat : Int) ≤ 122) ∨ (65 ≤ (c.toNat : Int) ∧ (c.toNat : Int) ≤ 90) ∨ ((i : Int) ≠ 0 ∧ 48 ≤ (c.toNat : Int) ∧ (c.toNat : Int) ≤ 57)) → Ev (fun k => stratumref10_name.l0 k s ((i + 1 : Nat) : Int)) ((if i = 0 then isL c else isW c) && decide (lead isW t = t.length)) := by
        intro hh
        have e1 : (if i = 0 then isL c else isW c) = true := by
          split
          · exact hcL.2 (by omega)
          · rw [hW, Bool.or_eq_true]
            rcases hh with hh | hh | hh | hh
            · exact .inl (hcL.2 (by omega))
            · exact .inl (hcL.2 (by omega))
            · exact .inl (hcL.2 (by omega))
            · exact .inr (hcD.2 (by omega))
        rw [e1, Bool.true_and]
        cases t with
        | nil => exact ihn
        | cons c2 t2 =>
          simp only [Nat.succ_ne_zero, if_false] at ihn
          rw [lead]
          by_cases h2 : isW c2 = true
          · rw [if_pos h2, List.length_cons]
            rw [h2, Bool.true_and] at ihn
            rw [show decide (lead isW t2 + 1 = t2.length + 1) = decide (lead isW t2 = t2.length) by rw [Bool.eq_iff_iff, decide_eq_true_iff, decide_eq_true_iff]; omega]
            exact ihn
          · rw [if_neg h2, decide_eq_false (by rw [List.length_cons]; omega)]
            rw [Bool.eq_false_iff.2 h2, Bool.false_and] at ihn
            exact ihn
      have stop : ¬ ((c.toNat : Int) = 95 ∨ (97 ≤ (c.toNat : Int) ∧ (c.toNat : Int) ≤ 122) ∨ (65 ≤ (c.toNat : Int) ∧ (c.toNat : Int) ≤ 90) ∨ ((i : Int) ≠ 0 ∧ 48 ≤ (c.toNat : Int) ∧ (c.toNat : Int) ≤ 57)) → ((if i = 0 then isL c else isW c) && decide (lead isW t = t.length)) = false := by
        intro hh
        have e1 : (if i = 0 then isL c else isW c) = false := by
          have n1 : ¬ isL c = true := fun h => by have := hcL.1 h; omega
          split
          · exact Bool.eq_false_iff.2 n1
          · rw [Bool.eq_false_iff, hW]
            intro h
            rw [Bool.or_eq_true] at h
            rcases h with h | h
            · exact n1 h
            · have := hcD.1 h; omega
        rw [e1, Bool.false_and]
      refine Ev.step (fun k => by simp only [stratumref10_name.l0]; rfl) ?_
      simp only [if_pos (show (i : Int) < (s.size : Int) by omega), if_pos (show (0 : Int) ≤ (i : Int) by omega), hbt, W.out]
      repeat' (refine ev_ite (fun _ => ?_) (fun _ => ?_))
      all_goals first
        | exact key (by omega)
        | (rw [stop (by omega)]; exact Ev.now _)
theorem rname_ev (s : ByteArray) : Ev (fun k => stratumref10_name.f k s) (nameB s) := by
  have jT : Ev (fun k => stratumref10_name.j0 k s true) false := Ev.step (fun k => by simp only [stratumref10_name.j0, if_true]) (Ev.now _)
  unfold stratumref10_name.f
  cases hl : s.data.toList with
  | nil =>
    have h0 : s.size = 0 := by rw [size_len, hl]; rfl
    have e : nameB s = false := by unfold nameB; rw [hl]; rfl
    simp only [if_pos (show (s.size : Int) < 1 by omega)]; rw [e]; exact jT
  | cons b t =>
    have hsz : s.size = t.length + 1 := by rw [size_len, hl]; rfl
    simp only [if_neg (show ¬ (s.size : Int) < 1 by omega)]
    have hN : L.Name (b :: t) = (decide (t.length + 1 ≤ 64) && isL b && decide (lead isW t = t.length)) := by
      show (decide (t.length + 1 ≤ 64) && isL b && decide (lead isW (b :: t) = t.length + 1)) = _
      cases hb : isL b with
      | false => simp
      | true =>
        have hw : isW b = true := by unfold isW; rw [hb]; rfl
        rw [lead, if_pos hw]
        congr 1
        rw [Bool.eq_iff_iff, decide_eq_true_iff, decide_eq_true_iff]; omega
    by_cases h1 : s.size ≤ 64
    · simp only [if_neg (show ¬ (s.size : Int) > 64 by omega)]
      refine Ev.bind (rword_ev s) ?_
      cases hw : wordB s with
      | true =>
        have e : nameB s = false := by unfold nameB; rw [hw]; simp
        rw [e]; exact jT
      | false =>
        have e : nameB s = (isL b && decide (lead isW t = t.length)) := by unfold nameB; rw [hw, hl, hN, decide_eq_true (by omega)]; simp
        refine Ev.step (fun k => by simp only [stratumref10_name.j0]; rfl) ?_
        simp only [Bool.false_eq_true, if_false]
        have := rname_l s s.size 0 (by omega) (by omega) h1
        rw [List.drop_zero, hl] at this
        simp only [if_true] at this
        rw [e]; exact this
    · have e : nameB s = false := by unfold nameB; rw [hl, hN, decide_eq_false (by omega)]; simp
      simp only [if_pos (show (s.size : Int) > 64 by omega)]
      rw [e]; exact jT
end Go.Proofs.YtaijoghpfobdbaaDoor.T
end
section
set_option linter.unusedVariables false
set_option linter.unusedSimpArgs false
namespace Go.Proofs.YtaijoghpfobdbaaDoor.W
open Go.RowKit Go.Proofs.YtaijoghpfobdbaaDoor.X Go.Proofs.YtaijoghpfobdbaaDoorW.PrintWords Go.Proofs.YtaijoghpfobdbaaDoorW.PrintLast Go.Proofs.YtaijoghpfobdbaaDoorW.PrintMore
open Go.Proofs.YtaijoghpfobdbaaDoor.P (Wrote puts put fin)
theorem infoB : (Tryd.prog.info? 5).map (fun i => (i.zero, i.size, i.bytes)) = some (some (.int .u8 0), 1, 1) := by kernel_rfl
abbrev rowB (w : World) (B : Nat) (v : Value) (bs : List UInt8) : Prop := w.ownsRow B 5 1 v (T.nums bs).length (nums .u8 (T.nums bs))
structure Ro (w : World) (B b : Nat) (bs : List UInt8) : Prop where
  row : ∃ v, w.heap[b]? = some (.cells #[v] 101 (0, 0)) ∧ rowB w B v bs
  lo : B ≤ b
  base : B ≤ w.heap.size
  len : bs.length ≤ 9437184
section
variable {w w' w1 w2 : World} {B b : Nat} {bs : List UInt8}
theorem Fw.other (h : Fw B b w w') {k : Nat} {cs : Array Value} {t : TypeId} {f : Nat × Nat} (hk : w.heap[k]? = some (.cells cs t f)) (h5 : t ≠ 5) (hb : k ≠ b) : w'.heap[k]? = some (.cells cs t f) := by
  refine h.ok k _ hk (fun e => hb (by injection e with e)) (fun c fz e => ?_)
  injection e with _ e _
  exact h5 e
theorem Ro.lt (h : Ro w B b bs) : b < w.heap.size := by
  obtain ⟨v, hb, _⟩ := h.row
  exact blk_lt hb
theorem Ro.blkne (h : Ro w B b bs) {k : Nat} {cs : Array Value} {t : TypeId} {f : Nat × Nat} (hk : w.heap[k]? = some (.cells cs t f)) (h5 : t ≠ 101) : k ≠ b := by
  rintro rfl
  obtain ⟨v, hb, _⟩ := h.row
  rw [hb] at hk
  injection hk with hk
  injection hk with _ hk _
  exact h5 hk.symm
theorem Ro.below (h : Ro w B b bs) (hb : Below w.heap.size w w') : Ro w' B b bs := by
  obtain ⟨v, h1, h2⟩ := h.row
  exact ⟨⟨v, blk_below h1 hb, own_below h2 hb⟩, h.lo, Nat.le_trans h.base hb.size, h.len⟩
theorem own_ne {v : Value} {n : Nat} {xs : List Value} (h : w.ownsRow B 5 1 v n xs) {k : Nat} {cs : Array Value} {t : TypeId} (hk : w.heap[k]? = some (.cells cs t (0, 0))) (h5 : t ≠ 5) : some k ≠ v.ownBlock := by
  intro e
  rcases h.2 with ⟨rfl, _⟩ | ⟨g, cap, cur, rfl, _, hg, _⟩
  · cases e
  · simp only [Value.ownBlock, Option.some.injEq] at e
    subst e
    rw [hg] at hk
    injection hk with hk
    injection hk with _ hk _
    exact h5 hk.symm
theorem fresh_Ro (w : World) : Ro (w.alloc (.cells #[.slice none 0 0] 101)) w.heap.size w.heap.size [] :=
  ⟨⟨_, blk_new _ _, World.ownsRow_nil _ _ _ _⟩, Nat.le_refl _, by simp, by simp⟩
theorem ok_grown {v : Value} {n : Nat} {xs : List Value} (h : w.ownsRow B 5 1 v n xs) (hg : w.grownBy w1 v.ownBlock) : Bd.OK (some b) w w1 := by
  intro k o hk _ hc
  have hlt := blk_lt hk
  rw [hg.block k hlt (fun e => ?_)]; exact hk
  rcases h.2 with ⟨rfl, _⟩ | ⟨g, cap, cur, rfl, _, hgg, _⟩
  · cases e
  · simp only [Value.ownBlock, Option.some.injEq] at e
    subst e
    rw [hgg] at hk
    injection hk with hk
    exact hc _ _ hk.symm
end
set_option maxHeartbeats 2000000 in
set_option maxRecDepth 100000 in
theorem put_calls {B b : Nat} {bs : List UInt8} (w : World) (s : ByteArray) (hR : Ro w B b bs) (hs : s.size ≤ 8388608) :
    Calls Tryd.prog 42 #[.pointer (some ⟨b, 0, none⟩), .string s] w fun e w' => e = .returned (.tuple #[]) ∧ Ro w' B b (put bs s.data.toList) ∧ Fw B b w w' := by
  obtain ⟨v, hb, ho⟩ := hR.row
  obtain ⟨A, c, hv⟩ := own_slice ho
  rw [T.nums_len] at hv
  subst hv
  have HR := Aside0.mk hR
  have HO := Aside0.mk ho
  have HB := Aside0.mk hb
  have HS := Aside0.mk hs
  have y0 := (blk_cell hb 0).trans rfl
  clear hR ho hb hs
  by_cases hM : bs.length ≤ P.M
  · have c1 : decide (((bs.length : Nat) : Int) > 1048576) = false := decide_eq_false (by have : P.M = 1048576 := rfl; omega)
    have c2 : decide ((1048576 : Int) < ((bs.length : Nat) : Int)) = false := decide_eq_false (by have : P.M = 1048576 := rfl; omega)
    have HP : Aside0 (put bs s.data.toList = bs ++ s.data.toList) := ⟨by unfold put; rw [if_pos hM]⟩
    have HM := Aside0.mk hM
    clear hM
    go_enter Tryd.func42, Tryd.ntmps42
    go_wp2_with (first
      | ((with_reducible refine gate_builtin (b := .append) (xs := #[.tmp 14, .tmp 15]) rfl ?_); go_must (at_builtin; refine print_append_str (w0 := w) B rfl (.tmp 14) (.tmp 15) 70 9 5 rfl Tryd.underlying70 Tryd.underlying9 infoB (.slice A bs.length c) (T.nums bs) s rfl rfl HO.out (Below.refl _ _) HR.out.base (by rw [T.nums_len]; have := HR.out.len; have := HS.out; omega) ?_; intro v1 w1 hown hbl hg; obtain ⟨A1, c1', hv1⟩ := own_slice hown; rw [List.length_append] at hv1; subst hv1; have HO1 := Aside0.mk hown; have HB1 := Aside0.mk hbl; have HG1 := Aside0.mk hg; have HX1 := Aside0.mk (blk_grown HB.out hg (own_ne HO.out HB.out (by decide))); have y1 := (blk_cell HX1.out 0).trans rfl; have f1 := blk_frozen HX1.out 0; clear hown hbl hg))
      | fail)
    go_end0
    refine ⟨rfl, ⟨⟨.slice A1 ((T.nums bs).length + (bytesOf s).length) c1', ?_, ?_⟩, HR.out.lo, ?_, ?_⟩, ⟨HB1.out.setCell (p := ⟨b, 0, none⟩) HR.out.lo _, ?_⟩⟩
    · exact blk_set HX1.out 0 _
    · have hn : T.nums (put bs s.data.toList) = T.nums bs ++ bytesOf s := by rw [HP.out]; unfold T.nums bytesOf; rw [List.map_append]
      rw [rowB, hn]
      exact own_setCell HO1.out (p := ⟨b, 0, none⟩) (own_ne HO1.out HX1.out (by decide)) _
    · exact Nat.le_trans HR.out.base (Nat.le_trans HB1.out.size (by simp))
    · have := HM.out; have h2 : P.M = 1048576 := rfl; have := HS.out; rw [HP.out, List.length_append, data_length]; omega
    · exact Lib.OthersKept.trans (ok_grown HO.out HG1.out) (Bd.ok_set b w1 0 _)
  · have c1 : decide (((bs.length : Nat) : Int) > 1048576) = true := decide_eq_true (by have : P.M = 1048576 := rfl; omega)
    have c2 : decide ((1048576 : Int) < ((bs.length : Nat) : Int)) = true := decide_eq_true (by have : P.M = 1048576 := rfl; omega)
    have HP : Aside0 (put bs s.data.toList = bs) := ⟨by unfold put; rw [if_neg hM]⟩
    clear hM
    go_enter Tryd.func42, Tryd.ntmps42
    go_wp2_with fail
    refine bodyPost_ret (results_none rfl _ _ _) rfl ?_
    exact ⟨rfl, by rw [HP.out]; exact HR.out, Fw.refl _ _ _⟩
set_option maxHeartbeats 2000000 in
set_option maxRecDepth 100000 in
theorem otext_calls {B b : Nat} {bs : List UInt8} (w : World) (hR : Ro w B b bs) :
    Calls Tryd.prog 40 #[.pointer (some ⟨b, 0, none⟩)] w fun e w' => e = .returned (.tuple #[.string (fin bs).1, .int .i64 (fin bs).2]) ∧ Below w.heap.size w w' := by
  obtain ⟨v, hb, ho⟩ := hR.row
  obtain ⟨A, c, hv⟩ := own_slice ho
  rw [T.nums_len] at hv
  subst hv
  have HR := Aside0.mk hR
  have HO := Aside0.mk ho
  have y0 := (blk_cell hb 0).trans rfl
  clear hR ho hb
  by_cases hM : bs.length ≤ P.M
  · have c1 : decide (((bs.length : Nat) : Int) > 1048576) = false := decide_eq_false (by have : P.M = 1048576 := rfl; omega)
    have c2 : decide ((1048576 : Int) < ((bs.length : Nat) : Int)) = false := decide_eq_false (by have : P.M = 1048576 := rfl; omega)
    have HF : Aside0 (fin bs = (⟨bs.toArray⟩, 0)) := ⟨by unfold fin; rw [if_neg (by omega)]⟩
    clear hM
    go_enter Tryd.func40, Tryd.ntmps40
    have hcv : (convert 70 9 (.slice A bs.length c)).run Tryd.prog w = .ok (.string (strOfNums (T.nums bs))) w := own_string Tryd.underlying70 Tryd.underlying5 Tryd.underlying9 HO.out
    rw [T.strOf] at hcv
    go_wp2_with fail
    go_ret2
    exact ⟨by rw [HF.out]; rfl, Below.refl _ _⟩
  · have c1 : decide (((bs.length : Nat) : Int) > 1048576) = true := decide_eq_true (by have : P.M = 1048576 := rfl; omega)
    have c2 : decide ((1048576 : Int) < ((bs.length : Nat) : Int)) = true := decide_eq_true (by have : P.M = 1048576 := rfl; omega)
    have HF : Aside0 (fin bs = (⟨#[]⟩, 2)) := ⟨by unfold fin; rw [if_pos (by omega)]⟩
    clear hM
    go_enter Tryd.func40, Tryd.ntmps40
    go_wp2_with fail
    go_ret2
    exact ⟨by rw [HF.out]; rfl, Below.refl _ _⟩
end Go.Proofs.YtaijoghpfobdbaaDoor.W
end
section
set_option linter.unusedVariables false
set_option linter.unusedSimpArgs false
namespace Go.Proofs.YtaijoghpfobdbaaDoor.P
open Go.RowKit Go.Proofs.YtaijoghpfobdbaaDoor.L
theorem dec_short (u : Nat) (hu : u < 18446744073709551616) : (Lib.decDigits u).length ≤ 20 := by
  rcases Nat.eq_zero_or_pos u with rfl | h
  · rw [Lib.decDigits, dif_pos (by decide)]
    simp
  · rw [Lib.decDigits_length]
    have := Lib.numDigits_eq u h hu
    split at this <;> omega
end Go.Proofs.YtaijoghpfobdbaaDoor.P
namespace Go.Proofs.YtaijoghpfobdbaaDoor.W
end Go.Proofs.YtaijoghpfobdbaaDoor.W
namespace Go.Proofs.YtaijoghpfobdbaaDoor.W
open Go.Proofs.YtaijoghpfobdbaaDoor.P (Tr Nd kd sg build dep dmx tx txs txN)
end Go.Proofs.YtaijoghpfobdbaaDoor.W
end
section
set_option linter.unusedVariables false
set_option linter.unusedSimpArgs false
namespace Go.Proofs.YtaijoghpfobdbaaDoor.W
open Go.RowKit Go.Proofs.YtaijoghpfobdbaaDoor.X Go.Proofs.YtaijoghpfobdbaaDoorW.PrintWords Go.Proofs.YtaijoghpfobdbaaDoorW.PrintLast Go.Proofs.YtaijoghpfobdbaaDoorW.PrintMore
open Go.Proofs.YtaijoghpfobdbaaDoor.P (Tr Nd Wrote puts put fin kd kr sg build tx txs WF It ptx pw pk pkK sz szs Gd Gds ahd btw bhd)
def fc (fs : List Nat) : Array Value := (fs.map fun (x : Nat) => Value.int .i64 (x : Int)).toArray
theorem fc_made (m : Nat) : madeCells #[.int .i64 0] m = fc (List.replicate m 0) := by
  unfold fc
  apply Array.ext
  · simp [madeCells]
  · intro i h1 h2
    simp [madeCells, Nat.mod_one]
theorem fc_set (fs : List Nat) (i x : Nat) : (fc fs).setIfInBounds i (.int .i64 (x : Int)) = fc (fs.set i x) := by
  unfold fc
  rw [List.setIfInBounds_toArray, List.map_set]
theorem fc_get (fs : List Nat) (i : Nat) (h : i < fs.length) : (fc fs)[i]? = some (.int .i64 ((fs.getD i 0 : Nat) : Int)) := by
  unfold fc
  simp [List.getD_eq_getElem?_getD, h]
def fF (fs : List Nat) (j : Nat) : Nat := fs.getD j 0
theorem fF_set {fs : List Nat} {i x : Nat} (h : i < fs.length) : fF (fs.set i x) i = x ∧ ∀ j, j < i → fF fs j = fF (fs.set i x) j := by
  unfold fF
  refine ⟨by rw [List.getD_eq_getElem?_getD, List.getElem?_set_self h]; rfl, fun j hj => ?_⟩
  rw [List.getD_eq_getElem?_getD, List.getD_eq_getElem?_getD, List.getElem?_set_ne (by omega)]
theorem flat_int : Flat (Kd.int .i64) := fun h => h
theorem R_type {α : Type} {d : Kd α} {e base : Nat} {w : World} {ok : Nat → Prop} {v : Value} {xs : List α} (h : d.R e w base ok v xs) {k : Nat} (hk : v.ownBlock = some k) : ∃ cs, w.heap[k]? = some (.cells cs e (0, 0)) := by
  obtain ⟨inner, ho⟩ := Kd.R_own h
  rcases ho.2 with ⟨rfl, _⟩ | ⟨g, cap, cur, rfl, _, hg, _⟩
  · cases hk
  · simp only [Value.ownBlock, Option.some.injEq] at hk
    subst hk
    exact ⟨cur, hg⟩
section
variable {w w' w0 w1 : World} {B b : Nat} {bs : List UInt8}
theorem R_fw {base : Nat} {ok : Nat → Prop} {v : Value} {xs : List Int} (h : Kd.R (Kd.int .i64) 3 w base ok v xs) (hF : Fw B b w w') (hR : Ro w B b bs) : Kd.R (Kd.int .i64) 3 w' base (fun _ => True) v xs :=
  R_flat flat_int h (fun k hk => by
    obtain ⟨cs, hc⟩ := R_type h hk
    rw [hF.other hc (by decide) (hR.blkne hc (by decide)), hc]) (fun k hk => Kd.R_base h k hk)
theorem Ro.grown {base : Nat} {ok : Nat → Prop} {v : Value} {xs : List Int} (h : Ro w B b bs) (hr : Kd.R (Kd.int .i64) 3 w base ok v xs) (hg : w.grownBy w1 v.ownBlock) : Ro w1 B b bs := by
  obtain ⟨u, h1, h2⟩ := h.row
  refine ⟨⟨u, blk_grown h1 hg (fun e => ?_), own_move h2 (fun k hk => ?_)⟩, h.lo, Nat.le_trans h.base hg.size, h.len⟩
  · obtain ⟨cs, hc⟩ := R_type hr e.symm
    exact h.blkne hc (by decide) rfl
  · refine hg.block k (h2.lt k hk).2 (fun e => ?_)
    obtain ⟨cs, hc⟩ := R_type hr e.symm
    exact own_ne h2 hc (by decide) hk.symm
theorem Fw.grown {row : Option Nat} (h : Fw B b w0 w) (hB : B ≤ w0.heap.size) (hg : w.grownBy w1 row) (hb : ∀ k, row = some k → w0.heap.size ≤ k) : Fw B b w0 w1 := by
  refine ⟨h.below.grown hg (Nat.le_trans hB h.below.size) (fun k hk => Nat.le_trans hB (hb k hk)), fun k o hk h1 h2 => ?_⟩
  have h3 := h.ok k o hk h1 h2
  rw [hg.block k (blk_lt h3) (fun e => ?_)]
  · exact h3
  · have := hb k e.symm
    have := blk_lt hk
    omega
theorem Fw.andBelow (h : Fw B b w0 w) (hB : B ≤ w0.heap.size) (hb : Below w.heap.size w w1) : Fw B b w0 w1 := h.trans (Fw.of_below hb (Nat.le_trans hB h.below.size))
end
theorem ahd_size {n : Nd} (hr : 0 ≤ n.f2 ∧ n.f2 < 18446744073709551616) (hs : n.f3.size ≤ 1048576) : (T.ba (ahd n)).size ≤ 8388608 := by
  rw [T.ba_size]
  unfold ahd
  split
  · have := P.dec_short n.f2.toNat (by omega); omega
  · split
    · have := (P.quote_len n.f3.data.toList).2
      rw [data_length] at this
      omega
    · repeat' split
      all_goals simp
theorem btw_size (n : Nd) : (T.ba (btw n)).size ≤ 8388608 := by
  rw [T.ba_size]
  unfold btw
  repeat' split
  all_goals simp
theorem bhd_size (n : Nd) : (T.ba (bhd n)).size ≤ 8388608 := by
  rw [T.ba_size]
  unfold bhd
  split <;> simp
theorem rkids_calls (n : Nd) (w : World) : Calls Tryd.prog 68 #[.agg #[.int .i64 n.f0, .int .i64 n.f1, .int .u64 n.f2, .string n.f3, .int .i64 n.f4]] w fun e w' => e = .returned (.int .i64 (kr n)) ∧ Below w.heap.size w w' := by
  obtain ⟨k, hk⟩ := (P.rkids_ev n).rounds
  exact stratumref10_kids.calls k _ _ _ _ _ _ w hk
theorem rahead_calls (n : Nd) (hr : 0 ≤ n.f2 ∧ n.f2 < 18446744073709551616) (hs : n.f3.size ≤ 1048576) (w : World) : Calls Tryd.prog 72 #[.agg #[.int .i64 n.f0, .int .i64 n.f1, .int .u64 n.f2, .string n.f3, .int .i64 n.f4]] w fun e w' => e = .returned (.string (T.ba (ahd n))) ∧ Below w.heap.size w w' := by
  obtain ⟨k, hk⟩ := (T.rahead_ev n hr (by omega)).rounds
  exact stratumref10_ahead.calls k _ _ _ _ _ _ w hk
theorem rbetween_calls (n : Nd) (w : World) : Calls Tryd.prog 70 #[.agg #[.int .i64 n.f0, .int .i64 n.f1, .int .u64 n.f2, .string n.f3, .int .i64 n.f4]] w fun e w' => e = .returned (.string (T.ba (btw n))) ∧ Below w.heap.size w w' :=
  stratumref10_between.calls _ _ _ _ _ _ w (T.rbetween_eq n)
theorem rbehind_calls (n : Nd) (w : World) : Calls Tryd.prog 71 #[.agg #[.int .i64 n.f0, .int .i64 n.f1, .int .u64 n.f2, .string n.f3, .int .i64 n.f4]] w fun e w' => e = .returned (.string (T.ba (bhd n))) ∧ Below w.heap.size w w' :=
  stratumref10_behind.calls _ _ _ _ _ _ w (T.rbehind_eq n)
theorem kd_kr_q {n : Nd} {q : Nat} (h : kd n = some q) : kr n = (q : Int) := by
  rw [P.kd_kr] at h
  split at h
  · cases h
  · rename_i hn
    injection h with h
    omega
theorem at_nd {w : World} {A : Option Addr} {ns : List Nd} {x : Nat} {n : Nd} (h : Kd.C k46 w A ns.length ns) (hx : ns[x]? = some n) : ∃ ad, A = some ad ∧ w.cell? (ad.add (x * 5)) = some (.int .i64 n.f0) ∧ w.cell? ⟨(ad.add (x * 5)).block, (ad.add (x * 5)).off + 1, none⟩ = some (.int .i64 n.f1) ∧ w.cell? ⟨(ad.add (x * 5)).block, (ad.add (x * 5)).off + 2, none⟩ = some (.int .u64 n.f2) ∧ w.cell? ⟨(ad.add (x * 5)).block, (ad.add (x * 5)).off + 3, none⟩ = some (.string n.f3) ∧ w.cell? ⟨(ad.add (x * 5)).block, (ad.add (x * 5)).off + 4, none⟩ = some (.int .i64 n.f4) := by
  obtain ⟨hlt, hg⟩ := List.getElem?_eq_some_iff.1 hx
  obtain ⟨ad, h1, h2⟩ := at_T46 h (x : Int) (by omega) (by omega)
  have : rd_T46 ns (x : Int) = n := by
    rw [P.rd_nd ns x _ _ (List.drop_eq_getElem_cons hlt), hg]
  rw [this, Int.toNat_natCast] at h2
  exact ⟨ad, h1, h2⟩
end Go.Proofs.YtaijoghpfobdbaaDoor.W
end
section
set_option linter.unusedVariables false
set_option linter.unusedSimpArgs false
namespace Go.Proofs.YtaijoghpfobdbaaDoor.W
open Go.RowKit Go.Proofs.YtaijoghpfobdbaaDoor.X Go.Proofs.YtaijoghpfobdbaaDoorW.PrintWords Go.Proofs.YtaijoghpfobdbaaDoorW.PrintLast Go.Proofs.YtaijoghpfobdbaaDoorW.PrintMore
open Go.Proofs.YtaijoghpfobdbaaDoor.P (Tr Nd Wrote puts put fin kd kr sg build tx txs WF It ptx pw pk pkK sz szs Gd Gds ahd btw bhd)
theorem infoI : (Tryd.prog.info? 3).map (fun i => (i.zero, i.size, i.bytes)) = some (some (.int .i64 0), 1, 8) := by kernel_rfl
set_option maxHeartbeats 8000000 in
set_option maxRecDepth 100000 in
theorem rwrite_calls {B b : Nat} {bs : List UInt8} (w : World) (A : Option Addr) (c : Nat) (ns : List Nd) (t : Tr) (hR : Ro w B b bs) (hC : RdN B w A ns) (hns : ns.length ≤ 1099511627776) (hr : Rng ns) (hs : ∀ n ∈ ns, n.f3.size ≤ 1048576) (hb : build ns [] = some [t]) :
    Calls Tryd.prog 39 #[.pointer (some ⟨b, 0, none⟩), .slice A ns.length c] w fun e w' => e = .returned (.tuple #[]) ∧ ∃ r, Ro w' B b r ∧ Wrote bs (tx t) r ∧ Fw B b w w' := by
  have HR := Aside0.mk hR
  have HC := Aside0.mk hC
  have HN := Aside0.mk hns
  have HRg := Aside0.mk hr
  have HS := Aside0.mk hs
  have HB := Aside0.mk hb
  have hmk := print_make (P := Tryd.prog) 85 3 .i64 8 Tryd.underlying85 infoI (by omega) ns.length (by omega)
  obtain ⟨F, hF⟩ : ∃ F, F = w.heap.size := ⟨_, rfl⟩
  obtain ⟨w1, hw1⟩ : ∃ w1, w1 = w.alloc (.cells (madeCells #[.int .i64 0] ns.length) 3) := ⟨_, rfl⟩
  have HB1 : Aside0 (Below w.heap.size w w1) := ⟨by rw [hw1]; exact below_alloc (Below.refl _ _) _⟩
  have HX1 : Aside0 (w1.heap[F]? = some (.cells (fc (List.replicate ns.length 0)) 3 (0, 0))) := ⟨by rw [hw1, hF, fc_made]; exact blk_new _ _⟩
  have HW1 := Aside0.mk hw1
  have HFz := Aside0.mk hF
  clear hR hC hns hr hs hb hw1
  go_enter Tryd.func39, Tryd.ntmps39
  go_wp2
  rw [← HW1.out, ← hF]
  clear hF hmk
  go_loopw [5] (fun ti wr => ∃ (i : Nat) (st : List Tr) (fs : List Nat), ti = .int .i64 (i : Int) ∧ Aside0 (i ≤ ns.length) ∧ Aside0 (build ns [] = build (ns.drop i) st) ∧ Aside0 (fs.length = ns.length) ∧ Aside0 (Gds ns (fF fs) st 0 ∧ szs st = i) ∧ Aside0 (wr.heap[F]? = some (.cells (fc fs) 3 (0, 0))) ∧ Aside0 (Below w.heap.size w wr)) (fun ti _ => ns.length - left ti)
  case atStart => exact ⟨0, [], _, rfl, ⟨Nat.zero_le _⟩, ⟨rfl⟩, ⟨List.length_replicate⟩, ⟨trivial, rfl⟩, HX1, HB1⟩
  case round =>
    obtain ⟨i, st, fs, rfl, hi, HBu, HFL, HG, HX, HBw⟩ := hrel
    rename World => wa
    by_cases ci : i < ns.length
    · have c1 : decide ((i : Int) < (ns.length : Int)) = true := decide_eq_true (by omega)
      have c2 : decide (i < ns.length) = true := decide_eq_true ci
      obtain ⟨n, hn⟩ : ∃ n, ns[i]? = some n := ⟨_, List.getElem?_eq_getElem ci⟩
      have HNI := Aside0.mk hn
      have hsg : ∃ st', sg st n = some st' ∧ build ns [] = build (ns.drop (i + 1)) st' := by
        have h1 := HBu.out
        rw [List.drop_eq_getElem_cons ci, build] at h1
        have h2 : ns[i] = n := by rw [List.getElem?_eq_getElem ci] at hn; injection hn
        rw [h2] at h1
        cases hq : sg st n with
        | none => rw [hq, HB.out] at h1; cases h1
        | some st' => rw [hq] at h1; exact ⟨st', rfl, h1⟩
      obtain ⟨st', hst, hbn⟩ := hsg
      obtain ⟨q, hkq, hql, _⟩ := P.sg_some hst
      have HST := Aside0.mk hst
      have HBN := Aside0.mk hbn
      have HKQ := Aside0.mk hkq
      have HQL := Aside0.mk hql
      have HKI := Aside0.mk (rkids_calls n)
      rw [kd_kr_q hkq] at HKI
      have HI := Aside0.mk ci
      clear hst hbn hkq hql hn ci
      go_wp2
      go_loopw [6, 7] (fun t6 t7 wr2 => ∃ k : Nat, t7 = .int .i64 (k : Int) ∧ t6 = .int .i64 ((szs (st.take (st.length - k)) : Nat) : Int) ∧ Aside0 (k ≤ q) ∧ Aside0 (Below wa.heap.size wa wr2)) (fun _ t7 _ => q - left t7)
      case atStart => exact ⟨0, rfl, by rw [Nat.sub_zero, List.take_length, HG.out.2], ⟨Nat.zero_le _⟩, ⟨Below.refl _ _⟩⟩
      case round =>
        obtain ⟨k, rfl, rfl, hk, HB2⟩ := hrel
        obtain ⟨ad, hA, hx0, hx1, hx2, hx3, hx4⟩ := at_nd (HC.out.out wr (Below.lowr (below_step HBw.out HB2.out) HR.out.base)) HNI.out
        subst hA
        have c1 : decide ((i : Int) < (ns.length : Int)) = true := decide_eq_true (by have := HI.out; omega)
        have c2 : decide (i < ns.length) = true := decide_eq_true HI.out
        have hil : i < ns.length := HI.out
        go_wp2_with fail
        refine (HKI.out wr).mono ?_
        rintro e w3 ⟨rfl, hb3⟩
        have HB3 := Aside0.mk (below_step HB2.out hb3)
        clear hb3 hx0 hx1 hx2 hx3 hx4
        by_cases ck : k < q
        · have e1 : decide ((k : Int) < (q : Int)) = true := decide_eq_true (by omega)
          have e2 : decide (k < q) = true := decide_eq_true ck
          obtain ⟨j, hj⟩ : ∃ j, st.length - k = j + 1 := ⟨st.length - k - 1, by have := HQL.out; omega⟩
          have hjl : j < st.length := by omega
          have hpos := P.len_szs (st.take (j + 1))
          rw [List.length_take] at hpos
          obtain ⟨m, hm⟩ : ∃ m, szs (st.take (j + 1)) = m + 1 := ⟨szs (st.take (j + 1)) - 1, by omega⟩
          have hle : m + 1 ≤ ns.length := by
            have h1 := P.szs_app (st.take (j + 1)) (st.drop (j + 1))
            rw [List.take_append_drop, HG.out.2, hm] at h1
            have := HI.out
            omega
          have hbk := P.Gds_back HG.out.1 hjl
          rw [Nat.zero_add, Nat.zero_add, hm, Nat.add_sub_cancel] at hbk
          have hcell : w3.cell? ⟨F, m, none⟩ = some (.int .i64 ((szs (st.take j) : Nat) : Int)) := by
            rw [blk_cell (blk_below HX.out HB3.out) m, fc_get fs m (by rw [HFL.out]; omega)]
            show some (Value.int .i64 ((fF fs m : Nat) : Int)) = _
            rw [hbk]
          have W0 : ∀ [Inhabited Unit], wrap64 (m : Int) = (m : Int) := by intro _; have := HN.out; unfold wrap64; omega
          have d1 : decide ((m : Int) < (ns.length : Int)) = true := decide_eq_true (by omega)
          have d2 : decide (m < ns.length) = true := decide_eq_true (by omega)
          have hml : m < ns.length := by omega
          have W1 : Aside0 (wrap64 ((k : Int) + 1) = ((k + 1 : Nat) : Int)) := ⟨by have := HQL.out; have := HI.out; have := HN.out; have := HG.out.2; have := P.len_szs st; unfold wrap64; omega⟩
          have HCK := Aside0.mk ck
          have HSK : Aside0 (st.length - (k + 1) = j) := ⟨by omega⟩
          rw [hj, hm]
          clear hj hjl hpos hm hle hbk ck
          go_wp2_with fail
          rw [W1.out]
          go_roundw
          case measure => have := HCK.out; simp only [left, Int.toNat_natCast]; omega
          case rel => exact ⟨k + 1, rfl, by rw [HSK.out], ⟨HCK.out⟩, HB3⟩
        · have e1 : decide ((k : Int) < (q : Int)) = false := decide_eq_false (by omega)
          have e2 : decide (k < q) = false := decide_eq_false ck
          have hkq : k = q := by have := hk.out; omega
          subst hkq
          have HX3 := Aside0.mk (blk_below HX.out HB3.out)
          have y0 := (blk_cell HX3.out i).trans (fc_get fs i (by rw [HFL.out]; exact HI.out))
          have f0 := blk_frozen HX3.out i
          have hil : i < ns.length := HI.out
          have W1 : Aside0 (wrap64 ((i : Int) + 1) = ((i + 1 : Nat) : Int)) := ⟨by have := HI.out; have := HN.out; unfold wrap64; omega⟩
          obtain ⟨a, ha⟩ : ∃ a, a = szs (st.take (st.length - k)) := ⟨_, rfl⟩
          rw [← ha]
          have HAq := Aside0.mk ha
          clear ck ha
          go_wp2_with fail
          rw [W1.out]
          go_roundw
          case measure => have := HI.out; simp only [left, Int.toNat_natCast]; omega
          case rel =>
            have hs2 := fF_set (fs := fs) (i := i) (x := a) (by rw [HFL.out]; exact HI.out)
            have hgd := P.Gds_step (g := fF (fs.set i a)) HG.out.1 (by rw [HG.out.2]; exact HNI.out) HST.out (by rw [HG.out.2]; exact hs2.2) k HKQ.out (by rw [HG.out.2, hs2.1, HAq.out])
            refine ⟨i + 1, st', fs.set i a, rfl, ⟨HI.out⟩, ⟨HBN.out⟩, ⟨by rw [List.length_set]; exact HFL.out⟩, ⟨hgd.1, by rw [hgd.2, HG.out.2]⟩, ⟨?_⟩, ⟨?_⟩⟩
            · have := blk_set HX3.out i (.int .i64 (a : Int))
              rw [fc_set] at this
              exact this
            · exact (below_step HBw.out HB3.out).setCell (p := ⟨F, i, none⟩) (by rw [← HFz.out]; exact Nat.le_refl _) _
    · have c1 : decide ((i : Int) < (ns.length : Int)) = false := decide_eq_false (by omega)
      have c2 : decide (i < ns.length) = false := decide_eq_false ci
      have hiN : i = ns.length := by have := hi.out; omega
      subst hiN
      have hst : st = [t] := by
        have h1 := HBu.out
        rw [List.drop_length, build, HB.out] at h1
        injection h1 with h1
        exact h1.symm
      subst hst
      obtain ⟨hgt, hsz⟩ := HG.out
      rw [Gds] at hgt
      have hszt : sz t = ns.length := by rw [← hsz]; simp [szs]
      have HGT := Aside0.mk hgt.1
      have HSZ := Aside0.mk hszt
      have HWT := Aside0.mk (P.build_wf HB.out HRg.out (by simp) t (by simp))
      have hpos := P.sz_pos t
      obtain ⟨m, hm⟩ : ∃ m, ns.length = m + 1 := ⟨ns.length - 1, by omega⟩
      have HM := Aside0.mk hm
      have W0 : ∀ [Inhabited Unit], wrap64 ((ns.length : Int) - 1) = (m : Int) := by intro _; have := HN.out; rw [hm]; unfold wrap64; omega
      obtain ⟨wB, hwB⟩ : ∃ wB, wB = wa.alloc (.cells #[.int .i64 (m : Int)] 3) := ⟨_, rfl⟩
      have hbB : Below wa.heap.size wa wB := by rw [hwB]; exact below_alloc (Below.refl _ _) _
      obtain ⟨G, hG⟩ : ∃ G, G = wa.heap.size := ⟨_, rfl⟩
      have HBB := Aside0.mk (below_step HBw.out hbB)
      have HXB := Aside0.mk (blk_below HX.out hbB)
      have HRB := Aside0.mk (HR.out.below (below_step HBw.out hbB))
      have HFB := Aside0.mk (Fw.of_below (b := b) (below_step HBw.out hbB) HR.out.base)
      have HEB := Aside0.mk hwB
      have HGw : Aside0 (w.heap.size ≤ G ∧ F < G) := ⟨by rw [hG]; exact ⟨HBw.out.size, blk_lt HX.out⟩⟩
      have HRT : Aside0 (Kd.R (Kd.int .i64) 3 wB G (fun _ => True) (.slice (some ⟨G, 0, none⟩) 1 1) [(m : Int)]) := ⟨by
        rw [hwB, hG]
        exact ⟨fun _ _ => trivial, [.int .i64 (m : Int)], (show (wa.alloc (.cells #[.int .i64 (m : Int)] 3)).ownsRow wa.heap.size 3 1 (.slice (some ⟨wa.heap.size, 0, none⟩) 1 1) 1 [.int .i64 (m : Int)] by simpa using World.ownsRow_lit (base := wa.heap.size) (e := 3) (size := 1) wa #[.int .i64 (m : Int)] 1 (Nat.le_refl _) (by simp [maxLen]) (by simp)), (Reps.none _ _).snoc (p := (m : Int)) (c := [.int .i64 (m : Int)]) rfl rfl⟩⟩
      have HGB : Aside0 (G ≤ wB.heap.size) := ⟨by rw [hwB, hG]; simp⟩
      have HCD : Aside0 ([(m : Int)] = [It.nd 0 t].map It.code) := ⟨by simp only [List.map_cons, List.map_nil, It.code]; rw [HSZ.out, hm]; simp⟩
      clear hgt hsz hszt hpos hm hwB hbB ci
      go_wp2_with fail
      rw [← HEB.out, ← hG]
      rw [W0]
      clear hG W0
      go_loopg [8] (3 * ns.length - 1) (fun gz t8 wr => ∃ (its : List It) (s ob : List UInt8), Aside0 (Kd.R (Kd.int .i64) 3 wr G (fun _ => True) t8 (its.map It.code)) ∧ Aside0 (∀ i, i ∈ its → i.ok ns (fF fs)) ∧ Aside0 (pw its = gz ∧ gz ≤ 3 * ns.length) ∧ Aside0 (Wrote bs s ob ∧ s ++ ptx its = tx t) ∧ Aside0 (Ro wr B b ob) ∧ Aside0 (Fw B b w wr) ∧ Aside0 (wr.heap[F]? = some (.cells (fc fs) 3 (0, 0))) ∧ Aside0 (G ≤ wr.heap.size))
      case atStart =>
        refine ⟨[.nd 0 t], [], bs, ⟨by rw [← HCD.out]; exact HRT.out⟩, ⟨?_⟩, ⟨?_⟩, ⟨Wrote.refl bs, by rw [P.ptx_one]; rfl⟩, HRB, HFB, HXB, HGB⟩
        · intro i hi
          rw [List.mem_singleton] at hi
          subst hi
          exact ⟨HGT.out, HWT.out⟩
        · simp only [pw, It.w, HSZ.out]; omega
      case round =>
        obtain ⟨its, s, ob, HTR, HOK, HPW, HWO, HRO, HFW, HXF, HGS⟩ := hrel
        rename World => wc
        obtain ⟨Aq, cq, hq⟩ := Kd.R_slice HTR.out
        subst hq
        rw [List.length_map] at HTR
        rcases List.eq_nil_or_concat its with hnil | ⟨ip, it, hit⟩
        · have hl0 : its.length = 0 := by rw [hnil]; rfl
          have HNIL := Aside0.mk hnil
          rw [List.length_map, hl0]
          clear hl0 hnil
          go_wp2_with fail
          go_end0
          refine ⟨rfl, ob, HRO.out, ?_, HFW.out⟩
          have h := HWO.out.2
          rw [HNIL.out] at h
          simp only [ptx, List.reverse_nil, List.flatMap_nil, List.append_nil] at h
          rw [← h]
          exact HWO.out.1
        · have hit2 : its = ip ++ [it] := by simpa using hit
          clear hit
          subst hit2
          obtain ⟨p, hp⟩ : ∃ p, p = ip.length := ⟨_, rfl⟩
          have hL : (ip ++ [it]).length = p + 1 := by rw [List.length_append, hp]; rfl
          rw [List.length_map, hL]
          rw [hL] at HTR
          obtain ⟨cv, hcode⟩ : ∃ cv, cv = it.code := ⟨_, rfl⟩
          have hcs : ((ip ++ [it]).map It.code) = ip.map It.code ++ [cv] := by rw [List.map_append, hcode]; rfl
          rw [hcs] at HTR
          have hpb : p + 1 ≤ 3 * ns.length := by
            have h1 := P.len_pw (ip ++ [it])
            rw [hL] at h1
            have := HPW.out
            omega
          have hrds := Kd.R_reads' HTR.out
          have hlen2 : (ip.map It.code ++ [cv]).length = p + 1 := by rw [List.length_append, List.length_map, hp]; rfl
          rw [hlen2] at hrds
          obtain ⟨ad2, hA2, hy⟩ := Kd.at_int hrds.2.2 (p : Int) (by omega) (by omega)
          subst hA2
          have hrd : rd (ip.map It.code ++ [cv]) (p : Int) = cv := by
            unfold rd
            rw [Int.toNat_natCast, List.getD_eq_getElem?_getD, hp, ← List.length_map (f := It.code), List.getElem?_concat_length]; rfl
          rw [hrd, Int.toNat_natCast] at hy
          obtain ⟨i0, hi0, _, hsz0, _⟩ := info_parts infoI
          have hcuto := cut_to (P := Tryd.prog) 85 3 .i64 Tryd.underlying85 hi0 (some ad2) (p + 1) cq (p : Int) (by omega) (by omega) hrds.2.1
          rw [Int.toNat_natCast] at hcuto
          have HTK : Aside0 (Kd.R (Kd.int .i64) 3 wc G (fun _ => True) (.slice (some ad2) p cq) (ip.map It.code)) := ⟨by
            have := Kd.R_take (m := p) HTR.out (by rw [hlen2]; omega)
            rwa [List.take_left' (by rw [List.length_map, hp])] at this⟩
          have g1 : decide ((0 : Int) < ((p + 1 : Nat) : Int)) = true := decide_eq_true (by omega)
          have g2 : decide (((p + 1 : Nat) : Int) > 0) = true := decide_eq_true (by omega)
          have W0 : ∀ [Inhabited Unit], wrap64 (((p + 1 : Nat) : Int) - 1) = (p : Int) := by intro _; have := HN.out; unfold wrap64; omega
          have W0' : ∀ [Inhabited Unit], wrap64 (p : Int) = (p : Int) := by intro _; have := HN.out; unfold wrap64; omega
          have g3 : decide ((p : Int) < ((p + 1 : Nat) : Int)) = true := decide_eq_true (by omega)
          have hok := HOK.out it (by simp)
          have HPB := Aside0.mk hpb
          have HP := Aside0.mk hp
          clear hL hcs hrds hlen2 hrd hi0 hsz0 hpb hp
          cases it with
          | bt x n =>
            have hxn : ns[x]? = some n := hok
            have hxl : x < ns.length := (List.getElem?_eq_some_iff.1 hxn).1
            have hcv : cv = -1 - (2 * (x : Int) + 0) := hcode
            obtain ⟨y, hy2⟩ : ∃ y : Nat, y = 2 * x + 0 := ⟨_, rfl⟩
            have d1 : decide (cv < 0) = true := decide_eq_true (by omega)
            have d0 : cv < 0 := by omega
            have W1 : ∀ [Inhabited Unit], wrap64 (-1 - cv) = (y : Int) := by intro _; have := HN.out; unfold wrap64; omega
            have m1 : (y : Int) % 2 = 0 := by omega
            have m2 : Int.tmod (y : Int) 2 = 0 := by rw [Int.tmod_eq_emod_of_nonneg (by omega)]; exact m1
            have q1 : (y : Int) / 2 = (x : Int) := by omega
            have q2 : Int.tdiv (y : Int) 2 = (x : Int) := by rw [Int.tdiv_eq_ediv_of_nonneg (by omega)]; exact q1
            have W2 : ∀ [Inhabited Unit], wrap64 (x : Int) = (x : Int) := by intro _; have := HN.out; unfold wrap64; omega
            have x1 : decide ((x : Int) < (ns.length : Int)) = true := decide_eq_true (by omega)
            obtain ⟨ad3, hA3, hx0, hx1, hx2, hx3, hx4⟩ := at_nd (HC.out.out wc HFW.out.below) hxn
            subst hA3
            have HXL := Aside0.mk hxn
            clear hcv hcode hok hxn hy2
            go_wp2_with fail
            refine (rbetween_calls n wc).mono ?_
            rintro e w4 ⟨rfl, hb4⟩
            have HRO4 := Aside0.mk (HRO.out.below hb4)
            have HFW4 := Aside0.mk (HFW.out.andBelow HR.out.base hb4)
            have HXF4 := Aside0.mk (blk_below HXF.out hb4)
            have HTR4 := Aside0.mk (Kd.R_below HTK.out hb4)
            have HGS4 : Aside0 (G ≤ w4.heap.size) := ⟨Nat.le_trans HGS.out hb4.size⟩
            clear hb4 hx0 hx1 hx2 hx3 hx4
            go_wp2_with fail
            refine (put_calls w4 (T.ba (btw n)) HRO4.out (btw_size n)).mono ?_
            rintro e w5 ⟨rfl, hr5, hf5⟩
            have HRO5 := Aside0.mk hr5
            have HF5 := Aside0.mk hf5
            clear hr5 hf5
            go_wp2_with fail
            go_roundg (pw ip)
            case measure => have := HPW.out.1; rw [P.pw_app] at this; simp only [pw, It.w] at this; omega
            case rel =>
              refine ⟨ip, s ++ btw n, _, ⟨R_fw HTR4.out HF5.out HRO4.out⟩, ⟨fun i hi => HOK.out i (List.mem_append_left _ hi)⟩, ⟨rfl, ?_⟩, ⟨HWO.out.1.trans (Wrote.put ob _), ?_⟩, HRO5, ⟨HFW4.out.trans HF5.out⟩, ⟨HF5.out.other HXF4.out (by decide) (HRO4.out.blkne HXF4.out (by decide))⟩, ⟨Nat.le_trans HGS4.out HF5.out.size⟩⟩
              · have := HPW.out; rw [P.pw_app] at this; omega
              · have h := HWO.out.2
                rw [P.ptx_app, P.ptx_one] at h
                rw [List.append_assoc]
                exact h
          | bh x n =>
            have hxn : ns[x]? = some n := hok
            have hxl : x < ns.length := (List.getElem?_eq_some_iff.1 hxn).1
            have hcv : cv = -1 - (2 * (x : Int) + 1) := hcode
            obtain ⟨y, hy2⟩ : ∃ y : Nat, y = 2 * x + 1 := ⟨_, rfl⟩
            have d1 : decide (cv < 0) = true := decide_eq_true (by omega)
            have d0 : cv < 0 := by omega
            have W1 : ∀ [Inhabited Unit], wrap64 (-1 - cv) = (y : Int) := by intro _; have := HN.out; unfold wrap64; omega
            have m1 : (y : Int) % 2 = 1 := by omega
            have m2 : Int.tmod (y : Int) 2 = 1 := by rw [Int.tmod_eq_emod_of_nonneg (by omega)]; exact m1
            have q1 : (y : Int) / 2 = (x : Int) := by omega
            have q2 : Int.tdiv (y : Int) 2 = (x : Int) := by rw [Int.tdiv_eq_ediv_of_nonneg (by omega)]; exact q1
            have W2 : ∀ [Inhabited Unit], wrap64 (x : Int) = (x : Int) := by intro _; have := HN.out; unfold wrap64; omega
            have x1 : decide ((x : Int) < (ns.length : Int)) = true := decide_eq_true (by omega)
            obtain ⟨ad3, hA3, hx0, hx1, hx2, hx3, hx4⟩ := at_nd (HC.out.out wc HFW.out.below) hxn
            subst hA3
            have HXL := Aside0.mk hxn
            clear hcv hcode hok hxn hy2
            go_wp2_with fail
            refine (rbehind_calls n wc).mono ?_
            rintro e w4 ⟨rfl, hb4⟩
            have HRO4 := Aside0.mk (HRO.out.below hb4)
            have HFW4 := Aside0.mk (HFW.out.andBelow HR.out.base hb4)
            have HXF4 := Aside0.mk (blk_below HXF.out hb4)
            have HTR4 := Aside0.mk (Kd.R_below HTK.out hb4)
            have HGS4 : Aside0 (G ≤ w4.heap.size) := ⟨Nat.le_trans HGS.out hb4.size⟩
            clear hb4 hx0 hx1 hx2 hx3 hx4
            go_wp2_with fail
            refine (put_calls w4 (T.ba (bhd n)) HRO4.out (bhd_size n)).mono ?_
            rintro e w5 ⟨rfl, hr5, hf5⟩
            have HRO5 := Aside0.mk hr5
            have HF5 := Aside0.mk hf5
            clear hr5 hf5
            go_wp2_with fail
            go_roundg (pw ip)
            case measure => have := HPW.out.1; rw [P.pw_app] at this; simp only [pw, It.w] at this; omega
            case rel =>
              refine ⟨ip, s ++ bhd n, _, ⟨R_fw HTR4.out HF5.out HRO4.out⟩, ⟨fun i hi => HOK.out i (List.mem_append_left _ hi)⟩, ⟨rfl, ?_⟩, ⟨HWO.out.1.trans (Wrote.put ob _), ?_⟩, HRO5, ⟨HFW4.out.trans HF5.out⟩, ⟨HF5.out.other HXF4.out (by decide) (HRO4.out.blkne HXF4.out (by decide))⟩, ⟨Nat.le_trans HGS4.out HF5.out.size⟩⟩
              · have := HPW.out; rw [P.pw_app] at this; omega
              · have h := HWO.out.2
                rw [P.ptx_app, P.ptx_one] at h
                rw [List.append_assoc]
                exact h
          | nd a t2 =>
            cases t2 with
            | mk n ks =>
            obtain ⟨hgd, hwf⟩ := hok
            rw [Gd] at hgd
            have hkd : kd n = some ks.length ∧ (∀ t, t ∈ ks → WF t) := by cases hwf with | mk _ _ hk _ h => exact ⟨hk, h⟩
            obtain ⟨x, hx⟩ : ∃ x, x = a + szs ks := ⟨_, rfl⟩
            rw [← hx] at hgd
            have hxn : ns[x]? = some n := hgd.1
            have hxl : x < ns.length := (List.getElem?_eq_some_iff.1 hxn).1
            have hcv : cv = (x : Int) := by rw [hcode, It.code, sz, hx]; omega
            subst hcv
            have HGK := Aside0.mk hgd.2.2
            have HKD := Aside0.mk hkd
            have HXE := Aside0.mk hx
            have HXN := Aside0.mk hxn
            have HXL := Aside0.mk hxl
            have hnm := List.mem_of_getElem? hxn
            have HNR := Aside0.mk (HRg.out n hnm)
            have HNS := Aside0.mk (HS.out n hnm)
            have HKR := Aside0.mk (rkids_calls n)
            rw [kd_kr_q hkd.1] at HKR
            have d0 : ¬ (x : Int) < 0 := by omega
            have d1 : decide ((x : Int) < 0) = false := decide_eq_false d0
            have W2 : ∀ [Inhabited Unit], wrap64 (x : Int) = (x : Int) := by intro _; have := HN.out; unfold wrap64; omega
            have x1 : decide ((x : Int) < (ns.length : Int)) = true := decide_eq_true (by omega)
            obtain ⟨ad3, hA3, hx0, hx1, hx2, hx3, hx4⟩ := at_nd (HC.out.out wc HFW.out.below) hxn
            subst hA3
            clear hgd hwf hkd hx hxn hnm hcode
            go_wp2_with fail
            refine (rahead_calls n HNR.out HNS.out wc).mono ?_
            rintro e w4 ⟨rfl, hb4⟩
            have HRO4 := Aside0.mk (HRO.out.below hb4)
            have HFW4 := Aside0.mk (HFW.out.andBelow HR.out.base hb4)
            have HXF4 := Aside0.mk (blk_below HXF.out hb4)
            have HTR4 := Aside0.mk (Kd.R_below HTK.out hb4)
            have HGS4 : Aside0 (G ≤ w4.heap.size) := ⟨Nat.le_trans HGS.out hb4.size⟩
            clear hb4 hx0 hx1 hx2 hx3 hx4
            go_wp2_with fail
            refine (put_calls w4 (T.ba (ahd n)) HRO4.out (ahd_size HNR.out HNS.out)).mono ?_
            rintro e w5 ⟨rfl, hr5, hf5⟩
            have HRO5 := Aside0.mk hr5
            have HFW5 := Aside0.mk (HFW4.out.trans hf5)
            have HXF5 := Aside0.mk (hf5.other HXF4.out (by decide) (HRO4.out.blkne HXF4.out (by decide)))
            have HTR5 := Aside0.mk (R_fw HTR4.out hf5 HRO4.out)
            have HGS5 : Aside0 (G ≤ w5.heap.size) := ⟨Nat.le_trans HGS4.out hf5.size⟩
            clear hr5 hf5
            obtain ⟨ob5, hob5⟩ : ∃ o, o = put ob (T.ba (ahd n)).data.toList := ⟨_, rfl⟩
            have HWO5 : Aside0 (Wrote bs (s ++ ahd n) ob5) := ⟨by rw [hob5]; exact HWO.out.1.trans (Wrote.put ob _)⟩
            rw [← hob5] at HRO5
            clear hob5
            obtain ⟨y, hy2⟩ : ∃ y : Nat, y = 2 * x := ⟨_, rfl⟩
            obtain ⟨cB, hcB⟩ : ∃ cB : Int, cB = (It.bh x n).code := ⟨_, rfl⟩
            obtain ⟨cT, hcT⟩ : ∃ cT : Int, cT = (It.bt x n).code := ⟨_, rfl⟩
            obtain ⟨xm, hxm⟩ : ∃ xm : Int, xm = (x : Int) - 1 := ⟨_, rfl⟩
            have W3 : ∀ [Inhabited Unit], wrap64 (2 * (x : Int)) = (y : Int) := by intro _; have := HN.out; unfold wrap64; omega
            have W4 : ∀ [Inhabited Unit], wrap64 ((y : Int) + 1) = (y : Int) + 1 := by intro _; have := HN.out; unfold wrap64; omega
            have W5 : ∀ [Inhabited Unit], wrap64 (-1 - ((y : Int) + 1)) = cB := by intro _; have := HN.out; rw [hcB, It.code]; unfold wrap64; omega
            have W6 : ∀ [Inhabited Unit], wrap64 (-1 - (y : Int)) = cT := by intro _; have := HN.out; rw [hcT, It.code]; unfold wrap64; omega
            have W7 : ∀ [Inhabited Unit], wrap64 ((x : Int) - 1) = xm := by intro _; have := HN.out; rw [hxm]; unfold wrap64; omega
            have HCB := Aside0.mk hcB
            have HCT := Aside0.mk hcT
            have HXM := Aside0.mk hxm
            obtain ⟨cs, hcs⟩ : ∃ cs, cs = ip.map It.code := ⟨_, rfl⟩
            have HCS := Aside0.mk hcs
            have HCL : Aside0 (cs.length = p) := ⟨by rw [hcs, List.length_map, HP.out]⟩
            rw [← hcs] at HTR5
            clear hcB hcT hxm hy2 hcs
            clear hcuto hy
            go_wp2_with (first
              | ((with_reducible refine gate_builtin (b := .append) (xs := #[.tmp 88, .tmp 93]) rfl ?_); go_must (at_builtin; refine Kd.R_append (Kd.int .i64) (w0 := w5) G rfl (.tmp 88) (.tmp 93) 85 3 (.int .i64 0) 8 rfl Tryd.underlying85 infoI rfl (by decide) (by omega) (.slice (some ad2) p cq) cs cB [.int .i64 cB] (fun _ => True) (fun _ => False) rfl (by first | rfl | simp [Act.eval]) (show (Kd.int .i64).M _ _ _ cB [.int .i64 cB] from rfl) (fun _ hk => hk.elim) (fun _ _ => trivial) HTR5.out (Below.refl _ _) HGS5.out (by rw [HCL.out]; have := HPB.out; have := HN.out; omega) ?_; intro v6 w6 ho hb hg hat; obtain ⟨A6, c6, hv6⟩ := Kd.R_slice ho; rw [List.length_append, List.length_singleton] at hv6; subst hv6; have HTR6 := Aside0.mk ho; have HRO6 := Aside0.mk (HRO5.out.grown HTR5.out hg); have HFW6 := Aside0.mk (HFW5.out.grown HR.out.base hg (fun k hk => Nat.le_trans HGw.out.1 (Kd.R_base HTR5.out k hk))); have HXF6 := Aside0.mk (blk_grown HXF5.out hg (fun e => by have := Kd.R_base HTR5.out F e.symm; have := HGw.out.2; omega)); have HGS6 : Aside0 (G ≤ w6.heap.size) := ⟨Nat.le_trans HGS5.out hg.size⟩; obtain ⟨ad4, hA4, hz0, hz1, hz2, hz3, hz4⟩ := at_nd (HC.out.out w6 HFW6.out.below) HXN.out; injection hA4 with hA4; subst hA4; clear ho hb hg hat))
              | fail)
            refine (HKR.out w6).mono ?_
            rintro e w7 ⟨rfl, hb7⟩
            have HRO7 := Aside0.mk (HRO6.out.below hb7)
            have HFW7 := Aside0.mk (HFW6.out.andBelow HR.out.base hb7)
            have HXF7 := Aside0.mk (blk_below HXF6.out hb7)
            have HTR7 := Aside0.mk (Kd.R_below HTR6.out hb7)
            have HGS7 : Aside0 (G ≤ w7.heap.size) := ⟨Nat.le_trans HGS6.out hb7.size⟩
            have HKL : Aside0 (ks.length ≤ ns.length) := ⟨by have := P.len_szs ks; have := HXE.out; have := HXL.out; omega⟩
            clear hz0 hz1 hz2 hz3 hz4 hb7
            go_wp2_with fail
            go_loopw [8, 10, 11] (fun t8 t10 t11 wr => ∃ k : Nat, t11 = .int .i64 (k : Int) ∧ t10 = .int .i64 (((a + szs (ks.take k) : Nat) : Int) - 1) ∧ Aside0 (k ≤ ks.length) ∧ Aside0 (Kd.R (Kd.int .i64) 3 wr G (fun _ => True) t8 ((ip ++ [It.bh x n] ++ pkK x n ks a k).map It.code)) ∧ Aside0 (Ro wr B b ob5) ∧ Aside0 (Fw B b w wr) ∧ Aside0 (wr.heap[F]? = some (.cells (fc fs) 3 (0, 0))) ∧ Aside0 (G ≤ wr.heap.size)) (fun _ _ t11 _ => left t11)
            case atStart =>
              refine ⟨ks.length, rfl, ?_, ⟨Nat.le_refl _⟩, ⟨?_⟩, HRO7, HFW7, HXF7, HGS7⟩
              · rw [List.take_length, HXM.out, HXE.out]
              · rw [P.pkK_all, List.append_nil, List.map_append, List.map_cons, List.map_nil, ← HCS.out, ← HCB.out]; exact HTR7.out
            case round =>
              obtain ⟨k, rfl, rfl, hk, HTRi, HROi, HFWi, HXFi, HGSi⟩ := hrel
              rename World => wd
              obtain ⟨Ai, ci, hvi⟩ := Kd.R_slice HTRi.out
              subst hvi
              obtain ⟨li, hli⟩ : ∃ li, li = (ip ++ [It.bh x n] ++ pkK x n ks a k).map It.code := ⟨_, rfl⟩
              rw [← hli] at HTRi ⊢
              have HLI := Aside0.mk hli
              clear hli
              cases k with
              | zero =>
                have e1 : decide (((0 : Nat) : Int) > 0) = false := by decide
                go_wp2_with fail
                go_roundg (pw (ip ++ [It.bh x n] ++ pk x n false ks a))
                case measure =>
                  have h1 := HPW.out.1
                  have h2 := P.pk_w x n false ks a
                  rw [P.pw_app] at h1 ⊢
                  rw [P.pw_app]
                  simp only [pw, It.w, sz] at h1 ⊢
                  omega
                case rel =>
                  refine ⟨ip ++ [It.bh x n] ++ pk x n false ks a, s ++ ahd n, ob5, ⟨by rw [← P.pkK_zero, ← HLI.out]; exact HTRi.out⟩, ⟨?_⟩, ⟨rfl, ?_⟩, ⟨HWO5.out, ?_⟩, HROi, HFWi, HXFi, HGSi⟩
                  · intro i hi
                    rcases List.mem_append.1 hi with hi | hi
                    · rcases List.mem_append.1 hi with hi | hi
                      · exact HOK.out i (List.mem_append_left _ hi)
                      · rw [List.mem_singleton] at hi; subst hi; exact HXN.out
                    · exact P.pk_ok HXN.out false ks a HGK.out HKD.out.2 i hi
                  · have h1 := HPW.out
                    have h2 := P.pk_w x n false ks a
                    rw [P.pw_app] at h1 ⊢
                    rw [P.pw_app]
                    simp only [pw, It.w, sz] at h1 ⊢
                    omega
                  · have h := HWO.out.2
                    rw [P.ptx_app, P.ptx_one, It.tx, P.tx_eq HKD.out.1] at h
                    rw [P.ptx_app, P.ptx_app, P.ptx_one, P.pk_false, It.tx, List.append_assoc, ← List.append_assoc (P.sepB _ _), ← List.append_assoc (ahd n)]
                    exact h
              | succ j =>
                have hjl : j < ks.length := by have := hk.out; omega
                obtain ⟨m2, hm2⟩ : ∃ m2, a + szs (ks.take (j + 1)) = m2 + 1 := ⟨a + szs (ks.take (j + 1)) - 1, by have := P.len_szs (ks.take (j + 1)); rw [List.length_take] at this; omega⟩
                have hbk := P.Gds_back HGK.out hjl
                rw [hm2, Nat.add_sub_cancel] at hbk
                have hm2l : m2 < ns.length := by
                  have h1 := P.szs_app (ks.take (j + 1)) (ks.drop (j + 1))
                  rw [List.take_append_drop] at h1
                  have := HXE.out; have := HXL.out
                  omega
                obtain ⟨v2, hv2⟩ : ∃ v2, v2 = a + szs (ks.take j) := ⟨_, rfl⟩
                rw [← hv2] at hbk
                have hcell : ∀ wz : World, wz.heap[F]? = some (.cells (fc fs) 3 (0, 0)) → wz.cell? ⟨F, m2, none⟩ = some (.int .i64 (v2 : Int)) := fun wz hz => by
                  rw [blk_cell hz m2, fc_get fs m2 (by rw [HFL.out]; exact hm2l)]
                  show some (Value.int .i64 ((fF fs m2 : Nat) : Int)) = _
                  rw [hbk]
                have HCE := Aside0.mk hcell
                have hnc : (It.nd (a + szs (ks.take j)) ks[j]).code = (m2 : Int) := by rw [P.nd_code hjl, hm2]; rfl
                have hnx := P.pkK_next x n ks a j hjl
                obtain ⟨nd0, hnd0⟩ : ∃ d, d = It.nd (a + szs (ks.take j)) ks[j] := ⟨_, rfl⟩
                rw [← hnd0] at hnc hnx
                have HNC := Aside0.mk hnc
                have HNX := Aside0.mk hnx
                have hv2l : v2 ≤ ns.length := by
                  have h1 := P.szs_app (ks.take j) (ks.drop j)
                  rw [List.take_append_drop] at h1
                  have := HXE.out; have := HXL.out
                  omega
                have HLL : Aside0 (li.length ≤ 8796093022208) := ⟨by
                  rw [HLI.out, List.length_map]
                  have h1 := P.len_pw (ip ++ [It.bh x n] ++ pkK x n ks a (j + 1))
                  have h2 := P.pk_w x n (decide (0 < j + 1)) (ks.drop (j + 1)) (a + szs (ks.take (j + 1)))
                  have h3 := P.szs_app (ks.take (j + 1)) (ks.drop (j + 1))
                  rw [List.take_append_drop] at h3
                  have h4 := HPW.out
                  rw [P.pw_app] at h4 h1
                  rw [P.pw_app] at h1
                  unfold pkK at h1 ⊢
                  simp only [pw, It.w, sz] at h4 h1
                  have := HN.out
                  omega⟩
                have e1 : decide (((j + 1 : Nat) : Int) > 0) = true := decide_eq_true (by omega)
                have V1 : ∀ [Inhabited Unit], wrap64 (m2 : Int) = (m2 : Int) := by intro _; have := HN.out; unfold wrap64; omega
                have V2 : ∀ [Inhabited Unit], wrap64 ((v2 : Int) - 1) = (v2 : Int) - 1 := by intro _; have := HN.out; unfold wrap64; omega
                have V3 : ∀ [Inhabited Unit], wrap64 (j : Int) = (j : Int) := by intro _; have := HN.out; have := HKL.out; unfold wrap64; omega
                have z1 : decide ((m2 : Int) < (ns.length : Int)) = true := decide_eq_true (by omega)
                have HV2 := Aside0.mk hv2
                have HJL := Aside0.mk hjl
                rw [hm2]
                rw [show (((m2 + 1 : Nat) : Int) - 1) = (m2 : Int) by omega]
                clear hv2 hbk hm2 hcell hv2l hnc hnx hnd0 hjl
                by_cases cj : 0 < j
                · have e2 : decide (((j + 1 : Nat) : Int) > 1) = true := decide_eq_true (by omega)
                  have e3 : decide ((1 : Int) < ((j : Int) + 1)) = true := decide_eq_true (by omega)
                  have e4 : decide (0 < j) = true := decide_eq_true cj
                  have HCJ := Aside0.mk cj
                  go_wp2_with (first
                    | ((with_reducible refine gate_builtin (b := .append) (xs := #[.tmp 106, .tmp 108]) rfl ?_); go_must (at_builtin; refine Kd.R_append (Kd.int .i64) (w0 := wd) G rfl (.tmp 106) (.tmp 108) 85 3 (.int .i64 0) 8 rfl Tryd.underlying85 infoI rfl (by decide) (by omega) (.slice Ai li.length ci) li (m2 : Int) [.int .i64 (m2 : Int)] (fun _ => True) (fun _ => False) rfl (by first | rfl | simp [Act.eval]) (show (Kd.int .i64).M _ _ _ (m2 : Int) [.int .i64 (m2 : Int)] from rfl) (fun _ hk => hk.elim) (fun _ _ => trivial) HTRi.out (Below.refl _ _) HGSi.out (by have := HLL.out; omega) ?_; intro v8 w8 ho hb hg hat; obtain ⟨A8, c8, hv8⟩ := Kd.R_slice ho; rw [List.length_append, List.length_singleton] at hv8; subst hv8; have HTR8 := Aside0.mk ho; have HRO8 := Aside0.mk (HROi.out.grown HTRi.out hg); have HFW8 := Aside0.mk (HFWi.out.grown HR.out.base hg (fun k hk => Nat.le_trans HGw.out.1 (Kd.R_base HTRi.out k hk))); have HXF8 := Aside0.mk (blk_grown HXFi.out hg (fun e => by have := Kd.R_base HTRi.out F e.symm; have := HGw.out.2; omega)); have HGS8 : Aside0 (G ≤ w8.heap.size) := ⟨Nat.le_trans HGSi.out hg.size⟩; have hcl := HCE.out _ HXF8.out; clear ho hb hg hat))
                    | ((with_reducible refine gate_builtin (b := .append) (xs := #[.tmp 112, .tmp 116]) rfl ?_); go_must (at_builtin; refine Kd.R_append (Kd.int .i64) (w0 := w8) G rfl (.tmp 112) (.tmp 116) 85 3 (.int .i64 0) 8 rfl Tryd.underlying85 infoI rfl (by decide) (by omega) (.slice A8 (li.length + 1) c8) (li ++ [(m2 : Int)]) cT [.int .i64 cT] (fun _ => True) (fun _ => False) rfl (by first | rfl | simp [Act.eval]) (show (Kd.int .i64).M _ _ _ cT [.int .i64 cT] from rfl) (fun _ hk => hk.elim) (fun _ _ => trivial) HTR8.out (Below.refl _ _) HGS8.out (by rw [List.length_append, List.length_singleton]; have := HLL.out; omega) ?_; intro v9 w9 ho hb hg hat; obtain ⟨A9, c9, hv9⟩ := Kd.R_slice ho; rw [List.length_append, List.length_singleton] at hv9; subst hv9; have HTR9 := Aside0.mk ho; have HRO9 := Aside0.mk (HRO8.out.grown HTR8.out hg); have HFW9 := Aside0.mk (HFW8.out.grown HR.out.base hg (fun k hk => Nat.le_trans HGw.out.1 (Kd.R_base HTR8.out k hk))); have HXF9 := Aside0.mk (blk_grown HXF8.out hg (fun e => by have := Kd.R_base HTR8.out F e.symm; have := HGw.out.2; omega)); have HGS9 : Aside0 (G ≤ w9.heap.size) := ⟨Nat.le_trans HGS8.out hg.size⟩; have hcl2 := HCE.out _ HXF9.out; clear ho hb hg hat))
                    | fail)
                  rw [V3]
                  go_roundw
                  case measure => simp only [left, Int.toNat_natCast]; omega
                  case rel =>
                    refine ⟨j, rfl, by rw [V2, HV2.out], ⟨by have := HJL.out; omega⟩, ⟨?_⟩, HRO9, HFW9, HXF9, HGS9⟩
                    rw [HNX.out, if_pos HCJ.out, ← List.append_assoc, ← List.append_assoc, List.map_append, List.map_append, ← HLI.out, List.map_cons, List.map_nil, HNC.out, List.map_cons, List.map_nil, ← HCT.out]
                    have h9 := HTR9.out
                    simp only [List.length_append, List.length_singleton] at h9
                    exact h9
                · have e2 : decide (((j + 1 : Nat) : Int) > 1) = false := decide_eq_false (by omega)
                  have hj0 : j = 0 := by omega
                  subst hj0
                  go_wp2_with (first
                    | ((with_reducible refine gate_builtin (b := .append) (xs := #[.tmp 106, .tmp 108]) rfl ?_); go_must (at_builtin; refine Kd.R_append (Kd.int .i64) (w0 := wd) G rfl (.tmp 106) (.tmp 108) 85 3 (.int .i64 0) 8 rfl Tryd.underlying85 infoI rfl (by decide) (by omega) (.slice Ai li.length ci) li (m2 : Int) [.int .i64 (m2 : Int)] (fun _ => True) (fun _ => False) rfl (by first | rfl | simp [Act.eval]) (show (Kd.int .i64).M _ _ _ (m2 : Int) [.int .i64 (m2 : Int)] from rfl) (fun _ hk => hk.elim) (fun _ _ => trivial) HTRi.out (Below.refl _ _) HGSi.out (by have := HLL.out; omega) ?_; intro v8 w8 ho hb hg hat; obtain ⟨A8, c8, hv8⟩ := Kd.R_slice ho; rw [List.length_append, List.length_singleton] at hv8; subst hv8; have HTR8 := Aside0.mk ho; have HRO8 := Aside0.mk (HROi.out.grown HTRi.out hg); have HFW8 := Aside0.mk (HFWi.out.grown HR.out.base hg (fun k hk => Nat.le_trans HGw.out.1 (Kd.R_base HTRi.out k hk))); have HXF8 := Aside0.mk (blk_grown HXFi.out hg (fun e => by have := Kd.R_base HTRi.out F e.symm; have := HGw.out.2; omega)); have HGS8 : Aside0 (G ≤ w8.heap.size) := ⟨Nat.le_trans HGSi.out hg.size⟩; have hcl := HCE.out _ HXF8.out; clear ho hb hg hat))
                    | fail)
                  go_roundw
                  case measure => simp only [left, Int.toNat_natCast]; omega
                  case rel =>
                    refine ⟨0, rfl, by rw [V2, HV2.out], ⟨by have := HJL.out; omega⟩, ⟨?_⟩, HRO8, HFW8, HXF8, HGS8⟩
                    rw [HNX.out, if_neg (by omega), List.append_nil, ← List.append_assoc, List.map_append, ← HLI.out, List.map_cons, List.map_nil, HNC.out]
                    exact HTR8.out
end Go.Proofs.YtaijoghpfobdbaaDoor.W
end
section
set_option linter.unusedVariables false
set_option linter.unusedSimpArgs false
namespace Go.Proofs.YtaijoghpfobdbaaDoor.W
open Go.RowKit Go.Proofs.YtaijoghpfobdbaaDoor.X Go.Proofs.YtaijoghpfobdbaaDoorW.PrintWords Go.Proofs.YtaijoghpfobdbaaDoorW.PrintLast Go.Proofs.YtaijoghpfobdbaaDoorW.PrintMore
open Go.Proofs.YtaijoghpfobdbaaDoor.P (Tr Nd Wrote put fin build tx dep dmx pile rj)
theorem rjudge_calls (w : World) (A : Option Addr) (c : Nat) (ns : List Nd) (hC : Kd.C k46 w A ns.length ns) (hc : ns.length ≤ c) (hns : ns.length ≤ 1099511627776) : Calls Tryd.prog 38 #[.slice A ns.length c] w fun e w' => e = .returned (.tuple #[.bool (rj (build ns [])).1, .int .i64 (rj (build ns [])).2]) ∧ Below w.heap.size w w' := by
  obtain ⟨k, hk⟩ := (P.rjudge_ev ns (by omega)).rounds
  exact stratumref10_judge.calls k A c ns _ _ w hC hc hk
theorem rj_one {ns : List Nd} {t : Tr} (h : build ns [] = some [t]) : rj (build ns []) = (true, (dep t : Int)) := by
  rw [h]
  simp [rj, P.pile_len, dmx]
theorem rj_not {ns : List Nd} (h : ∀ t, build ns [] ≠ some [t]) : (rj (build ns [])).1 = false := by
  unfold rj
  split
  · rename_i st hst
    simp only [P.pile_len]
    match st, hst with
    | [], _ => rfl
    | [t], hst => exact absurd hst (h t)
    | a :: b :: l, _ => simp; omega
  · rfl
end Go.Proofs.YtaijoghpfobdbaaDoor.W
end
section
set_option linter.unusedVariables false
set_option linter.unusedSimpArgs false
namespace Go.Proofs.YtaijoghpfobdbaaDoor.W
open Go.RowKit Go.Proofs.YtaijoghpfobdbaaDoor.X Go.Proofs.YtaijoghpfobdbaaDoorW.PrintWords Go.Proofs.YtaijoghpfobdbaaDoorW.PrintLast Go.Proofs.YtaijoghpfobdbaaDoorW.PrintMore
open Go.Proofs.YtaijoghpfobdbaaDoor.P (Tr Nd build rj StD goodB nameB noV)
def rst (d : StD) : Bool × Int := if goodB d = true then (if d.val.length = 0 then (true, 0) else rj (build d.val [])) else (false, 0)
theorem rst_bad {d : StD} (h : goodB d = false) : rst d = (false, 0) := by unfold rst; rw [if_neg (by rw [h]; decide)]
theorem rst_nil {d : StD} (h : goodB d = true) (h0 : d.val.length = 0) : rst d = (true, 0) := by unfold rst; rw [if_pos h, if_pos h0]
theorem rst_val {d : StD} (h : goodB d = true) (h0 : ¬ d.val.length = 0) : rst d = rj (build d.val []) := by unfold rst; rw [if_pos h, if_neg h0]
theorem rname_calls (s : ByteArray) (w : World) : Calls Tryd.prog 73 #[.string s] w fun e w' => e = .returned (.bool (nameB s)) ∧ Below w.heap.size w w' := by
  obtain ⟨k, hk⟩ := (T.rname_ev s).rounds
  exact stratumref10_name.calls k _ _ w hk
set_option maxHeartbeats 8000000 in
set_option maxRecDepth 100000 in
theorem rstep1 (w : World) (a b c sep ty : ByteArray) (A : Option Addr) (cc : Nat) (pl : Int) (val : List Nd) (hC : Kd.C k46 w A val.length val) (hc : val.length ≤ cc) (hl : val.length ≤ 1099511627776) :
    Calls Tryd.prog 74 #[.agg #[.int .i64 1, .string a, .string b, .string c, .string sep, .string ty, .slice A val.length cc, .int .i64 pl]] w fun e w' => e = .returned (.tuple #[.bool (rst ⟨1, a, b, c, sep, ty, val, pl⟩).1, .int .i64 (rst ⟨1, a, b, c, sep, ty, val, pl⟩).2]) ∧ Below w.heap.size w w' := by
  obtain ⟨na, zna⟩ : ∃ na, nameB a = na := ⟨_, rfl⟩
  obtain ⟨eb, zeb⟩ : ∃ eb, (b.toList == []) = eb := ⟨_, rfl⟩
  obtain ⟨ec, zec⟩ : ∃ ec, (c.toList == []) = ec := ⟨_, rfl⟩
  obtain ⟨nty, znty⟩ : ∃ nty, nameB ty = nty := ⟨_, rfl⟩
  obtain ⟨es, zes⟩ : ∃ es, (sep.toList == []) = es := ⟨_, rfl⟩
  obtain ⟨e3, z3⟩ : ∃ e3, ((val.length : Int) == 0) = e3 := ⟨_, rfl⟩
  have z3' : (val.length == 0) = e3 := by rw [← z3, Bool.eq_iff_iff, beq_iff_eq, beq_iff_eq]; omega
  have HNV : noV ⟨1, a, b, c, sep, ty, val, pl⟩ = e3 := by rw [← z3', Bool.eq_iff_iff]; simp [noV]
  have HGD : Aside0 (goodB ⟨1, a, b, c, sep, ty, val, pl⟩ = ((na && (nty && true)) && (eb && (ec && (es && true))))) := ⟨by unfold goodB; simp only [HNV]; subst zna zeb zec znty zes; rfl⟩
  have HZ3 := Aside0.mk z3'
  have Hna : Aside0 (∀ w, Calls Tryd.prog 73 #[.string a] w fun e w' => e = .returned (.bool na) ∧ Below w.heap.size w w') := ⟨fun w => by rw [← zna]; exact rname_calls a w⟩
  have Hnty : Aside0 (∀ w, Calls Tryd.prog 73 #[.string ty] w fun e w' => e = .returned (.bool nty) ∧ Below w.heap.size w w') := ⟨fun w => by rw [← znty]; exact rname_calls ty w⟩
  have HC := Aside0.mk hC
  have HCC := Aside0.mk hc
  have HL := Aside0.mk hl
  obtain ⟨wA, hwA⟩ : ∃ wA, wA = w.alloc (.cells #[.int .i64 1, .string a, .string b, .string c, .string sep, .string ty, .slice A val.length cc, .int .i64 pl] 55) := ⟨_, rfl⟩
  have hbA : Below w.heap.size w wA := by rw [hwA]; exact below_alloc (Below.refl _ _) _
  have hxA : wA.heap[w.heap.size]? = some (.cells #[.int .i64 1, .string a, .string b, .string c, .string sep, .string ty, .slice A val.length cc, .int .i64 pl] 55 (0, 0)) := by rw [hwA]; exact blk_new _ _
  have HB0 := Aside0.mk hbA
  have HX0 := Aside0.mk hxA
  have HE := Aside0.mk hwA
  obtain ⟨y0, y1, y2, y3, y4, y5, y6, y7⟩ := box8 hxA
  clear HNV hC hc hl hwA hbA hxA zna znty
  go_enter Tryd.func74, Tryd.ntmps74
  go_wp2_with fail
  rw [← HE.out]
  refine (Hna.out wA).mono ?_
  rintro e w1 ⟨rfl, hb1⟩
  have HB1 := Aside0.mk (below_step HB0.out hb1)
  have HX1 := Aside0.mk (blk_below HX0.out hb1)
  clear hb1 y0 y1 y2 y3 y4 y5 y6 y7
  obtain ⟨y0, y1, y2, y3, y4, y5, y6, y7⟩ := box8 HX1.out
  cases na with
  | false =>
    go_wp2_with fail
    go_ret2
    exact ⟨by rw [rst_bad (by rw [HGD.out]; simp)]; rfl, HB1.out⟩
  | true =>
    cases eb with
    | false =>
      go_wp2_with fail
      go_ret2
      exact ⟨by rw [rst_bad (by rw [HGD.out]; simp)]; rfl, HB1.out⟩
    | true =>
      cases ec with
      | false =>
        go_wp2_with fail
        go_ret2
        exact ⟨by rw [rst_bad (by rw [HGD.out]; simp)]; rfl, HB1.out⟩
      | true =>
        go_wp2_with fail
        refine (Hnty.out w1).mono ?_
        rintro e w2 ⟨rfl, hb2⟩
        have HB2 := Aside0.mk (below_step HB1.out hb2)
        have HX2 := Aside0.mk (blk_below HX1.out hb2)
        clear hb2 y0 y1 y2 y3 y4 y5 y6 y7
        obtain ⟨y0, y1, y2, y3, y4, y5, y6, y7⟩ := box8 HX2.out
        cases nty with
        | false =>
          go_wp2_with fail
          go_ret2
          exact ⟨by rw [rst_bad (by rw [HGD.out]; simp)]; rfl, HB2.out⟩
        | true =>
          cases es with
          | false =>
            go_wp2_with fail
            go_ret2
            exact ⟨by rw [rst_bad (by rw [HGD.out]; simp)]; rfl, HB2.out⟩
          | true =>
            have HLZ := Aside0.mk HZ3.out
            cases e3 with
            | true =>
              go_wp2_with fail
              go_ret2
              exact ⟨by rw [rst_nil (by rw [HGD.out]; rfl) (beq_iff_eq.1 HZ3.out)]; rfl, HB2.out⟩
            | false =>
              have HNE : Aside0 (¬ val.length = 0) := ⟨beq_eq_false_iff_ne.1 HZ3.out⟩
              go_wp2_with fail
              refine (rjudge_calls w2 A cc val (Kd.C_below HC.out HB2.out) HCC.out HL.out).mono ?_
              rintro e wz ⟨rfl, hbz⟩
              have HBZ := Aside0.mk (below_step HB2.out hbz)
              clear hbz
              go_wp2_with fail
              go_ret2
              exact ⟨by rw [rst_val (by rw [HGD.out]; rfl) HNE.out]; rfl, HBZ.out⟩
set_option maxHeartbeats 8000000 in
set_option maxRecDepth 100000 in
theorem rstep2 (w : World) (a b c sep ty : ByteArray) (A : Option Addr) (cc : Nat) (pl : Int) (val : List Nd) (hC : Kd.C k46 w A val.length val) (hc : val.length ≤ cc) (hl : val.length ≤ 1099511627776) :
    Calls Tryd.prog 74 #[.agg #[.int .i64 2, .string a, .string b, .string c, .string sep, .string ty, .slice A val.length cc, .int .i64 pl]] w fun e w' => e = .returned (.tuple #[.bool (rst ⟨2, a, b, c, sep, ty, val, pl⟩).1, .int .i64 (rst ⟨2, a, b, c, sep, ty, val, pl⟩).2]) ∧ Below w.heap.size w w' := by
  obtain ⟨na, zna⟩ : ∃ na, nameB a = na := ⟨_, rfl⟩
  obtain ⟨nb, znb⟩ : ∃ nb, nameB b = nb := ⟨_, rfl⟩
  obtain ⟨ec, zec⟩ : ∃ ec, (c.toList == []) = ec := ⟨_, rfl⟩
  obtain ⟨et, zet⟩ : ∃ et, (ty.toList == []) = et := ⟨_, rfl⟩
  obtain ⟨es, zes⟩ : ∃ es, (sep.toList == []) = es := ⟨_, rfl⟩
  obtain ⟨e3, z3⟩ : ∃ e3, ((val.length : Int) == 0) = e3 := ⟨_, rfl⟩
  have z3' : (val.length == 0) = e3 := by rw [← z3, Bool.eq_iff_iff, beq_iff_eq, beq_iff_eq]; omega
  have HNV : noV ⟨2, a, b, c, sep, ty, val, pl⟩ = e3 := by rw [← z3', Bool.eq_iff_iff]; simp [noV]
  have HGD : Aside0 (goodB ⟨2, a, b, c, sep, ty, val, pl⟩ = (((na && (nb && true)) && ec) && ((es && et) && e3))) := ⟨by unfold goodB; simp only [HNV]; subst zna znb zec zet zes; rfl⟩
  have HZ3 := Aside0.mk z3'
  have Hna : Aside0 (∀ w, Calls Tryd.prog 73 #[.string a] w fun e w' => e = .returned (.bool na) ∧ Below w.heap.size w w') := ⟨fun w => by rw [← zna]; exact rname_calls a w⟩
  have Hnb : Aside0 (∀ w, Calls Tryd.prog 73 #[.string b] w fun e w' => e = .returned (.bool nb) ∧ Below w.heap.size w w') := ⟨fun w => by rw [← znb]; exact rname_calls b w⟩
  have HC := Aside0.mk hC
  have HCC := Aside0.mk hc
  have HL := Aside0.mk hl
  obtain ⟨wA, hwA⟩ : ∃ wA, wA = w.alloc (.cells #[.int .i64 2, .string a, .string b, .string c, .string sep, .string ty, .slice A val.length cc, .int .i64 pl] 55) := ⟨_, rfl⟩
  have hbA : Below w.heap.size w wA := by rw [hwA]; exact below_alloc (Below.refl _ _) _
  have hxA : wA.heap[w.heap.size]? = some (.cells #[.int .i64 2, .string a, .string b, .string c, .string sep, .string ty, .slice A val.length cc, .int .i64 pl] 55 (0, 0)) := by rw [hwA]; exact blk_new _ _
  have HB0 := Aside0.mk hbA
  have HX0 := Aside0.mk hxA
  have HE := Aside0.mk hwA
  obtain ⟨y0, y1, y2, y3, y4, y5, y6, y7⟩ := box8 hxA
  clear HNV hC hc hl hwA hbA hxA zna znb
  go_enter Tryd.func74, Tryd.ntmps74
  go_wp2_with fail
  rw [← HE.out]
  refine (Hna.out wA).mono ?_
  rintro e w1 ⟨rfl, hb1⟩
  have HB1 := Aside0.mk (below_step HB0.out hb1)
  have HX1 := Aside0.mk (blk_below HX0.out hb1)
  clear hb1 y0 y1 y2 y3 y4 y5 y6 y7
  obtain ⟨y0, y1, y2, y3, y4, y5, y6, y7⟩ := box8 HX1.out
  cases na with
  | false =>
    go_wp2_with fail
    go_ret2
    exact ⟨by rw [rst_bad (by rw [HGD.out]; simp)]; rfl, HB1.out⟩
  | true =>
    go_wp2_with fail
    refine (Hnb.out w1).mono ?_
    rintro e w2 ⟨rfl, hb2⟩
    have HB2 := Aside0.mk (below_step HB1.out hb2)
    have HX2 := Aside0.mk (blk_below HX1.out hb2)
    clear hb2 y0 y1 y2 y3 y4 y5 y6 y7
    obtain ⟨y0, y1, y2, y3, y4, y5, y6, y7⟩ := box8 HX2.out
    cases nb with
    | false =>
      go_wp2_with fail
      go_ret2
      exact ⟨by rw [rst_bad (by rw [HGD.out]; simp)]; rfl, HB2.out⟩
    | true =>
      cases ec with
      | false =>
        go_wp2_with fail
        go_ret2
        exact ⟨by rw [rst_bad (by rw [HGD.out]; simp)]; rfl, HB2.out⟩
      | true =>
        cases et with
        | false =>
          go_wp2_with fail
          go_ret2
          exact ⟨by rw [rst_bad (by rw [HGD.out]; simp)]; rfl, HB2.out⟩
        | true =>
          cases es with
          | false =>
            go_wp2_with fail
            go_ret2
            exact ⟨by rw [rst_bad (by rw [HGD.out]; simp)]; rfl, HB2.out⟩
          | true =>
            have HLZ := Aside0.mk HZ3.out
            cases e3 with
            | true =>
              go_wp2_with fail
              go_ret2
              exact ⟨by rw [rst_nil (by rw [HGD.out]; rfl) (beq_iff_eq.1 HZ3.out)]; rfl, HB2.out⟩
            | false =>
              go_wp2_with fail
              go_ret2
              exact ⟨by rw [rst_bad (by rw [HGD.out]; simp)]; rfl, HB2.out⟩
set_option maxHeartbeats 8000000 in
set_option maxRecDepth 100000 in
theorem rstep3 (w : World) (a b c sep ty : ByteArray) (A : Option Addr) (cc : Nat) (pl : Int) (val : List Nd) (hC : Kd.C k46 w A val.length val) (hc : val.length ≤ cc) (hl : val.length ≤ 1099511627776) :
    Calls Tryd.prog 74 #[.agg #[.int .i64 3, .string a, .string b, .string c, .string sep, .string ty, .slice A val.length cc, .int .i64 pl]] w fun e w' => e = .returned (.tuple #[.bool (rst ⟨3, a, b, c, sep, ty, val, pl⟩).1, .int .i64 (rst ⟨3, a, b, c, sep, ty, val, pl⟩).2]) ∧ Below w.heap.size w w' := by
  obtain ⟨na, zna⟩ : ∃ na, nameB a = na := ⟨_, rfl⟩
  obtain ⟨nb, znb⟩ : ∃ nb, nameB b = nb := ⟨_, rfl⟩
  obtain ⟨nc, znc⟩ : ∃ nc, nameB c = nc := ⟨_, rfl⟩
  obtain ⟨et, zet⟩ : ∃ et, (ty.toList == []) = et := ⟨_, rfl⟩
  obtain ⟨e3, z3⟩ : ∃ e3, ((val.length : Int) == 0) = e3 := ⟨_, rfl⟩
  have z3' : (val.length == 0) = e3 := by rw [← z3, Bool.eq_iff_iff, beq_iff_eq, beq_iff_eq]; omega
  have HNV : noV ⟨3, a, b, c, sep, ty, val, pl⟩ = e3 := by rw [← z3', Bool.eq_iff_iff]; simp [noV]
  have HGD : Aside0 (goodB ⟨3, a, b, c, sep, ty, val, pl⟩ = (((na && (nb && (nc && true))) && et) && e3)) := ⟨by unfold goodB; simp only [HNV]; subst zna znb znc zet; rfl⟩
  have HZ3 := Aside0.mk z3'
  have Hna : Aside0 (∀ w, Calls Tryd.prog 73 #[.string a] w fun e w' => e = .returned (.bool na) ∧ Below w.heap.size w w') := ⟨fun w => by rw [← zna]; exact rname_calls a w⟩
  have Hnb : Aside0 (∀ w, Calls Tryd.prog 73 #[.string b] w fun e w' => e = .returned (.bool nb) ∧ Below w.heap.size w w') := ⟨fun w => by rw [← znb]; exact rname_calls b w⟩
  have Hnc : Aside0 (∀ w, Calls Tryd.prog 73 #[.string c] w fun e w' => e = .returned (.bool nc) ∧ Below w.heap.size w w') := ⟨fun w => by rw [← znc]; exact rname_calls c w⟩
  have HC := Aside0.mk hC
  have HCC := Aside0.mk hc
  have HL := Aside0.mk hl
  obtain ⟨wA, hwA⟩ : ∃ wA, wA = w.alloc (.cells #[.int .i64 3, .string a, .string b, .string c, .string sep, .string ty, .slice A val.length cc, .int .i64 pl] 55) := ⟨_, rfl⟩
  have hbA : Below w.heap.size w wA := by rw [hwA]; exact below_alloc (Below.refl _ _) _
  have hxA : wA.heap[w.heap.size]? = some (.cells #[.int .i64 3, .string a, .string b, .string c, .string sep, .string ty, .slice A val.length cc, .int .i64 pl] 55 (0, 0)) := by rw [hwA]; exact blk_new _ _
  have HB0 := Aside0.mk hbA
  have HX0 := Aside0.mk hxA
  have HE := Aside0.mk hwA
  obtain ⟨y0, y1, y2, y3, y4, y5, y6, y7⟩ := box8 hxA
  clear HNV hC hc hl hwA hbA hxA zna znb znc
  go_enter Tryd.func74, Tryd.ntmps74
  go_wp2_with fail
  rw [← HE.out]
  refine (Hna.out wA).mono ?_
  rintro e w1 ⟨rfl, hb1⟩
  have HB1 := Aside0.mk (below_step HB0.out hb1)
  have HX1 := Aside0.mk (blk_below HX0.out hb1)
  clear hb1 y0 y1 y2 y3 y4 y5 y6 y7
  obtain ⟨y0, y1, y2, y3, y4, y5, y6, y7⟩ := box8 HX1.out
  cases na with
  | false =>
    go_wp2_with fail
    go_ret2
    exact ⟨by rw [rst_bad (by rw [HGD.out]; simp)]; rfl, HB1.out⟩
  | true =>
    go_wp2_with fail
    refine (Hnb.out w1).mono ?_
    rintro e w2 ⟨rfl, hb2⟩
    have HB2 := Aside0.mk (below_step HB1.out hb2)
    have HX2 := Aside0.mk (blk_below HX1.out hb2)
    clear hb2 y0 y1 y2 y3 y4 y5 y6 y7
    obtain ⟨y0, y1, y2, y3, y4, y5, y6, y7⟩ := box8 HX2.out
    cases nb with
    | false =>
      go_wp2_with fail
      go_ret2
      exact ⟨by rw [rst_bad (by rw [HGD.out]; simp)]; rfl, HB2.out⟩
    | true =>
      go_wp2_with fail
      refine (Hnc.out w2).mono ?_
      rintro e w3 ⟨rfl, hb3⟩
      have HB3 := Aside0.mk (below_step HB2.out hb3)
      have HX3 := Aside0.mk (blk_below HX2.out hb3)
      clear hb3 y0 y1 y2 y3 y4 y5 y6 y7
      obtain ⟨y0, y1, y2, y3, y4, y5, y6, y7⟩ := box8 HX3.out
      cases nc with
      | false =>
        go_wp2_with fail
        go_ret2
        exact ⟨by rw [rst_bad (by rw [HGD.out]; simp)]; rfl, HB3.out⟩
      | true =>
        cases et with
        | false =>
          go_wp2_with fail
          go_ret2
          exact ⟨by rw [rst_bad (by rw [HGD.out]; simp)]; rfl, HB3.out⟩
        | true =>
          have HLZ := Aside0.mk HZ3.out
          cases e3 with
          | true =>
            go_wp2_with fail
            go_ret2
            exact ⟨by rw [rst_nil (by rw [HGD.out]; rfl) (beq_iff_eq.1 HZ3.out)]; rfl, HB3.out⟩
          | false =>
            go_wp2_with fail
            go_ret2
            exact ⟨by rw [rst_bad (by rw [HGD.out]; simp)]; rfl, HB3.out⟩
set_option maxHeartbeats 8000000 in
set_option maxRecDepth 100000 in
theorem rstep4 (w : World) (a b c sep ty : ByteArray) (A : Option Addr) (cc : Nat) (pl : Int) (val : List Nd) (hC : Kd.C k46 w A val.length val) (hc : val.length ≤ cc) (hl : val.length ≤ 1099511627776) :
    Calls Tryd.prog 74 #[.agg #[.int .i64 4, .string a, .string b, .string c, .string sep, .string ty, .slice A val.length cc, .int .i64 pl]] w fun e w' => e = .returned (.tuple #[.bool (rst ⟨4, a, b, c, sep, ty, val, pl⟩).1, .int .i64 (rst ⟨4, a, b, c, sep, ty, val, pl⟩).2]) ∧ Below w.heap.size w w' := by
  obtain ⟨na, zna⟩ : ∃ na, nameB a = na := ⟨_, rfl⟩
  obtain ⟨nb, znb⟩ : ∃ nb, nameB b = nb := ⟨_, rfl⟩
  obtain ⟨nc, znc⟩ : ∃ nc, nameB c = nc := ⟨_, rfl⟩
  obtain ⟨et, zet⟩ : ∃ et, (ty.toList == []) = et := ⟨_, rfl⟩
  obtain ⟨e3, z3⟩ : ∃ e3, ((val.length : Int) == 0) = e3 := ⟨_, rfl⟩
  have z3' : (val.length == 0) = e3 := by rw [← z3, Bool.eq_iff_iff, beq_iff_eq, beq_iff_eq]; omega
  have HNV : noV ⟨4, a, b, c, sep, ty, val, pl⟩ = e3 := by rw [← z3', Bool.eq_iff_iff]; simp [noV]
  have HGD : Aside0 (goodB ⟨4, a, b, c, sep, ty, val, pl⟩ = (((na && (nb && (nc && true))) && et) && e3)) := ⟨by unfold goodB; simp only [HNV]; subst zna znb znc zet; rfl⟩
  have HZ3 := Aside0.mk z3'
  have Hna : Aside0 (∀ w, Calls Tryd.prog 73 #[.string a] w fun e w' => e = .returned (.bool na) ∧ Below w.heap.size w w') := ⟨fun w => by rw [← zna]; exact rname_calls a w⟩
  have Hnb : Aside0 (∀ w, Calls Tryd.prog 73 #[.string b] w fun e w' => e = .returned (.bool nb) ∧ Below w.heap.size w w') := ⟨fun w => by rw [← znb]; exact rname_calls b w⟩
  have Hnc : Aside0 (∀ w, Calls Tryd.prog 73 #[.string c] w fun e w' => e = .returned (.bool nc) ∧ Below w.heap.size w w') := ⟨fun w => by rw [← znc]; exact rname_calls c w⟩
  have HC := Aside0.mk hC
  have HCC := Aside0.mk hc
  have HL := Aside0.mk hl
  obtain ⟨wA, hwA⟩ : ∃ wA, wA = w.alloc (.cells #[.int .i64 4, .string a, .string b, .string c, .string sep, .string ty, .slice A val.length cc, .int .i64 pl] 55) := ⟨_, rfl⟩
  have hbA : Below w.heap.size w wA := by rw [hwA]; exact below_alloc (Below.refl _ _) _
  have hxA : wA.heap[w.heap.size]? = some (.cells #[.int .i64 4, .string a, .string b, .string c, .string sep, .string ty, .slice A val.length cc, .int .i64 pl] 55 (0, 0)) := by rw [hwA]; exact blk_new _ _
  have HB0 := Aside0.mk hbA
  have HX0 := Aside0.mk hxA
  have HE := Aside0.mk hwA
  obtain ⟨y0, y1, y2, y3, y4, y5, y6, y7⟩ := box8 hxA
  clear HNV hC hc hl hwA hbA hxA zna znb znc
  go_enter Tryd.func74, Tryd.ntmps74
  go_wp2_with fail
  rw [← HE.out]
  refine (Hna.out wA).mono ?_
  rintro e w1 ⟨rfl, hb1⟩
  have HB1 := Aside0.mk (below_step HB0.out hb1)
  have HX1 := Aside0.mk (blk_below HX0.out hb1)
  clear hb1 y0 y1 y2 y3 y4 y5 y6 y7
  obtain ⟨y0, y1, y2, y3, y4, y5, y6, y7⟩ := box8 HX1.out
  cases na with
  | false =>
    go_wp2_with fail
    go_ret2
    exact ⟨by rw [rst_bad (by rw [HGD.out]; simp)]; rfl, HB1.out⟩
  | true =>
    go_wp2_with fail
    refine (Hnb.out w1).mono ?_
    rintro e w2 ⟨rfl, hb2⟩
    have HB2 := Aside0.mk (below_step HB1.out hb2)
    have HX2 := Aside0.mk (blk_below HX1.out hb2)
    clear hb2 y0 y1 y2 y3 y4 y5 y6 y7
    obtain ⟨y0, y1, y2, y3, y4, y5, y6, y7⟩ := box8 HX2.out
    cases nb with
    | false =>
      go_wp2_with fail
      go_ret2
      exact ⟨by rw [rst_bad (by rw [HGD.out]; simp)]; rfl, HB2.out⟩
    | true =>
      go_wp2_with fail
      refine (Hnc.out w2).mono ?_
      rintro e w3 ⟨rfl, hb3⟩
      have HB3 := Aside0.mk (below_step HB2.out hb3)
      have HX3 := Aside0.mk (blk_below HX2.out hb3)
      clear hb3 y0 y1 y2 y3 y4 y5 y6 y7
      obtain ⟨y0, y1, y2, y3, y4, y5, y6, y7⟩ := box8 HX3.out
      cases nc with
      | false =>
        go_wp2_with fail
        go_ret2
        exact ⟨by rw [rst_bad (by rw [HGD.out]; simp)]; rfl, HB3.out⟩
      | true =>
        cases et with
        | false =>
          go_wp2_with fail
          go_ret2
          exact ⟨by rw [rst_bad (by rw [HGD.out]; simp)]; rfl, HB3.out⟩
        | true =>
          have HLZ := Aside0.mk HZ3.out
          cases e3 with
          | true =>
            go_wp2_with fail
            go_ret2
            exact ⟨by rw [rst_nil (by rw [HGD.out]; rfl) (beq_iff_eq.1 HZ3.out)]; rfl, HB3.out⟩
          | false =>
            go_wp2_with fail
            go_ret2
            exact ⟨by rw [rst_bad (by rw [HGD.out]; simp)]; rfl, HB3.out⟩
set_option maxHeartbeats 8000000 in
set_option maxRecDepth 100000 in
theorem rstep5 (w : World) (a b c sep ty : ByteArray) (A : Option Addr) (cc : Nat) (pl : Int) (val : List Nd) (hC : Kd.C k46 w A val.length val) (hc : val.length ≤ cc) (hl : val.length ≤ 1099511627776) :
    Calls Tryd.prog 74 #[.agg #[.int .i64 5, .string a, .string b, .string c, .string sep, .string ty, .slice A val.length cc, .int .i64 pl]] w fun e w' => e = .returned (.tuple #[.bool (rst ⟨5, a, b, c, sep, ty, val, pl⟩).1, .int .i64 (rst ⟨5, a, b, c, sep, ty, val, pl⟩).2]) ∧ Below w.heap.size w w' := by
  obtain ⟨na, zna⟩ : ∃ na, nameB a = na := ⟨_, rfl⟩
  obtain ⟨eb, zeb⟩ : ∃ eb, (b.toList == []) = eb := ⟨_, rfl⟩
  obtain ⟨ec, zec⟩ : ∃ ec, (c.toList == []) = ec := ⟨_, rfl⟩
  obtain ⟨nty, znty⟩ : ∃ nty, nameB ty = nty := ⟨_, rfl⟩
  obtain ⟨es, zes⟩ : ∃ es, (sep.toList == []) = es := ⟨_, rfl⟩
  obtain ⟨e3, z3⟩ : ∃ e3, ((val.length : Int) == 0) = e3 := ⟨_, rfl⟩
  have z3' : (val.length == 0) = e3 := by rw [← z3, Bool.eq_iff_iff, beq_iff_eq, beq_iff_eq]; omega
  have HNV : noV ⟨5, a, b, c, sep, ty, val, pl⟩ = e3 := by rw [← z3', Bool.eq_iff_iff]; simp [noV]
  have HGD : Aside0 (goodB ⟨5, a, b, c, sep, ty, val, pl⟩ = (((na && (nty && true)) && (eb && (ec && (es && true)))) && e3)) := ⟨by unfold goodB; simp only [HNV]; subst zna zeb zec znty zes; rfl⟩
  have HZ3 := Aside0.mk z3'
  have Hna : Aside0 (∀ w, Calls Tryd.prog 73 #[.string a] w fun e w' => e = .returned (.bool na) ∧ Below w.heap.size w w') := ⟨fun w => by rw [← zna]; exact rname_calls a w⟩
  have Hnty : Aside0 (∀ w, Calls Tryd.prog 73 #[.string ty] w fun e w' => e = .returned (.bool nty) ∧ Below w.heap.size w w') := ⟨fun w => by rw [← znty]; exact rname_calls ty w⟩
  have HC := Aside0.mk hC
  have HCC := Aside0.mk hc
  have HL := Aside0.mk hl
  obtain ⟨wA, hwA⟩ : ∃ wA, wA = w.alloc (.cells #[.int .i64 5, .string a, .string b, .string c, .string sep, .string ty, .slice A val.length cc, .int .i64 pl] 55) := ⟨_, rfl⟩
  have hbA : Below w.heap.size w wA := by rw [hwA]; exact below_alloc (Below.refl _ _) _
  have hxA : wA.heap[w.heap.size]? = some (.cells #[.int .i64 5, .string a, .string b, .string c, .string sep, .string ty, .slice A val.length cc, .int .i64 pl] 55 (0, 0)) := by rw [hwA]; exact blk_new _ _
  have HB0 := Aside0.mk hbA
  have HX0 := Aside0.mk hxA
  have HE := Aside0.mk hwA
  obtain ⟨y0, y1, y2, y3, y4, y5, y6, y7⟩ := box8 hxA
  clear HNV hC hc hl hwA hbA hxA zna znty
  go_enter Tryd.func74, Tryd.ntmps74
  go_wp2_with fail
  rw [← HE.out]
  refine (Hna.out wA).mono ?_
  rintro e w1 ⟨rfl, hb1⟩
  have HB1 := Aside0.mk (below_step HB0.out hb1)
  have HX1 := Aside0.mk (blk_below HX0.out hb1)
  clear hb1 y0 y1 y2 y3 y4 y5 y6 y7
  obtain ⟨y0, y1, y2, y3, y4, y5, y6, y7⟩ := box8 HX1.out
  cases na with
  | false =>
    go_wp2_with fail
    go_ret2
    exact ⟨by rw [rst_bad (by rw [HGD.out]; simp)]; rfl, HB1.out⟩
  | true =>
    cases eb with
    | false =>
      go_wp2_with fail
      go_ret2
      exact ⟨by rw [rst_bad (by rw [HGD.out]; simp)]; rfl, HB1.out⟩
    | true =>
      cases ec with
      | false =>
        go_wp2_with fail
        go_ret2
        exact ⟨by rw [rst_bad (by rw [HGD.out]; simp)]; rfl, HB1.out⟩
      | true =>
        go_wp2_with fail
        refine (Hnty.out w1).mono ?_
        rintro e w2 ⟨rfl, hb2⟩
        have HB2 := Aside0.mk (below_step HB1.out hb2)
        have HX2 := Aside0.mk (blk_below HX1.out hb2)
        clear hb2 y0 y1 y2 y3 y4 y5 y6 y7
        obtain ⟨y0, y1, y2, y3, y4, y5, y6, y7⟩ := box8 HX2.out
        cases nty with
        | false =>
          go_wp2_with fail
          go_ret2
          exact ⟨by rw [rst_bad (by rw [HGD.out]; simp)]; rfl, HB2.out⟩
        | true =>
          cases es with
          | false =>
            go_wp2_with fail
            go_ret2
            exact ⟨by rw [rst_bad (by rw [HGD.out]; simp)]; rfl, HB2.out⟩
          | true =>
            have HLZ := Aside0.mk HZ3.out
            cases e3 with
            | true =>
              go_wp2_with fail
              go_ret2
              exact ⟨by rw [rst_nil (by rw [HGD.out]; rfl) (beq_iff_eq.1 HZ3.out)]; rfl, HB2.out⟩
            | false =>
              go_wp2_with fail
              go_ret2
              exact ⟨by rw [rst_bad (by rw [HGD.out]; simp)]; rfl, HB2.out⟩
set_option maxHeartbeats 8000000 in
set_option maxRecDepth 100000 in
theorem rstep6 (w : World) (a b c sep ty : ByteArray) (A : Option Addr) (cc : Nat) (pl : Int) (val : List Nd) (hC : Kd.C k46 w A val.length val) (hc : val.length ≤ cc) (hl : val.length ≤ 1099511627776) :
    Calls Tryd.prog 74 #[.agg #[.int .i64 6, .string a, .string b, .string c, .string sep, .string ty, .slice A val.length cc, .int .i64 pl]] w fun e w' => e = .returned (.tuple #[.bool (rst ⟨6, a, b, c, sep, ty, val, pl⟩).1, .int .i64 (rst ⟨6, a, b, c, sep, ty, val, pl⟩).2]) ∧ Below w.heap.size w w' := by
  obtain ⟨na, zna⟩ : ∃ na, nameB a = na := ⟨_, rfl⟩
  obtain ⟨eb, zeb⟩ : ∃ eb, (b.toList == []) = eb := ⟨_, rfl⟩
  obtain ⟨ec, zec⟩ : ∃ ec, (c.toList == []) = ec := ⟨_, rfl⟩
  obtain ⟨et, zet⟩ : ∃ et, (ty.toList == []) = et := ⟨_, rfl⟩
  obtain ⟨es, zes⟩ : ∃ es, (sep.toList == []) = es := ⟨_, rfl⟩
  obtain ⟨e3, z3⟩ : ∃ e3, ((val.length : Int) == 0) = e3 := ⟨_, rfl⟩
  have z3' : (val.length == 0) = e3 := by rw [← z3, Bool.eq_iff_iff, beq_iff_eq, beq_iff_eq]; omega
  have HNV : noV ⟨6, a, b, c, sep, ty, val, pl⟩ = e3 := by rw [← z3', Bool.eq_iff_iff]; simp [noV]
  have HGD : Aside0 (goodB ⟨6, a, b, c, sep, ty, val, pl⟩ = (((na && true) && (eb && (ec && true))) && ((es && et) && e3))) := ⟨by unfold goodB; simp only [HNV]; subst zna zeb zec zet zes; rfl⟩
  have HZ3 := Aside0.mk z3'
  have Hna : Aside0 (∀ w, Calls Tryd.prog 73 #[.string a] w fun e w' => e = .returned (.bool na) ∧ Below w.heap.size w w') := ⟨fun w => by rw [← zna]; exact rname_calls a w⟩
  have HC := Aside0.mk hC
  have HCC := Aside0.mk hc
  have HL := Aside0.mk hl
  obtain ⟨wA, hwA⟩ : ∃ wA, wA = w.alloc (.cells #[.int .i64 6, .string a, .string b, .string c, .string sep, .string ty, .slice A val.length cc, .int .i64 pl] 55) := ⟨_, rfl⟩
  have hbA : Below w.heap.size w wA := by rw [hwA]; exact below_alloc (Below.refl _ _) _
  have hxA : wA.heap[w.heap.size]? = some (.cells #[.int .i64 6, .string a, .string b, .string c, .string sep, .string ty, .slice A val.length cc, .int .i64 pl] 55 (0, 0)) := by rw [hwA]; exact blk_new _ _
  have HB0 := Aside0.mk hbA
  have HX0 := Aside0.mk hxA
  have HE := Aside0.mk hwA
  obtain ⟨y0, y1, y2, y3, y4, y5, y6, y7⟩ := box8 hxA
  clear HNV hC hc hl hwA hbA hxA zna
  go_enter Tryd.func74, Tryd.ntmps74
  go_wp2_with fail
  rw [← HE.out]
  refine (Hna.out wA).mono ?_
  rintro e w1 ⟨rfl, hb1⟩
  have HB1 := Aside0.mk (below_step HB0.out hb1)
  have HX1 := Aside0.mk (blk_below HX0.out hb1)
  clear hb1 y0 y1 y2 y3 y4 y5 y6 y7
  obtain ⟨y0, y1, y2, y3, y4, y5, y6, y7⟩ := box8 HX1.out
  cases na with
  | false =>
    go_wp2_with fail
    go_ret2
    exact ⟨by rw [rst_bad (by rw [HGD.out]; simp)]; rfl, HB1.out⟩
  | true =>
    cases eb with
    | false =>
      go_wp2_with fail
      go_ret2
      exact ⟨by rw [rst_bad (by rw [HGD.out]; simp)]; rfl, HB1.out⟩
    | true =>
      cases ec with
      | false =>
        go_wp2_with fail
        go_ret2
        exact ⟨by rw [rst_bad (by rw [HGD.out]; simp)]; rfl, HB1.out⟩
      | true =>
        cases et with
        | false =>
          go_wp2_with fail
          go_ret2
          exact ⟨by rw [rst_bad (by rw [HGD.out]; simp)]; rfl, HB1.out⟩
        | true =>
          cases es with
          | false =>
            go_wp2_with fail
            go_ret2
            exact ⟨by rw [rst_bad (by rw [HGD.out]; simp)]; rfl, HB1.out⟩
          | true =>
            have HLZ := Aside0.mk HZ3.out
            cases e3 with
            | true =>
              go_wp2_with fail
              go_ret2
              exact ⟨by rw [rst_nil (by rw [HGD.out]; rfl) (beq_iff_eq.1 HZ3.out)]; rfl, HB1.out⟩
            | false =>
              go_wp2_with fail
              go_ret2
              exact ⟨by rw [rst_bad (by rw [HGD.out]; simp)]; rfl, HB1.out⟩
set_option maxHeartbeats 8000000 in
set_option maxRecDepth 100000 in
theorem rstep0 (w : World) (k : Int) (a b c sep ty : ByteArray) (A : Option Addr) (cc : Nat) (pl : Int) (val : List Nd) (hk : k ≠ 1 ∧ k ≠ 2 ∧ k ≠ 3 ∧ k ≠ 4 ∧ k ≠ 5 ∧ k ≠ 6) :
    Calls Tryd.prog 74 #[.agg #[.int .i64 k, .string a, .string b, .string c, .string sep, .string ty, .slice A val.length cc, .int .i64 pl]] w fun e w' => e = .returned (.tuple #[.bool (rst ⟨k, a, b, c, sep, ty, val, pl⟩).1, .int .i64 (rst ⟨k, a, b, c, sep, ty, val, pl⟩).2]) ∧ Below w.heap.size w w' := by
  have HGD : Aside0 (goodB ⟨k, a, b, c, sep, ty, val, pl⟩ = false) := ⟨by unfold goodB; simp [hk.1, hk.2.1, hk.2.2.1, hk.2.2.2.1, hk.2.2.2.2.1, hk.2.2.2.2.2]⟩
  obtain ⟨h1, h2, h3, h4, h5, h6⟩ := hk
  have hb := Aside0.mk (below_alloc (Below.refl w.heap.size w) (.cells #[.int .i64 k, .string a, .string b, .string c, .string sep, .string ty, .slice A val.length cc, .int .i64 pl] 55))
  have c1 : (k == 1) = false := beq_eq_false_iff_ne.2 h1
  have c2 : (k == 2) = false := beq_eq_false_iff_ne.2 h2
  have c3 : (k == 3) = false := beq_eq_false_iff_ne.2 h3
  have c4 : (k == 4) = false := beq_eq_false_iff_ne.2 h4
  have c5 : (k == 5) = false := beq_eq_false_iff_ne.2 h5
  have c6 : (k == 6) = false := beq_eq_false_iff_ne.2 h6
  go_enter Tryd.func74, Tryd.ntmps74
  go_wp2_with fail
  go_ret2
  exact ⟨by rw [rst_bad HGD.out]; rfl, hb.out⟩
theorem rstep_calls (w : World) (d : StD) (A : Option Addr) (cc : Nat) (hC : Kd.C k46 w A d.val.length d.val) (hc : d.val.length ≤ cc) (hl : d.val.length ≤ 1099511627776) :
    Calls Tryd.prog 74 #[.agg #[.int .i64 d.k, .string d.a, .string d.b, .string d.c, .string d.sep, .string d.ty, .slice A d.val.length cc, .int .i64 d.pl]] w fun e w' => e = .returned (.tuple #[.bool (rst d).1, .int .i64 (rst d).2]) ∧ Below w.heap.size w w' := by
  obtain ⟨k, a, b, c, sep, ty, val, pl⟩ := d
  by_cases h1 : k = 1
  · subst h1; exact rstep1 w a b c sep ty A cc pl val hC hc hl
  by_cases h2 : k = 2
  · subst h2; exact rstep2 w a b c sep ty A cc pl val hC hc hl
  by_cases h3 : k = 3
  · subst h3; exact rstep3 w a b c sep ty A cc pl val hC hc hl
  by_cases h4 : k = 4
  · subst h4; exact rstep4 w a b c sep ty A cc pl val hC hc hl
  by_cases h5 : k = 5
  · subst h5; exact rstep5 w a b c sep ty A cc pl val hC hc hl
  by_cases h6 : k = 6
  · subst h6; exact rstep6 w a b c sep ty A cc pl val hC hc hl
  exact rstep0 w k a b c sep ty A cc pl val ⟨h1, h2, h3, h4, h5, h6⟩
end Go.Proofs.YtaijoghpfobdbaaDoor.W
end
section
set_option linter.unusedVariables false
set_option linter.unusedSimpArgs false
namespace Go.Proofs.YtaijoghpfobdbaaDoor.W
open Go.RowKit Go.Proofs.YtaijoghpfobdbaaDoor.X Go.Proofs.YtaijoghpfobdbaaDoorW.PrintWords Go.Proofs.YtaijoghpfobdbaaDoorW.PrintLast Go.Proofs.YtaijoghpfobdbaaDoorW.PrintMore
open Go.Proofs.YtaijoghpfobdbaaDoor.P (Tr Nd Wrote put fin build tx StD goodB nameB noV lineT stT txV)
theorem rquote_calls (s : ByteArray) (hs : s.size ≤ 1048576) (w : World) : Calls Tryd.prog 75 #[.string s] w fun e w' => e = .returned (.string (T.ba (L.Quote s.data.toList))) ∧ Below w.heap.size w w' := by
  obtain ⟨k, hk⟩ := (T.rquote_ev s (by omega)).rounds
  exact stratumref10_Quote.calls k _ _ w hk
theorem rquote_size (s : ByteArray) (hs : s.size ≤ 1048576) : (T.ba (L.Quote s.data.toList)).size ≤ 4194306 := by
  rw [T.ba_size]
  have := (P.quote_len s.data.toList).2
  rw [data_length] at this
  omega
theorem app_l (a b : ByteArray) : (a ++ b).data.toList = a.data.toList ++ b.data.toList := by simp
structure Sz (a b c sep ty : ByteArray) : Prop where
  a : a.size ≤ 1048576
  b : b.size ≤ 1048576
  c : c.size ≤ 1048576
  sep : sep.size ≤ 1048576
  ty : ty.size ≤ 1048576
set_option maxHeartbeats 8000000 in
set_option maxRecDepth 100000 in
theorem rline1 {B b : Nat} {bs : List UInt8} (w : World) (sa sb sc sep ty : ByteArray) (A : Option Addr) (cc : Nat) (pl : Int) (val : List Nd) (hR : Ro w B b bs) (hs : Sz sa sb sc sep ty) (hC : RdN B w A val) (hl : val.length ≤ 1099511627776) (hr : Rng val) (hns : ∀ n ∈ val, n.f3.size ≤ 1048576) (hbt : val.length ≠ 0 → ∃ t, build val [] = some [t]) :
    Calls Tryd.prog 44 #[.pointer (some ⟨b, 0, none⟩), .agg #[.int .i64 1, .string sa, .string sb, .string sc, .string sep, .string ty, .slice A val.length cc, .int .i64 pl]] w fun e w' => e = .returned (.tuple #[]) ∧ ∃ r, Ro w' B b r ∧ Wrote bs (stT ⟨1, sa, sb, sc, sep, ty, val, pl⟩) r ∧ Fw B b w w' := by
  obtain ⟨wA, hwA⟩ : ∃ wA, wA = w.alloc (.cells #[.int .i64 1, .string sa, .string sb, .string sc, .string sep, .string ty, .slice A val.length cc, .int .i64 pl] 55) := ⟨_, rfl⟩
  have hbA : Below w.heap.size w wA := by rw [hwA]; exact below_alloc (Below.refl _ _) _
  obtain ⟨g, hg⟩ : ∃ g, g = w.heap.size := ⟨_, rfl⟩
  have HXA := Aside0.mk (show wA.heap[g]? = some (.cells #[.int .i64 1, .string sa, .string sb, .string sc, .string sep, .string ty, .slice A val.length cc, .int .i64 pl] 55 (0, 0)) by rw [hwA, hg]; exact blk_new _ _)
  have HR0 := Aside0.mk (hR.below hbA)
  have HF0 := Aside0.mk (Fw.of_below (b := b) hbA hR.base)
  have HBS := Aside0.mk hR.base
  have HE := Aside0.mk hwA
  have HS := Aside0.mk hs
  have HG := Aside0.mk hg
  have HC := Aside0.mk (hC.step (Below.lowr hbA hR.base))
  have HL := Aside0.mk hl
  have HRg := Aside0.mk hr
  have HN := Aside0.mk hns
  have HBT := Aside0.mk hbt
  have HMX := Aside0.mk (hC.out _ (Below.refl _ _)).2.1
  clear hC hl hr hns hbt
  clear hR hs hwA hbA
  have n1 : ¬9223372036854775807 < 4 + sa.size := by have := HS.out.a; have := HS.out.b; have := HS.out.c; have := HS.out.ty; omega
  have n2 : ¬9223372036854775807 < 4 + sa.size + 2 := by have := HS.out.a; have := HS.out.b; have := HS.out.c; have := HS.out.ty; omega
  have n3 : ¬9223372036854775807 < 4 + sa.size + 2 + ty.size := by have := HS.out.a; have := HS.out.b; have := HS.out.c; have := HS.out.ty; omega
  have HMZ : Aside0 (((((⟨#[97, 100, 100, 32]⟩ : ByteArray) ++ sa) ++ (⟨#[58, 32]⟩ : ByteArray)) ++ ty).size ≤ 8388608) := ⟨by simp only [ByteArray.size_append]; have := HS.out.a; have := HS.out.b; have := HS.out.c; have := HS.out.ty; show _ ≤ _; rw [show (⟨#[97, 100, 100, 32]⟩ : ByteArray).size = 4 from rfl]; rw [show (⟨#[58, 32]⟩ : ByteArray).size = 2 from rfl]; omega⟩
  go_enter Tryd.func44, Tryd.ntmps44
  go_wp2_with fail
  rw [← HE.out, ← hg]
  clear hg
  refine (put_calls wA ⟨#[32, 32, 32, 32]⟩ HR0.out (by decide)).mono ?_
  rintro e w1 ⟨rfl, hr1, hf1⟩
  have HX1 := Aside0.mk (hf1.other HXA.out (by decide) (HR0.out.blkne HXA.out (by decide)))
  have HR1 := Aside0.mk hr1
  have HF1 := Aside0.mk (HF0.out.trans hf1)
  have HD1 := Aside0.mk hf1
  clear hr1 hf1
  obtain ⟨y0, y1, y2, y3, y4, y5, y6, y7⟩ := box8 HX1.out
  go_wp2_with fail
  refine (put_calls w1 ((((⟨#[97, 100, 100, 32]⟩ : ByteArray) ++ sa) ++ (⟨#[58, 32]⟩ : ByteArray)) ++ ty) HR1.out HMZ.out).mono ?_
  rintro e w2 ⟨rfl, hr2, hf2⟩
  have HX2 := Aside0.mk (hf2.other HX1.out (by decide) (HR1.out.blkne HX1.out (by decide)))
  have HR2 := Aside0.mk hr2
  have HF2 := Aside0.mk (HF1.out.trans hf2)
  have HD2 := Aside0.mk hf2
  clear hr2 hf2
  obtain ⟨y0, y1, y2, y3, y4, y5, y6, y7⟩ := box8 HX2.out
  by_cases hz : val.length = 0
  · have z0 : ¬ ((0 : Int) < (val.length : Int)) := by omega
    have z1 : decide ((val.length : Int) > 0) = false := decide_eq_false (by omega)
    have z2 : decide (0 < val.length) = false := decide_eq_false (by omega)
    have HZ := Aside0.mk hz
    clear hz
    go_wp2_with fail
    refine (put_calls w2 ⟨#[59, 10]⟩ HR2.out (by decide)).mono ?_
    rintro e w3 ⟨rfl, hr3, hf3⟩
    have HX3 := Aside0.mk (hf3.other HX2.out (by decide) (HR2.out.blkne HX2.out (by decide)))
    have HR3 := Aside0.mk hr3
    have HF3 := Aside0.mk (HF2.out.trans hf3)
    have HD3 := Aside0.mk hf3
    clear hr3 hf3
    obtain ⟨y0, y1, y2, y3, y4, y5, y6, y7⟩ := box8 HX3.out
    go_wp2_with fail
    go_end0
    refine ⟨rfl, _, HR3.out, ?_, HF3.out⟩
    have h := (((Wrote.put bs [32, 32, 32, 32]).trans (Wrote.put _ ((((⟨#[97, 100, 100, 32]⟩ : ByteArray) ++ sa) ++ (⟨#[58, 32]⟩ : ByteArray)) ++ ty).data.toList)).trans (Wrote.put _ [59, 10]))
    have e : stT ⟨1, sa, sb, sc, sep, ty, val, pl⟩ = ([32, 32, 32, 32] ++ ((((⟨#[97, 100, 100, 32]⟩ : ByteArray) ++ sa) ++ (⟨#[58, 32]⟩ : ByteArray)) ++ ty).data.toList) ++ [59, 10] := by unfold stT lineT; rw [if_pos rfl, if_pos HZ.out]; simp [app_l]
    rw [e]
    exact h
  · have z0 : (0 : Int) < (val.length : Int) := by omega
    have z1 : decide ((val.length : Int) > 0) = true := decide_eq_true (by omega)
    have z2 : decide (0 < val.length) = true := decide_eq_true (by omega)
    obtain ⟨t, ht⟩ := HBT.out hz
    have HBD := Aside0.mk ht
    have HZ := Aside0.mk hz
    clear hz ht
    go_wp2_with fail
    refine (put_calls w2 ⟨#[32, 61, 32]⟩ HR2.out (by decide)).mono ?_
    rintro e w3 ⟨rfl, hr3, hf3⟩
    have HX3 := Aside0.mk (hf3.other HX2.out (by decide) (HR2.out.blkne HX2.out (by decide)))
    have HR3 := Aside0.mk hr3
    have HF3 := Aside0.mk (HF2.out.trans hf3)
    have HD3 := Aside0.mk hf3
    clear hr3 hf3
    obtain ⟨y0, y1, y2, y3, y4, y5, y6, y7⟩ := box8 HX3.out
    go_wp2_with fail
    refine (rwrite_calls w3 A cc val t HR3.out (HC.out.step (HD1.out.below.trans (HD2.out.below.trans HD3.out.below))) HL.out HRg.out HN.out HBD.out).mono ?_
    rintro e w4 ⟨rfl, r4, hr4, hwr4, hf4⟩
    have HR4 := Aside0.mk hr4
    have HW4 := Aside0.mk hwr4
    have HF4 := Aside0.mk (HF3.out.trans hf4)
    have HX4 := Aside0.mk (hf4.other HX3.out (by decide) (HR3.out.blkne HX3.out (by decide)))
    clear hr4 hwr4 hf4
    go_wp2_with fail
    refine (put_calls w4 ⟨#[59, 10]⟩ HR4.out (by decide)).mono ?_
    rintro e w5 ⟨rfl, hr5, hf5⟩
    have HX5 := Aside0.mk (hf5.other HX4.out (by decide) (HR4.out.blkne HX4.out (by decide)))
    have HR5 := Aside0.mk hr5
    have HF5 := Aside0.mk (HF4.out.trans hf5)
    have HD5 := Aside0.mk hf5
    clear hr5 hf5
    obtain ⟨y0, y1, y2, y3, y4, y5, y6, y7⟩ := box8 HX5.out
    go_wp2_with fail
    go_end0
    refine ⟨rfl, _, HR5.out, ?_, HF5.out⟩
    have h := ((((Wrote.put bs [32, 32, 32, 32]).trans (Wrote.put _ ((((⟨#[97, 100, 100, 32]⟩ : ByteArray) ++ sa) ++ (⟨#[58, 32]⟩ : ByteArray)) ++ ty).data.toList)).trans (Wrote.put _ [32, 61, 32])).trans HW4.out).trans (Wrote.put _ [59, 10])
    have e : stT ⟨1, sa, sb, sc, sep, ty, val, pl⟩ = ([32, 32, 32, 32] ++ ((((⟨#[97, 100, 100, 32]⟩ : ByteArray) ++ sa) ++ (⟨#[58, 32]⟩ : ByteArray)) ++ ty).data.toList) ++ [32, 61, 32] ++ tx t ++ [59, 10] := by unfold stT lineT; rw [if_pos rfl, if_neg HZ.out, txV_of HBD.out]; simp [app_l]
    rw [e]
    exact h
set_option maxHeartbeats 8000000 in
set_option maxRecDepth 100000 in
theorem rline2 {B b : Nat} {bs : List UInt8} (w : World) (sa sb sc sep ty : ByteArray) (A : Option Addr) (cc : Nat) (pl : Int) (val : List Nd) (hR : Ro w B b bs) (hs : Sz sa sb sc sep ty) :
    Calls Tryd.prog 44 #[.pointer (some ⟨b, 0, none⟩), .agg #[.int .i64 2, .string sa, .string sb, .string sc, .string sep, .string ty, .slice A val.length cc, .int .i64 pl]] w fun e w' => e = .returned (.tuple #[]) ∧ ∃ r, Ro w' B b r ∧ Wrote bs (stT ⟨2, sa, sb, sc, sep, ty, val, pl⟩) r ∧ Fw B b w w' := by
  obtain ⟨wA, hwA⟩ : ∃ wA, wA = w.alloc (.cells #[.int .i64 2, .string sa, .string sb, .string sc, .string sep, .string ty, .slice A val.length cc, .int .i64 pl] 55) := ⟨_, rfl⟩
  have hbA : Below w.heap.size w wA := by rw [hwA]; exact below_alloc (Below.refl _ _) _
  obtain ⟨g, hg⟩ : ∃ g, g = w.heap.size := ⟨_, rfl⟩
  have HXA := Aside0.mk (show wA.heap[g]? = some (.cells #[.int .i64 2, .string sa, .string sb, .string sc, .string sep, .string ty, .slice A val.length cc, .int .i64 pl] 55 (0, 0)) by rw [hwA, hg]; exact blk_new _ _)
  have HR0 := Aside0.mk (hR.below hbA)
  have HF0 := Aside0.mk (Fw.of_below (b := b) hbA hR.base)
  have HBS := Aside0.mk hR.base
  have HE := Aside0.mk hwA
  have HS := Aside0.mk hs
  have HG := Aside0.mk hg
  clear hR hs hwA hbA
  have n1 : ¬9223372036854775807 < 7 + sa.size := by have := HS.out.a; have := HS.out.b; have := HS.out.c; have := HS.out.ty; omega
  have n2 : ¬9223372036854775807 < 7 + sa.size + 4 := by have := HS.out.a; have := HS.out.b; have := HS.out.c; have := HS.out.ty; omega
  have n3 : ¬9223372036854775807 < 7 + sa.size + 4 + sb.size := by have := HS.out.a; have := HS.out.b; have := HS.out.c; have := HS.out.ty; omega
  have HMZ : Aside0 (((((⟨#[114, 101, 110, 97, 109, 101, 32]⟩ : ByteArray) ++ sa) ++ (⟨#[32, 116, 111, 32]⟩ : ByteArray)) ++ sb).size ≤ 8388608) := ⟨by simp only [ByteArray.size_append]; have := HS.out.a; have := HS.out.b; have := HS.out.c; have := HS.out.ty; show _ ≤ _; rw [show (⟨#[114, 101, 110, 97, 109, 101, 32]⟩ : ByteArray).size = 7 from rfl]; rw [show (⟨#[32, 116, 111, 32]⟩ : ByteArray).size = 4 from rfl]; omega⟩
  go_enter Tryd.func44, Tryd.ntmps44
  go_wp2_with fail
  rw [← HE.out, ← hg]
  clear hg
  refine (put_calls wA ⟨#[32, 32, 32, 32]⟩ HR0.out (by decide)).mono ?_
  rintro e w1 ⟨rfl, hr1, hf1⟩
  have HX1 := Aside0.mk (hf1.other HXA.out (by decide) (HR0.out.blkne HXA.out (by decide)))
  have HR1 := Aside0.mk hr1
  have HF1 := Aside0.mk (HF0.out.trans hf1)
  clear hr1 hf1
  obtain ⟨y0, y1, y2, y3, y4, y5, y6, y7⟩ := box8 HX1.out
  go_wp2_with fail
  refine (put_calls w1 ((((⟨#[114, 101, 110, 97, 109, 101, 32]⟩ : ByteArray) ++ sa) ++ (⟨#[32, 116, 111, 32]⟩ : ByteArray)) ++ sb) HR1.out HMZ.out).mono ?_
  rintro e w2 ⟨rfl, hr2, hf2⟩
  have HX2 := Aside0.mk (hf2.other HX1.out (by decide) (HR1.out.blkne HX1.out (by decide)))
  have HR2 := Aside0.mk hr2
  have HF2 := Aside0.mk (HF1.out.trans hf2)
  clear hr2 hf2
  obtain ⟨y0, y1, y2, y3, y4, y5, y6, y7⟩ := box8 HX2.out
  go_wp2_with fail
  refine (put_calls w2 ⟨#[59, 10]⟩ HR2.out (by decide)).mono ?_
  rintro e w3 ⟨rfl, hr3, hf3⟩
  have HX3 := Aside0.mk (hf3.other HX2.out (by decide) (HR2.out.blkne HX2.out (by decide)))
  have HR3 := Aside0.mk hr3
  have HF3 := Aside0.mk (HF2.out.trans hf3)
  clear hr3 hf3
  obtain ⟨y0, y1, y2, y3, y4, y5, y6, y7⟩ := box8 HX3.out
  go_wp2_with fail
  go_end0
  refine ⟨rfl, _, HR3.out, ?_, HF3.out⟩
  have h := (((Wrote.put bs [32, 32, 32, 32]).trans (Wrote.put _ ((((⟨#[114, 101, 110, 97, 109, 101, 32]⟩ : ByteArray) ++ sa) ++ (⟨#[32, 116, 111, 32]⟩ : ByteArray)) ++ sb).data.toList)).trans (Wrote.put _ [59, 10]))
  have e : stT ⟨2, sa, sb, sc, sep, ty, val, pl⟩ = ([32, 32, 32, 32] ++ ((((⟨#[114, 101, 110, 97, 109, 101, 32]⟩ : ByteArray) ++ sa) ++ (⟨#[32, 116, 111, 32]⟩ : ByteArray)) ++ sb).data.toList) ++ [59, 10] := by unfold stT lineT; rw [if_neg (show ¬ (2 : Int) = 1 by decide), if_pos rfl]; simp [app_l]
  rw [e]
  exact h
set_option maxHeartbeats 8000000 in
set_option maxRecDepth 100000 in
theorem rline3 {B b : Nat} {bs : List UInt8} (w : World) (sa sb sc sep ty : ByteArray) (A : Option Addr) (cc : Nat) (pl : Int) (val : List Nd) (hR : Ro w B b bs) (hs : Sz sa sb sc sep ty) :
    Calls Tryd.prog 44 #[.pointer (some ⟨b, 0, none⟩), .agg #[.int .i64 3, .string sa, .string sb, .string sc, .string sep, .string ty, .slice A val.length cc, .int .i64 pl]] w fun e w' => e = .returned (.tuple #[]) ∧ ∃ r, Ro w' B b r ∧ Wrote bs (stT ⟨3, sa, sb, sc, sep, ty, val, pl⟩) r ∧ Fw B b w w' := by
  obtain ⟨wA, hwA⟩ : ∃ wA, wA = w.alloc (.cells #[.int .i64 3, .string sa, .string sb, .string sc, .string sep, .string ty, .slice A val.length cc, .int .i64 pl] 55) := ⟨_, rfl⟩
  have hbA : Below w.heap.size w wA := by rw [hwA]; exact below_alloc (Below.refl _ _) _
  obtain ⟨g, hg⟩ : ∃ g, g = w.heap.size := ⟨_, rfl⟩
  have HXA := Aside0.mk (show wA.heap[g]? = some (.cells #[.int .i64 3, .string sa, .string sb, .string sc, .string sep, .string ty, .slice A val.length cc, .int .i64 pl] 55 (0, 0)) by rw [hwA, hg]; exact blk_new _ _)
  have HR0 := Aside0.mk (hR.below hbA)
  have HF0 := Aside0.mk (Fw.of_below (b := b) hbA hR.base)
  have HBS := Aside0.mk hR.base
  have HE := Aside0.mk hwA
  have HS := Aside0.mk hs
  have HG := Aside0.mk hg
  clear hR hs hwA hbA
  obtain ⟨q, hq⟩ : ∃ q, q = T.ba (L.Quote sep.data.toList) := ⟨_, rfl⟩
  have HQ : Aside0 (∀ w, Calls Tryd.prog 75 #[.string sep] w fun e w' => e = .returned (.string q) ∧ Below w.heap.size w w') := ⟨fun w => by rw [hq]; exact rquote_calls sep HS.out.sep w⟩
  have HQS : Aside0 (q.size ≤ 4194306) := ⟨by rw [hq]; exact rquote_size sep HS.out.sep⟩
  have HQE := Aside0.mk hq
  clear hq
  have n1 : ¬9223372036854775807 < 6 + sa.size := by have := HS.out.a; have := HS.out.b; have := HS.out.c; have := HS.out.ty; have := HQS.out; omega
  have n2 : ¬9223372036854775807 < 6 + sa.size + 4 := by have := HS.out.a; have := HS.out.b; have := HS.out.c; have := HS.out.ty; have := HQS.out; omega
  have n3 : ¬9223372036854775807 < 6 + sa.size + 4 + q.size := by have := HS.out.a; have := HS.out.b; have := HS.out.c; have := HS.out.ty; have := HQS.out; omega
  have n4 : ¬9223372036854775807 < 6 + sa.size + 4 + q.size + 6 := by have := HS.out.a; have := HS.out.b; have := HS.out.c; have := HS.out.ty; have := HQS.out; omega
  have n5 : ¬9223372036854775807 < 6 + sa.size + 4 + q.size + 6 + sb.size := by have := HS.out.a; have := HS.out.b; have := HS.out.c; have := HS.out.ty; have := HQS.out; omega
  have n6 : ¬9223372036854775807 < 6 + sa.size + 4 + q.size + 6 + sb.size + 2 := by have := HS.out.a; have := HS.out.b; have := HS.out.c; have := HS.out.ty; have := HQS.out; omega
  have n7 : ¬9223372036854775807 < 6 + sa.size + 4 + q.size + 6 + sb.size + 2 + sc.size := by have := HS.out.a; have := HS.out.b; have := HS.out.c; have := HS.out.ty; have := HQS.out; omega
  have HMZ : Aside0 (((((((((⟨#[115, 112, 108, 105, 116, 32]⟩ : ByteArray) ++ sa) ++ (⟨#[32, 97, 116, 32]⟩ : ByteArray)) ++ q) ++ (⟨#[32, 105, 110, 116, 111, 32]⟩ : ByteArray)) ++ sb) ++ (⟨#[44, 32]⟩ : ByteArray)) ++ sc).size ≤ 8388608) := ⟨by simp only [ByteArray.size_append]; have := HS.out.a; have := HS.out.b; have := HS.out.c; have := HS.out.ty; have := HQS.out; show _ ≤ _; rw [show (⟨#[115, 112, 108, 105, 116, 32]⟩ : ByteArray).size = 6 from rfl]; rw [show (⟨#[32, 97, 116, 32]⟩ : ByteArray).size = 4 from rfl]; rw [show (⟨#[32, 105, 110, 116, 111, 32]⟩ : ByteArray).size = 6 from rfl]; rw [show (⟨#[44, 32]⟩ : ByteArray).size = 2 from rfl]; omega⟩
  go_enter Tryd.func44, Tryd.ntmps44
  go_wp2_with fail
  rw [← HE.out, ← hg]
  clear hg
  refine (put_calls wA ⟨#[32, 32, 32, 32]⟩ HR0.out (by decide)).mono ?_
  rintro e w1 ⟨rfl, hr1, hf1⟩
  have HX1 := Aside0.mk (hf1.other HXA.out (by decide) (HR0.out.blkne HXA.out (by decide)))
  have HR1 := Aside0.mk hr1
  have HF1 := Aside0.mk (HF0.out.trans hf1)
  clear hr1 hf1
  obtain ⟨y0, y1, y2, y3, y4, y5, y6, y7⟩ := box8 HX1.out
  clear y0 y1 y2 y3 y4 y5 y6 y7
  have y0 := (blk_cell HX1.out 0).trans rfl
  go_wp2
  clear y0
  refine start_ (n := 18) (S := (fun w' : World => w'.heap[g]? = some (.cells #[.int .i64 3, .string sa, .string sb, .string sc, .string sep, .string ty, .slice A val.length cc, .int .i64 pl] 55 (0, 0)))) (ds := [17]) #[false, false, false, false, false, false, false, false, false, false, false, false, false, false, false, false, false, false] (by kernel_rfl) rfl rfl (show w1.drew.heap[g]? = _ from HX1.out) (fun hHeld => ?_)
  refine pure_ (i := 0) (N := some 42) (v := ?_) (a' := ?_) #[true, false, false, false, false, false, false, false, false, false, false, false, false, false, false, false, false, false] rfl rfl (by kernel_rfl) (fun _ _ _ h => h) (Or.inl ⟨by rfl, ?_⟩) ?_ ?_
  rotate_left
  · intro w'
    go_simp
    with_reducible rfl
  rotate_left
  · simp only [Act.put, List.setIfInBounds_toArray, List.set_cons_zero, List.set_cons_succ, i64_w, i32_w]
    rfl
  refine pure_ (i := 1) (N := some 43) (v := ?_) (a' := ?_) #[true, true, false, false, false, false, false, false, false, false, false, false, false, false, false, false, false, false] rfl rfl (by kernel_rfl) (fun _ _ _ h => h) (Or.inl ⟨by rfl, ?_⟩) ?_ ?_
  rotate_left
  · intro w'
    go_simp
    with_reducible rfl
  rotate_left
  · simp only [Act.put, List.setIfInBounds_toArray, List.set_cons_zero, List.set_cons_succ, i64_w, i32_w]
    rfl
  refine take_ (i := 2) (N := some 44) (v := ?_) (a' := ?_) #[true, true, true, false, false, false, false, false, false, false, false, false, false, false, false, false, false, false] rfl rfl (by kernel_rfl) (fun _ _ _ h => h) (Or.inl ⟨by rfl, ?_⟩) hHeld ?_ ?_
  rotate_left
  · intro w' hS'
    obtain ⟨y0, y1, y2, y3, y4, y5, y6, y7⟩ := box8 hS'
    clear hS'
    go_simp
    with_reducible rfl
  rotate_left
  · simp only [Act.put, List.setIfInBounds_toArray, List.set_cons_zero, List.set_cons_succ, i64_w, i32_w]
    rfl
  refine pure_ (i := 3) (N := some 45) (v := ?_) (a' := ?_) #[true, true, true, true, false, false, false, false, false, false, false, false, false, false, false, false, false, false] rfl rfl (by kernel_rfl) (fun _ _ _ h => h) (Or.inl ⟨by rfl, ?_⟩) ?_ ?_
  rotate_left
  · intro w'
    go_simp
    with_reducible rfl
  rotate_left
  · simp only [Act.put, List.setIfInBounds_toArray, List.set_cons_zero, List.set_cons_succ, i64_w, i32_w]
    rfl
  refine pure_ (i := 4) (N := some 46) (v := ?_) (a' := ?_) #[true, true, true, true, true, false, false, false, false, false, false, false, false, false, false, false, false, false] rfl rfl (by kernel_rfl) (fun _ _ _ h => h) (Or.inl ⟨by rfl, ?_⟩) ?_ ?_
  rotate_left
  · intro w'
    go_simp
    with_reducible rfl
  rotate_left
  · simp only [Act.put, List.setIfInBounds_toArray, List.set_cons_zero, List.set_cons_succ, i64_w, i32_w]
    rfl
  refine pure_ (i := 5) (N := some 47) (v := ?_) (a' := ?_) #[true, true, true, true, true, true, false, false, false, false, false, false, false, false, false, false, false, false] rfl rfl (by kernel_rfl) (fun _ _ _ h => h) (Or.inl ⟨by rfl, ?_⟩) ?_ ?_
  rotate_left
  · intro w'
    go_simp
    with_reducible rfl
  rotate_left
  · simp only [Act.put, List.setIfInBounds_toArray, List.set_cons_zero, List.set_cons_succ, i64_w, i32_w]
    rfl
  refine take_ (i := 6) (N := some 48) (v := ?_) (a' := ?_) #[true, true, true, true, true, true, true, false, false, false, false, false, false, false, false, false, false, false] rfl rfl (by kernel_rfl) (fun _ _ _ h => h) (Or.inl ⟨by rfl, ?_⟩) hHeld ?_ ?_
  rotate_left
  · intro w' hS'
    obtain ⟨y0, y1, y2, y3, y4, y5, y6, y7⟩ := box8 hS'
    clear hS'
    go_simp
    with_reducible rfl
  rotate_left
  · simp only [Act.put, List.setIfInBounds_toArray, List.set_cons_zero, List.set_cons_succ, i64_w, i32_w]
    rfl
  refine pure_ (i := 10) (N := some 52) (v := ?_) (a' := ?_) #[true, true, true, true, true, true, true, false, false, false, true, false, false, false, false, false, false, false] rfl rfl (by kernel_rfl) (fun _ _ _ h => h) (Or.inl ⟨by rfl, ?_⟩) ?_ ?_
  rotate_left
  · intro w'
    go_simp
    with_reducible rfl
  rotate_left
  · simp only [Act.put, List.setIfInBounds_toArray, List.set_cons_zero, List.set_cons_succ, i64_w, i32_w]
    rfl
  refine take_ (i := 11) (N := some 53) (v := ?_) (a' := ?_) #[true, true, true, true, true, true, true, false, false, false, true, true, false, false, false, false, false, false] rfl rfl (by kernel_rfl) (fun _ _ _ h => h) (Or.inl ⟨by rfl, ?_⟩) hHeld ?_ ?_
  rotate_left
  · intro w' hS'
    obtain ⟨y0, y1, y2, y3, y4, y5, y6, y7⟩ := box8 hS'
    clear hS'
    go_simp
    with_reducible rfl
  rotate_left
  · simp only [Act.put, List.setIfInBounds_toArray, List.set_cons_zero, List.set_cons_succ, i64_w, i32_w]
    rfl
  refine pure_ (i := 14) (N := some 56) (v := ?_) (a' := ?_) #[true, true, true, true, true, true, true, false, false, false, true, true, false, false, true, false, false, false] rfl rfl (by kernel_rfl) (fun _ _ _ h => h) (Or.inl ⟨by rfl, ?_⟩) ?_ ?_
  rotate_left
  · intro w'
    go_simp
    with_reducible rfl
  rotate_left
  · simp only [Act.put, List.setIfInBounds_toArray, List.set_cons_zero, List.set_cons_succ, i64_w, i32_w]
    rfl
  refine take_ (i := 15) (N := some 57) (v := ?_) (a' := ?_) #[true, true, true, true, true, true, true, false, false, false, true, true, false, false, true, true, false, false] rfl rfl (by kernel_rfl) (fun _ _ _ h => h) (Or.inl ⟨by rfl, ?_⟩) hHeld ?_ ?_
  rotate_left
  · intro w' hS'
    obtain ⟨y0, y1, y2, y3, y4, y5, y6, y7⟩ := box8 hS'
    clear hS'
    go_simp
    with_reducible rfl
  rotate_left
  · simp only [Act.put, List.setIfInBounds_toArray, List.set_cons_zero, List.set_cons_succ, i64_w, i32_w]
    rfl
  refine one_ (i := 7) (N := some 49) #[true, true, true, true, true, true, true, true, false, false, true, true, false, false, true, true, false, false] rfl rfl (by kernel_rfl) (by decide) (fun K hK => ?_)
  refine goes_ Tryd.func75 (by kernel_rfl) rfl #[.string sep] (by rfl) rfl rfl (by (try simp only [List.map_toArray, List.map_cons, List.map_nil]); first | done | rfl) ?_
  refine (HQ.out w1.drew).mono ?_
  rintro e wq ⟨rfl, hbq⟩
  have hbd : Below w1.heap.size w1 wq := below_step (below_drew1 (Below.refl _ _)) hbq
  have HXQ := Aside0.mk (blk_below HX1.out hbd)
  have HRQ := Aside0.mk (HR1.out.below hbd)
  have HFQ := Aside0.mk (HF1.out.trans (Fw.of_below hbd (HR1.out.base)))
  clear hbq hbd
  refine ⟨_, rfl, ?_⟩
  refine hK.out _ _ (show wq.heap[g]? = _ from HXQ.out) (fun hHeld => ?_)
  clear hK K
  refine pure_ (i := 8) (N := some 50) (v := ?_) (a' := ?_) #[true, true, true, true, true, true, true, true, true, false, true, true, false, false, true, true, false, false] rfl rfl (by kernel_rfl) (fun _ _ _ h => h) (Or.inl ⟨by rfl, ?_⟩) ?_ ?_
  rotate_left
  · intro w'
    go_simp
    with_reducible rfl
  rotate_left
  · simp only [Act.put, List.setIfInBounds_toArray, List.set_cons_zero, List.set_cons_succ, i64_w, i32_w]
    rfl
  refine pure_ (i := 9) (N := some 51) (v := ?_) (a' := ?_) #[true, true, true, true, true, true, true, true, true, true, true, true, false, false, true, true, false, false] rfl rfl (by kernel_rfl) (fun _ _ _ h => h) (Or.inl ⟨by rfl, ?_⟩) ?_ ?_
  rotate_left
  · intro w'
    go_simp
    with_reducible rfl
  rotate_left
  · simp only [Act.put, List.setIfInBounds_toArray, List.set_cons_zero, List.set_cons_succ, i64_w, i32_w]
    rfl
  refine pure_ (i := 12) (N := some 54) (v := ?_) (a' := ?_) #[true, true, true, true, true, true, true, true, true, true, true, true, true, false, true, true, false, false] rfl rfl (by kernel_rfl) (fun _ _ _ h => h) (Or.inl ⟨by rfl, ?_⟩) ?_ ?_
  rotate_left
  · intro w'
    go_simp
    with_reducible rfl
  rotate_left
  · simp only [Act.put, List.setIfInBounds_toArray, List.set_cons_zero, List.set_cons_succ, i64_w, i32_w]
    rfl
  refine pure_ (i := 13) (N := some 55) (v := ?_) (a' := ?_) #[true, true, true, true, true, true, true, true, true, true, true, true, true, true, true, true, false, false] rfl rfl (by kernel_rfl) (fun _ _ _ h => h) (Or.inl ⟨by rfl, ?_⟩) ?_ ?_
  rotate_left
  · intro w'
    go_simp
    with_reducible rfl
  rotate_left
  · simp only [Act.put, List.setIfInBounds_toArray, List.set_cons_zero, List.set_cons_succ, i64_w, i32_w]
    rfl
  refine pure_ (i := 16) (N := some 58) (v := ?_) (a' := ?_) #[true, true, true, true, true, true, true, true, true, true, true, true, true, true, true, true, true, false] rfl rfl (by kernel_rfl) (fun _ _ _ h => h) (Or.inl ⟨by rfl, ?_⟩) ?_ ?_
  rotate_left
  · intro w'
    go_simp
    with_reducible rfl
  rotate_left
  · simp only [Act.put, List.setIfInBounds_toArray, List.set_cons_zero, List.set_cons_succ, i64_w, i32_w]
    rfl
  refine last_ (i := 17) (N := some 59) #[true, true, true, true, true, true, true, true, true, true, true, true, true, true, true, true, true, true] rfl rfl (by kernel_rfl) (by decide) (fun K hK => ?_)
  refine goes_ Tryd.func42 (by kernel_rfl) rfl #[.pointer (some ⟨b, 0, none⟩), .string ((((((((⟨#[115, 112, 108, 105, 116, 32]⟩ : ByteArray) ++ sa) ++ (⟨#[32, 97, 116, 32]⟩ : ByteArray)) ++ q) ++ (⟨#[32, 105, 110, 116, 111, 32]⟩ : ByteArray)) ++ sb) ++ (⟨#[44, 32]⟩ : ByteArray)) ++ sc)] (by rfl) rfl rfl (by (try simp only [List.map_toArray, List.map_cons, List.map_nil]); first | done | rfl) ?_
  refine (put_calls wq ((((((((⟨#[115, 112, 108, 105, 116, 32]⟩ : ByteArray) ++ sa) ++ (⟨#[32, 97, 116, 32]⟩ : ByteArray)) ++ q) ++ (⟨#[32, 105, 110, 116, 111, 32]⟩ : ByteArray)) ++ sb) ++ (⟨#[44, 32]⟩ : ByteArray)) ++ sc) HRQ.out HMZ.out).mono ?_
  rintro e w2 ⟨rfl, hr2, hf2⟩
  have HR2 := Aside0.mk hr2
  have HF2 := Aside0.mk (HFQ.out.trans hf2)
  have HX2 := Aside0.mk (hf2.other HXQ.out (by decide) (HRQ.out.blkne HXQ.out (by decide)))
  clear hr2 hf2
  refine ⟨_, rfl, ?_⟩
  refine hK.out _ _ ?_
  clear hK K
  refine done_ (by kernel_rfl) ?_
  go_wp2_with fail
  refine (put_calls w2 ⟨#[59, 10]⟩ HR2.out (by decide)).mono ?_
  rintro e w3 ⟨rfl, hr3, hf3⟩
  have HX3 := Aside0.mk (hf3.other HX2.out (by decide) (HR2.out.blkne HX2.out (by decide)))
  have HR3 := Aside0.mk hr3
  have HF3 := Aside0.mk (HF2.out.trans hf3)
  clear hr3 hf3
  obtain ⟨y0, y1, y2, y3, y4, y5, y6, y7⟩ := box8 HX3.out
  go_wp2_with fail
  go_end0
  refine ⟨rfl, _, HR3.out, ?_, HF3.out⟩
  have h := (((Wrote.put bs [32, 32, 32, 32]).trans (Wrote.put _ ((((((((⟨#[115, 112, 108, 105, 116, 32]⟩ : ByteArray) ++ sa) ++ (⟨#[32, 97, 116, 32]⟩ : ByteArray)) ++ q) ++ (⟨#[32, 105, 110, 116, 111, 32]⟩ : ByteArray)) ++ sb) ++ (⟨#[44, 32]⟩ : ByteArray)) ++ sc).data.toList)).trans (Wrote.put _ [59, 10]))
  have e : stT ⟨3, sa, sb, sc, sep, ty, val, pl⟩ = ([32, 32, 32, 32] ++ ((((((((⟨#[115, 112, 108, 105, 116, 32]⟩ : ByteArray) ++ sa) ++ (⟨#[32, 97, 116, 32]⟩ : ByteArray)) ++ q) ++ (⟨#[32, 105, 110, 116, 111, 32]⟩ : ByteArray)) ++ sb) ++ (⟨#[44, 32]⟩ : ByteArray)) ++ sc).data.toList) ++ [59, 10] := by unfold stT lineT; rw [if_neg (show ¬ (3 : Int) = 1 by decide), if_neg (show ¬ (3 : Int) = 2 by decide), if_pos rfl]; simp [app_l, HQE.out, T.ba_list]
  rw [e]
  exact h
set_option maxHeartbeats 8000000 in
set_option maxRecDepth 100000 in
theorem rline4 {B b : Nat} {bs : List UInt8} (w : World) (sa sb sc sep ty : ByteArray) (A : Option Addr) (cc : Nat) (pl : Int) (val : List Nd) (hR : Ro w B b bs) (hs : Sz sa sb sc sep ty) :
    Calls Tryd.prog 44 #[.pointer (some ⟨b, 0, none⟩), .agg #[.int .i64 4, .string sa, .string sb, .string sc, .string sep, .string ty, .slice A val.length cc, .int .i64 pl]] w fun e w' => e = .returned (.tuple #[]) ∧ ∃ r, Ro w' B b r ∧ Wrote bs (stT ⟨4, sa, sb, sc, sep, ty, val, pl⟩) r ∧ Fw B b w w' := by
  obtain ⟨wA, hwA⟩ : ∃ wA, wA = w.alloc (.cells #[.int .i64 4, .string sa, .string sb, .string sc, .string sep, .string ty, .slice A val.length cc, .int .i64 pl] 55) := ⟨_, rfl⟩
  have hbA : Below w.heap.size w wA := by rw [hwA]; exact below_alloc (Below.refl _ _) _
  obtain ⟨g, hg⟩ : ∃ g, g = w.heap.size := ⟨_, rfl⟩
  have HXA := Aside0.mk (show wA.heap[g]? = some (.cells #[.int .i64 4, .string sa, .string sb, .string sc, .string sep, .string ty, .slice A val.length cc, .int .i64 pl] 55 (0, 0)) by rw [hwA, hg]; exact blk_new _ _)
  have HR0 := Aside0.mk (hR.below hbA)
  have HF0 := Aside0.mk (Fw.of_below (b := b) hbA hR.base)
  have HBS := Aside0.mk hR.base
  have HE := Aside0.mk hwA
  have HS := Aside0.mk hs
  have HG := Aside0.mk hg
  clear hR hs hwA hbA
  obtain ⟨q, hq⟩ : ∃ q, q = T.ba (L.Quote sep.data.toList) := ⟨_, rfl⟩
  have HQ : Aside0 (∀ w, Calls Tryd.prog 75 #[.string sep] w fun e w' => e = .returned (.string q) ∧ Below w.heap.size w w') := ⟨fun w => by rw [hq]; exact rquote_calls sep HS.out.sep w⟩
  have HQS : Aside0 (q.size ≤ 4194306) := ⟨by rw [hq]; exact rquote_size sep HS.out.sep⟩
  have HQE := Aside0.mk hq
  clear hq
  have n1 : ¬9223372036854775807 < 5 + sa.size := by have := HS.out.a; have := HS.out.b; have := HS.out.c; have := HS.out.ty; have := HQS.out; omega
  have n2 : ¬9223372036854775807 < 5 + sa.size + 2 := by have := HS.out.a; have := HS.out.b; have := HS.out.c; have := HS.out.ty; have := HQS.out; omega
  have n3 : ¬9223372036854775807 < 5 + sa.size + 2 + sb.size := by have := HS.out.a; have := HS.out.b; have := HS.out.c; have := HS.out.ty; have := HQS.out; omega
  have n4 : ¬9223372036854775807 < 5 + sa.size + 2 + sb.size + 6 := by have := HS.out.a; have := HS.out.b; have := HS.out.c; have := HS.out.ty; have := HQS.out; omega
  have n5 : ¬9223372036854775807 < 5 + sa.size + 2 + sb.size + 6 + q.size := by have := HS.out.a; have := HS.out.b; have := HS.out.c; have := HS.out.ty; have := HQS.out; omega
  have n6 : ¬9223372036854775807 < 5 + sa.size + 2 + sb.size + 6 + q.size + 6 := by have := HS.out.a; have := HS.out.b; have := HS.out.c; have := HS.out.ty; have := HQS.out; omega
  have n7 : ¬9223372036854775807 < 5 + sa.size + 2 + sb.size + 6 + q.size + 6 + sc.size := by have := HS.out.a; have := HS.out.b; have := HS.out.c; have := HS.out.ty; have := HQS.out; omega
  have HMZ : Aside0 (((((((((⟨#[106, 111, 105, 110, 32]⟩ : ByteArray) ++ sa) ++ (⟨#[44, 32]⟩ : ByteArray)) ++ sb) ++ (⟨#[32, 119, 105, 116, 104, 32]⟩ : ByteArray)) ++ q) ++ (⟨#[32, 105, 110, 116, 111, 32]⟩ : ByteArray)) ++ sc).size ≤ 8388608) := ⟨by simp only [ByteArray.size_append]; have := HS.out.a; have := HS.out.b; have := HS.out.c; have := HS.out.ty; have := HQS.out; show _ ≤ _; rw [show (⟨#[106, 111, 105, 110, 32]⟩ : ByteArray).size = 5 from rfl]; rw [show (⟨#[44, 32]⟩ : ByteArray).size = 2 from rfl]; rw [show (⟨#[32, 119, 105, 116, 104, 32]⟩ : ByteArray).size = 6 from rfl]; rw [show (⟨#[32, 105, 110, 116, 111, 32]⟩ : ByteArray).size = 6 from rfl]; omega⟩
  go_enter Tryd.func44, Tryd.ntmps44
  go_wp2_with fail
  rw [← HE.out, ← hg]
  clear hg
  refine (put_calls wA ⟨#[32, 32, 32, 32]⟩ HR0.out (by decide)).mono ?_
  rintro e w1 ⟨rfl, hr1, hf1⟩
  have HX1 := Aside0.mk (hf1.other HXA.out (by decide) (HR0.out.blkne HXA.out (by decide)))
  have HR1 := Aside0.mk hr1
  have HF1 := Aside0.mk (HF0.out.trans hf1)
  clear hr1 hf1
  obtain ⟨y0, y1, y2, y3, y4, y5, y6, y7⟩ := box8 HX1.out
  clear y0 y1 y2 y3 y4 y5 y6 y7
  have y0 := (blk_cell HX1.out 0).trans rfl
  go_wp2
  clear y0
  refine start_ (n := 18) (S := (fun w' : World => w'.heap[g]? = some (.cells #[.int .i64 4, .string sa, .string sb, .string sc, .string sep, .string ty, .slice A val.length cc, .int .i64 pl] 55 (0, 0)))) (ds := [17]) #[false, false, false, false, false, false, false, false, false, false, false, false, false, false, false, false, false, false] (by kernel_rfl) rfl rfl (show w1.drew.heap[g]? = _ from HX1.out) (fun hHeld => ?_)
  refine pure_ (i := 0) (N := some 62) (v := ?_) (a' := ?_) #[true, false, false, false, false, false, false, false, false, false, false, false, false, false, false, false, false, false] rfl rfl (by kernel_rfl) (fun _ _ _ h => h) (Or.inl ⟨by rfl, ?_⟩) ?_ ?_
  rotate_left
  · intro w'
    go_simp
    with_reducible rfl
  rotate_left
  · simp only [Act.put, List.setIfInBounds_toArray, List.set_cons_zero, List.set_cons_succ, i64_w, i32_w]
    rfl
  refine pure_ (i := 1) (N := some 63) (v := ?_) (a' := ?_) #[true, true, false, false, false, false, false, false, false, false, false, false, false, false, false, false, false, false] rfl rfl (by kernel_rfl) (fun _ _ _ h => h) (Or.inl ⟨by rfl, ?_⟩) ?_ ?_
  rotate_left
  · intro w'
    go_simp
    with_reducible rfl
  rotate_left
  · simp only [Act.put, List.setIfInBounds_toArray, List.set_cons_zero, List.set_cons_succ, i64_w, i32_w]
    rfl
  refine take_ (i := 2) (N := some 64) (v := ?_) (a' := ?_) #[true, true, true, false, false, false, false, false, false, false, false, false, false, false, false, false, false, false] rfl rfl (by kernel_rfl) (fun _ _ _ h => h) (Or.inl ⟨by rfl, ?_⟩) hHeld ?_ ?_
  rotate_left
  · intro w' hS'
    obtain ⟨y0, y1, y2, y3, y4, y5, y6, y7⟩ := box8 hS'
    clear hS'
    go_simp
    with_reducible rfl
  rotate_left
  · simp only [Act.put, List.setIfInBounds_toArray, List.set_cons_zero, List.set_cons_succ, i64_w, i32_w]
    rfl
  refine pure_ (i := 3) (N := some 65) (v := ?_) (a' := ?_) #[true, true, true, true, false, false, false, false, false, false, false, false, false, false, false, false, false, false] rfl rfl (by kernel_rfl) (fun _ _ _ h => h) (Or.inl ⟨by rfl, ?_⟩) ?_ ?_
  rotate_left
  · intro w'
    go_simp
    with_reducible rfl
  rotate_left
  · simp only [Act.put, List.setIfInBounds_toArray, List.set_cons_zero, List.set_cons_succ, i64_w, i32_w]
    rfl
  refine pure_ (i := 4) (N := some 66) (v := ?_) (a' := ?_) #[true, true, true, true, true, false, false, false, false, false, false, false, false, false, false, false, false, false] rfl rfl (by kernel_rfl) (fun _ _ _ h => h) (Or.inl ⟨by rfl, ?_⟩) ?_ ?_
  rotate_left
  · intro w'
    go_simp
    with_reducible rfl
  rotate_left
  · simp only [Act.put, List.setIfInBounds_toArray, List.set_cons_zero, List.set_cons_succ, i64_w, i32_w]
    rfl
  refine pure_ (i := 5) (N := some 67) (v := ?_) (a' := ?_) #[true, true, true, true, true, true, false, false, false, false, false, false, false, false, false, false, false, false] rfl rfl (by kernel_rfl) (fun _ _ _ h => h) (Or.inl ⟨by rfl, ?_⟩) ?_ ?_
  rotate_left
  · intro w'
    go_simp
    with_reducible rfl
  rotate_left
  · simp only [Act.put, List.setIfInBounds_toArray, List.set_cons_zero, List.set_cons_succ, i64_w, i32_w]
    rfl
  refine take_ (i := 6) (N := some 68) (v := ?_) (a' := ?_) #[true, true, true, true, true, true, true, false, false, false, false, false, false, false, false, false, false, false] rfl rfl (by kernel_rfl) (fun _ _ _ h => h) (Or.inl ⟨by rfl, ?_⟩) hHeld ?_ ?_
  rotate_left
  · intro w' hS'
    obtain ⟨y0, y1, y2, y3, y4, y5, y6, y7⟩ := box8 hS'
    clear hS'
    go_simp
    with_reducible rfl
  rotate_left
  · simp only [Act.put, List.setIfInBounds_toArray, List.set_cons_zero, List.set_cons_succ, i64_w, i32_w]
    rfl
  refine pure_ (i := 7) (N := some 69) (v := ?_) (a' := ?_) #[true, true, true, true, true, true, true, true, false, false, false, false, false, false, false, false, false, false] rfl rfl (by kernel_rfl) (fun _ _ _ h => h) (Or.inl ⟨by rfl, ?_⟩) ?_ ?_
  rotate_left
  · intro w'
    go_simp
    with_reducible rfl
  rotate_left
  · simp only [Act.put, List.setIfInBounds_toArray, List.set_cons_zero, List.set_cons_succ, i64_w, i32_w]
    rfl
  refine pure_ (i := 8) (N := some 70) (v := ?_) (a' := ?_) #[true, true, true, true, true, true, true, true, true, false, false, false, false, false, false, false, false, false] rfl rfl (by kernel_rfl) (fun _ _ _ h => h) (Or.inl ⟨by rfl, ?_⟩) ?_ ?_
  rotate_left
  · intro w'
    go_simp
    with_reducible rfl
  rotate_left
  · simp only [Act.put, List.setIfInBounds_toArray, List.set_cons_zero, List.set_cons_succ, i64_w, i32_w]
    rfl
  refine pure_ (i := 9) (N := some 71) (v := ?_) (a' := ?_) #[true, true, true, true, true, true, true, true, true, true, false, false, false, false, false, false, false, false] rfl rfl (by kernel_rfl) (fun _ _ _ h => h) (Or.inl ⟨by rfl, ?_⟩) ?_ ?_
  rotate_left
  · intro w'
    go_simp
    with_reducible rfl
  rotate_left
  · simp only [Act.put, List.setIfInBounds_toArray, List.set_cons_zero, List.set_cons_succ, i64_w, i32_w]
    rfl
  refine take_ (i := 10) (N := some 72) (v := ?_) (a' := ?_) #[true, true, true, true, true, true, true, true, true, true, true, false, false, false, false, false, false, false] rfl rfl (by kernel_rfl) (fun _ _ _ h => h) (Or.inl ⟨by rfl, ?_⟩) hHeld ?_ ?_
  rotate_left
  · intro w' hS'
    obtain ⟨y0, y1, y2, y3, y4, y5, y6, y7⟩ := box8 hS'
    clear hS'
    go_simp
    with_reducible rfl
  rotate_left
  · simp only [Act.put, List.setIfInBounds_toArray, List.set_cons_zero, List.set_cons_succ, i64_w, i32_w]
    rfl
  refine pure_ (i := 14) (N := some 76) (v := ?_) (a' := ?_) #[true, true, true, true, true, true, true, true, true, true, true, false, false, false, true, false, false, false] rfl rfl (by kernel_rfl) (fun _ _ _ h => h) (Or.inl ⟨by rfl, ?_⟩) ?_ ?_
  rotate_left
  · intro w'
    go_simp
    with_reducible rfl
  rotate_left
  · simp only [Act.put, List.setIfInBounds_toArray, List.set_cons_zero, List.set_cons_succ, i64_w, i32_w]
    rfl
  refine take_ (i := 15) (N := some 77) (v := ?_) (a' := ?_) #[true, true, true, true, true, true, true, true, true, true, true, false, false, false, true, true, false, false] rfl rfl (by kernel_rfl) (fun _ _ _ h => h) (Or.inl ⟨by rfl, ?_⟩) hHeld ?_ ?_
  rotate_left
  · intro w' hS'
    obtain ⟨y0, y1, y2, y3, y4, y5, y6, y7⟩ := box8 hS'
    clear hS'
    go_simp
    with_reducible rfl
  rotate_left
  · simp only [Act.put, List.setIfInBounds_toArray, List.set_cons_zero, List.set_cons_succ, i64_w, i32_w]
    rfl
  refine one_ (i := 11) (N := some 73) #[true, true, true, true, true, true, true, true, true, true, true, true, false, false, true, true, false, false] rfl rfl (by kernel_rfl) (by decide) (fun K hK => ?_)
  refine goes_ Tryd.func75 (by kernel_rfl) rfl #[.string sep] (by rfl) rfl rfl (by (try simp only [List.map_toArray, List.map_cons, List.map_nil]); first | done | rfl) ?_
  refine (HQ.out w1.drew).mono ?_
  rintro e wq ⟨rfl, hbq⟩
  have hbd : Below w1.heap.size w1 wq := below_step (below_drew1 (Below.refl _ _)) hbq
  have HXQ := Aside0.mk (blk_below HX1.out hbd)
  have HRQ := Aside0.mk (HR1.out.below hbd)
  have HFQ := Aside0.mk (HF1.out.trans (Fw.of_below hbd (HR1.out.base)))
  clear hbq hbd
  refine ⟨_, rfl, ?_⟩
  refine hK.out _ _ (show wq.heap[g]? = _ from HXQ.out) (fun hHeld => ?_)
  clear hK K
  refine pure_ (i := 12) (N := some 74) (v := ?_) (a' := ?_) #[true, true, true, true, true, true, true, true, true, true, true, true, true, false, true, true, false, false] rfl rfl (by kernel_rfl) (fun _ _ _ h => h) (Or.inl ⟨by rfl, ?_⟩) ?_ ?_
  rotate_left
  · intro w'
    go_simp
    with_reducible rfl
  rotate_left
  · simp only [Act.put, List.setIfInBounds_toArray, List.set_cons_zero, List.set_cons_succ, i64_w, i32_w]
    rfl
  refine pure_ (i := 13) (N := some 75) (v := ?_) (a' := ?_) #[true, true, true, true, true, true, true, true, true, true, true, true, true, true, true, true, false, false] rfl rfl (by kernel_rfl) (fun _ _ _ h => h) (Or.inl ⟨by rfl, ?_⟩) ?_ ?_
  rotate_left
  · intro w'
    go_simp
    with_reducible rfl
  rotate_left
  · simp only [Act.put, List.setIfInBounds_toArray, List.set_cons_zero, List.set_cons_succ, i64_w, i32_w]
    rfl
  refine pure_ (i := 16) (N := some 78) (v := ?_) (a' := ?_) #[true, true, true, true, true, true, true, true, true, true, true, true, true, true, true, true, true, false] rfl rfl (by kernel_rfl) (fun _ _ _ h => h) (Or.inl ⟨by rfl, ?_⟩) ?_ ?_
  rotate_left
  · intro w'
    go_simp
    with_reducible rfl
  rotate_left
  · simp only [Act.put, List.setIfInBounds_toArray, List.set_cons_zero, List.set_cons_succ, i64_w, i32_w]
    rfl
  refine last_ (i := 17) (N := some 79) #[true, true, true, true, true, true, true, true, true, true, true, true, true, true, true, true, true, true] rfl rfl (by kernel_rfl) (by decide) (fun K hK => ?_)
  refine goes_ Tryd.func42 (by kernel_rfl) rfl #[.pointer (some ⟨b, 0, none⟩), .string ((((((((⟨#[106, 111, 105, 110, 32]⟩ : ByteArray) ++ sa) ++ (⟨#[44, 32]⟩ : ByteArray)) ++ sb) ++ (⟨#[32, 119, 105, 116, 104, 32]⟩ : ByteArray)) ++ q) ++ (⟨#[32, 105, 110, 116, 111, 32]⟩ : ByteArray)) ++ sc)] (by rfl) rfl rfl (by (try simp only [List.map_toArray, List.map_cons, List.map_nil]); first | done | rfl) ?_
  refine (put_calls wq ((((((((⟨#[106, 111, 105, 110, 32]⟩ : ByteArray) ++ sa) ++ (⟨#[44, 32]⟩ : ByteArray)) ++ sb) ++ (⟨#[32, 119, 105, 116, 104, 32]⟩ : ByteArray)) ++ q) ++ (⟨#[32, 105, 110, 116, 111, 32]⟩ : ByteArray)) ++ sc) HRQ.out HMZ.out).mono ?_
  rintro e w2 ⟨rfl, hr2, hf2⟩
  have HR2 := Aside0.mk hr2
  have HF2 := Aside0.mk (HFQ.out.trans hf2)
  have HX2 := Aside0.mk (hf2.other HXQ.out (by decide) (HRQ.out.blkne HXQ.out (by decide)))
  clear hr2 hf2
  refine ⟨_, rfl, ?_⟩
  refine hK.out _ _ ?_
  clear hK K
  refine done_ (by kernel_rfl) ?_
  go_wp2_with fail
  refine (put_calls w2 ⟨#[59, 10]⟩ HR2.out (by decide)).mono ?_
  rintro e w3 ⟨rfl, hr3, hf3⟩
  have HX3 := Aside0.mk (hf3.other HX2.out (by decide) (HR2.out.blkne HX2.out (by decide)))
  have HR3 := Aside0.mk hr3
  have HF3 := Aside0.mk (HF2.out.trans hf3)
  clear hr3 hf3
  obtain ⟨y0, y1, y2, y3, y4, y5, y6, y7⟩ := box8 HX3.out
  go_wp2_with fail
  go_end0
  refine ⟨rfl, _, HR3.out, ?_, HF3.out⟩
  have h := (((Wrote.put bs [32, 32, 32, 32]).trans (Wrote.put _ ((((((((⟨#[106, 111, 105, 110, 32]⟩ : ByteArray) ++ sa) ++ (⟨#[44, 32]⟩ : ByteArray)) ++ sb) ++ (⟨#[32, 119, 105, 116, 104, 32]⟩ : ByteArray)) ++ q) ++ (⟨#[32, 105, 110, 116, 111, 32]⟩ : ByteArray)) ++ sc).data.toList)).trans (Wrote.put _ [59, 10]))
  have e : stT ⟨4, sa, sb, sc, sep, ty, val, pl⟩ = ([32, 32, 32, 32] ++ ((((((((⟨#[106, 111, 105, 110, 32]⟩ : ByteArray) ++ sa) ++ (⟨#[44, 32]⟩ : ByteArray)) ++ sb) ++ (⟨#[32, 119, 105, 116, 104, 32]⟩ : ByteArray)) ++ q) ++ (⟨#[32, 105, 110, 116, 111, 32]⟩ : ByteArray)) ++ sc).data.toList) ++ [59, 10] := by unfold stT lineT; rw [if_neg (show ¬ (4 : Int) = 1 by decide), if_neg (show ¬ (4 : Int) = 2 by decide), if_neg (show ¬ (4 : Int) = 3 by decide), if_pos rfl]; simp [app_l, HQE.out, T.ba_list]
  rw [e]
  exact h
set_option maxHeartbeats 8000000 in
set_option maxRecDepth 100000 in
theorem rline5 {B b : Nat} {bs : List UInt8} (w : World) (sa sb sc sep ty : ByteArray) (A : Option Addr) (cc : Nat) (pl : Int) (val : List Nd) (hR : Ro w B b bs) (hs : Sz sa sb sc sep ty) :
    Calls Tryd.prog 44 #[.pointer (some ⟨b, 0, none⟩), .agg #[.int .i64 5, .string sa, .string sb, .string sc, .string sep, .string ty, .slice A val.length cc, .int .i64 pl]] w fun e w' => e = .returned (.tuple #[]) ∧ ∃ r, Ro w' B b r ∧ Wrote bs (stT ⟨5, sa, sb, sc, sep, ty, val, pl⟩) r ∧ Fw B b w w' := by
  obtain ⟨wA, hwA⟩ : ∃ wA, wA = w.alloc (.cells #[.int .i64 5, .string sa, .string sb, .string sc, .string sep, .string ty, .slice A val.length cc, .int .i64 pl] 55) := ⟨_, rfl⟩
  have hbA : Below w.heap.size w wA := by rw [hwA]; exact below_alloc (Below.refl _ _) _
  obtain ⟨g, hg⟩ : ∃ g, g = w.heap.size := ⟨_, rfl⟩
  have HXA := Aside0.mk (show wA.heap[g]? = some (.cells #[.int .i64 5, .string sa, .string sb, .string sc, .string sep, .string ty, .slice A val.length cc, .int .i64 pl] 55 (0, 0)) by rw [hwA, hg]; exact blk_new _ _)
  have HR0 := Aside0.mk (hR.below hbA)
  have HF0 := Aside0.mk (Fw.of_below (b := b) hbA hR.base)
  have HBS := Aside0.mk hR.base
  have HE := Aside0.mk hwA
  have HS := Aside0.mk hs
  have HG := Aside0.mk hg
  clear hR hs hwA hbA
  have n1 : ¬9223372036854775807 < 7 + sa.size := by have := HS.out.a; have := HS.out.b; have := HS.out.c; have := HS.out.ty; omega
  have n2 : ¬9223372036854775807 < 7 + sa.size + 4 := by have := HS.out.a; have := HS.out.b; have := HS.out.c; have := HS.out.ty; omega
  have n3 : ¬9223372036854775807 < 7 + sa.size + 4 + ty.size := by have := HS.out.a; have := HS.out.b; have := HS.out.c; have := HS.out.ty; omega
  have HMZ : Aside0 (((((⟨#[114, 101, 116, 121, 112, 101, 32]⟩ : ByteArray) ++ sa) ++ (⟨#[32, 116, 111, 32]⟩ : ByteArray)) ++ ty).size ≤ 8388608) := ⟨by simp only [ByteArray.size_append]; have := HS.out.a; have := HS.out.b; have := HS.out.c; have := HS.out.ty; show _ ≤ _; rw [show (⟨#[114, 101, 116, 121, 112, 101, 32]⟩ : ByteArray).size = 7 from rfl]; rw [show (⟨#[32, 116, 111, 32]⟩ : ByteArray).size = 4 from rfl]; omega⟩
  go_enter Tryd.func44, Tryd.ntmps44
  go_wp2_with fail
  rw [← HE.out, ← hg]
  clear hg
  refine (put_calls wA ⟨#[32, 32, 32, 32]⟩ HR0.out (by decide)).mono ?_
  rintro e w1 ⟨rfl, hr1, hf1⟩
  have HX1 := Aside0.mk (hf1.other HXA.out (by decide) (HR0.out.blkne HXA.out (by decide)))
  have HR1 := Aside0.mk hr1
  have HF1 := Aside0.mk (HF0.out.trans hf1)
  clear hr1 hf1
  obtain ⟨y0, y1, y2, y3, y4, y5, y6, y7⟩ := box8 HX1.out
  go_wp2_with fail
  refine (put_calls w1 ((((⟨#[114, 101, 116, 121, 112, 101, 32]⟩ : ByteArray) ++ sa) ++ (⟨#[32, 116, 111, 32]⟩ : ByteArray)) ++ ty) HR1.out HMZ.out).mono ?_
  rintro e w2 ⟨rfl, hr2, hf2⟩
  have HX2 := Aside0.mk (hf2.other HX1.out (by decide) (HR1.out.blkne HX1.out (by decide)))
  have HR2 := Aside0.mk hr2
  have HF2 := Aside0.mk (HF1.out.trans hf2)
  clear hr2 hf2
  obtain ⟨y0, y1, y2, y3, y4, y5, y6, y7⟩ := box8 HX2.out
  go_wp2_with fail
  refine (put_calls w2 ⟨#[59, 10]⟩ HR2.out (by decide)).mono ?_
  rintro e w3 ⟨rfl, hr3, hf3⟩
  have HX3 := Aside0.mk (hf3.other HX2.out (by decide) (HR2.out.blkne HX2.out (by decide)))
  have HR3 := Aside0.mk hr3
  have HF3 := Aside0.mk (HF2.out.trans hf3)
  clear hr3 hf3
  obtain ⟨y0, y1, y2, y3, y4, y5, y6, y7⟩ := box8 HX3.out
  go_wp2_with fail
  go_end0
  refine ⟨rfl, _, HR3.out, ?_, HF3.out⟩
  have h := (((Wrote.put bs [32, 32, 32, 32]).trans (Wrote.put _ ((((⟨#[114, 101, 116, 121, 112, 101, 32]⟩ : ByteArray) ++ sa) ++ (⟨#[32, 116, 111, 32]⟩ : ByteArray)) ++ ty).data.toList)).trans (Wrote.put _ [59, 10]))
  have e : stT ⟨5, sa, sb, sc, sep, ty, val, pl⟩ = ([32, 32, 32, 32] ++ ((((⟨#[114, 101, 116, 121, 112, 101, 32]⟩ : ByteArray) ++ sa) ++ (⟨#[32, 116, 111, 32]⟩ : ByteArray)) ++ ty).data.toList) ++ [59, 10] := by unfold stT lineT; rw [if_neg (show ¬ (5 : Int) = 1 by decide), if_neg (show ¬ (5 : Int) = 2 by decide), if_neg (show ¬ (5 : Int) = 3 by decide), if_neg (show ¬ (5 : Int) = 4 by decide), if_pos rfl]; simp [app_l]
  rw [e]
  exact h
set_option maxHeartbeats 8000000 in
set_option maxRecDepth 100000 in
theorem rline6 {B b : Nat} {bs : List UInt8} (w : World) (sa sb sc sep ty : ByteArray) (A : Option Addr) (cc : Nat) (pl : Int) (val : List Nd) (hR : Ro w B b bs) (hs : Sz sa sb sc sep ty) :
    Calls Tryd.prog 44 #[.pointer (some ⟨b, 0, none⟩), .agg #[.int .i64 6, .string sa, .string sb, .string sc, .string sep, .string ty, .slice A val.length cc, .int .i64 pl]] w fun e w' => e = .returned (.tuple #[]) ∧ ∃ r, Ro w' B b r ∧ Wrote bs (stT ⟨6, sa, sb, sc, sep, ty, val, pl⟩) r ∧ Fw B b w w' := by
  obtain ⟨wA, hwA⟩ : ∃ wA, wA = w.alloc (.cells #[.int .i64 6, .string sa, .string sb, .string sc, .string sep, .string ty, .slice A val.length cc, .int .i64 pl] 55) := ⟨_, rfl⟩
  have hbA : Below w.heap.size w wA := by rw [hwA]; exact below_alloc (Below.refl _ _) _
  obtain ⟨g, hg⟩ : ∃ g, g = w.heap.size := ⟨_, rfl⟩
  have HXA := Aside0.mk (show wA.heap[g]? = some (.cells #[.int .i64 6, .string sa, .string sb, .string sc, .string sep, .string ty, .slice A val.length cc, .int .i64 pl] 55 (0, 0)) by rw [hwA, hg]; exact blk_new _ _)
  have HR0 := Aside0.mk (hR.below hbA)
  have HF0 := Aside0.mk (Fw.of_below (b := b) hbA hR.base)
  have HBS := Aside0.mk hR.base
  have HE := Aside0.mk hwA
  have HS := Aside0.mk hs
  have HG := Aside0.mk hg
  clear hR hs hwA hbA
  have n1 : ¬9223372036854775807 < 5 + sa.size := by have := HS.out.a; have := HS.out.b; have := HS.out.c; have := HS.out.ty; omega
  have HMZ : Aside0 (((⟨#[100, 114, 111, 112, 32]⟩ : ByteArray) ++ sa).size ≤ 8388608) := ⟨by simp only [ByteArray.size_append]; have := HS.out.a; have := HS.out.b; have := HS.out.c; have := HS.out.ty; show _ ≤ _; rw [show (⟨#[100, 114, 111, 112, 32]⟩ : ByteArray).size = 5 from rfl]; omega⟩
  go_enter Tryd.func44, Tryd.ntmps44
  go_wp2_with fail
  rw [← HE.out, ← hg]
  clear hg
  refine (put_calls wA ⟨#[32, 32, 32, 32]⟩ HR0.out (by decide)).mono ?_
  rintro e w1 ⟨rfl, hr1, hf1⟩
  have HX1 := Aside0.mk (hf1.other HXA.out (by decide) (HR0.out.blkne HXA.out (by decide)))
  have HR1 := Aside0.mk hr1
  have HF1 := Aside0.mk (HF0.out.trans hf1)
  clear hr1 hf1
  obtain ⟨y0, y1, y2, y3, y4, y5, y6, y7⟩ := box8 HX1.out
  go_wp2_with fail
  refine (put_calls w1 ((⟨#[100, 114, 111, 112, 32]⟩ : ByteArray) ++ sa) HR1.out HMZ.out).mono ?_
  rintro e w2 ⟨rfl, hr2, hf2⟩
  have HX2 := Aside0.mk (hf2.other HX1.out (by decide) (HR1.out.blkne HX1.out (by decide)))
  have HR2 := Aside0.mk hr2
  have HF2 := Aside0.mk (HF1.out.trans hf2)
  clear hr2 hf2
  obtain ⟨y0, y1, y2, y3, y4, y5, y6, y7⟩ := box8 HX2.out
  go_wp2_with fail
  refine (put_calls w2 ⟨#[59, 10]⟩ HR2.out (by decide)).mono ?_
  rintro e w3 ⟨rfl, hr3, hf3⟩
  have HX3 := Aside0.mk (hf3.other HX2.out (by decide) (HR2.out.blkne HX2.out (by decide)))
  have HR3 := Aside0.mk hr3
  have HF3 := Aside0.mk (HF2.out.trans hf3)
  clear hr3 hf3
  obtain ⟨y0, y1, y2, y3, y4, y5, y6, y7⟩ := box8 HX3.out
  go_wp2_with fail
  go_end0
  refine ⟨rfl, _, HR3.out, ?_, HF3.out⟩
  have h := (((Wrote.put bs [32, 32, 32, 32]).trans (Wrote.put _ ((⟨#[100, 114, 111, 112, 32]⟩ : ByteArray) ++ sa).data.toList)).trans (Wrote.put _ [59, 10]))
  have e : stT ⟨6, sa, sb, sc, sep, ty, val, pl⟩ = ([32, 32, 32, 32] ++ ((⟨#[100, 114, 111, 112, 32]⟩ : ByteArray) ++ sa).data.toList) ++ [59, 10] := by unfold stT lineT; rw [if_neg (show ¬ (6 : Int) = 1 by decide), if_neg (show ¬ (6 : Int) = 2 by decide), if_neg (show ¬ (6 : Int) = 3 by decide), if_neg (show ¬ (6 : Int) = 4 by decide), if_neg (show ¬ (6 : Int) = 5 by decide)]; simp [app_l]
  rw [e]
  exact h
end Go.Proofs.YtaijoghpfobdbaaDoor.W
end
section
set_option linter.unusedVariables false
set_option linter.unusedSimpArgs false
namespace Go.Proofs.YtaijoghpfobdbaaDoor.W
open Go.RowKit Go.Proofs.YtaijoghpfobdbaaDoor.X Go.Proofs.YtaijoghpfobdbaaDoorW.PrintWords Go.Proofs.YtaijoghpfobdbaaDoorW.PrintLast Go.Proofs.YtaijoghpfobdbaaDoorW.PrintMore
open Go.Proofs.YtaijoghpfobdbaaDoor.P (Tr Nd Wrote put fin build tx dep judgeE StD VeD EvD goodB nameB wrs stE allE veE evE wholeE rj stT)
def cd (n : Nat) : Int := if 100 < n then 91 else 0
theorem cd_ok (n : Nat) : P.okE (cd n) := by unfold cd P.okE; split <;> simp
theorem wrs_cd (a b : Nat) : wrs (cd a) (cd b) = cd (max a b) := by
  unfold cd wrs
  by_cases h1 : 100 < a
  · rw [if_pos h1]
    by_cases h2 : 100 < b
    · rw [if_pos h2, if_pos (show 100 < max a b by omega)]; rfl
    · rw [if_neg h2, if_pos (show 100 < max a b by omega)]; rfl
  · rw [if_neg h1]
    by_cases h2 : 100 < b
    · rw [if_pos h2, if_pos (show 100 < max a b by omega)]; rfl
    · rw [if_neg h2, if_neg (show ¬ 100 < max a b by omega)]; rfl
theorem rst_cases (d : StD) : ((rst d).1 = false ∧ stE d = 1) ∨ ∃ n : Nat, rst d = (true, (n : Int)) ∧ stE d = cd n := by
  unfold rst stE
  by_cases hg : goodB d = true
  · rw [if_pos hg, if_pos hg]
    by_cases h0 : d.val.length = 0
    · rw [if_pos h0, if_pos h0]; exact .inr ⟨0, rfl, rfl⟩
    · rw [if_neg h0, if_neg h0]
      by_cases hx : ∃ t, build d.val [] = some [t]
      · obtain ⟨t, ht⟩ := hx
        exact .inr ⟨dep t, rj_one ht, judgeE_one ht⟩
      · exact .inl ⟨rj_not fun t h => hx ⟨t, h⟩, judgeE_none hx⟩
  · rw [if_neg hg, if_neg hg]; exact .inl ⟨rfl, rfl⟩
def LenE (es : List EvD) : Prop := es.length ≤ 1099511627776 ∧ ∀ e, e ∈ es → e.vers.length ≤ 1099511627776 ∧ ∀ v, v ∈ e.vers → v.steps.length ≤ 1099511627776 ∧ ∀ d, d ∈ v.steps → d.val.length ≤ 1099511627776
section
variable {w : World} {A : Option Addr}
theorem at_S2 {xs : List StD} (h : Kd.C kS w A xs.length xs) (i : Nat) (hi : i < xs.length) : ∃ ad B c, A = some ad ∧ xs[i].val.length ≤ c ∧ Kd.C k46 w B xs[i].val.length xs[i].val ∧ ∀ w', Below w.heap.size w w' → w'.cell? (ad.add (i * 8)) = some (.int .i64 xs[i].k) ∧ w'.cell? ⟨(ad.add (i * 8)).block, (ad.add (i * 8)).off + 1, none⟩ = some (.string xs[i].a) ∧ w'.cell? ⟨(ad.add (i * 8)).block, (ad.add (i * 8)).off + 2, none⟩ = some (.string xs[i].b) ∧ w'.cell? ⟨(ad.add (i * 8)).block, (ad.add (i * 8)).off + 3, none⟩ = some (.string xs[i].c) ∧ w'.cell? ⟨(ad.add (i * 8)).block, (ad.add (i * 8)).off + 4, none⟩ = some (.string xs[i].sep) ∧ w'.cell? ⟨(ad.add (i * 8)).block, (ad.add (i * 8)).off + 5, none⟩ = some (.string xs[i].ty) ∧ w'.cell? ⟨(ad.add (i * 8)).block, (ad.add (i * 8)).off + 6, none⟩ = some (.slice B xs[i].val.length c) ∧ w'.cell? ⟨(ad.add (i * 8)).block, (ad.add (i * 8)).off + 7, none⟩ = some (.int .i64 xs[i].pl) := by
  obtain ⟨ad, cs, e, _, hK, hc0⟩ := Kd.C_get h xs[i] (i : Int) (by omega) (by omega)
  rw [Int.toNat_natCast] at hK hc0
  rw [List.getD_eq_getElem?_getD, List.getElem?_eq_getElem hi, Option.getD_some] at hK
  have hc : ∀ j u, cs[j]? = some u → w.cell? (ad.add (i * 8 + j)) = some u := hc0
  obtain ⟨_, _, rfl, rfl, ⟨_, _, rfl, rfl, ⟨_, _, rfl, rfl, ⟨_, _, rfl, rfl, ⟨_, _, rfl, rfl, ⟨_, _, rfl, rfl, ⟨_, _, rfl, ⟨B, c, rfl, hcc, hC⟩, rfl⟩⟩⟩⟩⟩⟩⟩ := hK
  refine ⟨ad, B, c, e, hcc, hC, fun w' hb => ⟨cell_below (hc 0 _ rfl) hb, ?_, ?_, ?_, ?_, ?_, ?_, ?_⟩⟩
  · rw [← add_field _ _ 1 (by omega)]; exact cell_below (hc 1 _ rfl) hb
  · rw [← add_field _ _ 2 (by omega)]; exact cell_below (hc 2 _ rfl) hb
  · rw [← add_field _ _ 3 (by omega)]; exact cell_below (hc 3 _ rfl) hb
  · rw [← add_field _ _ 4 (by omega)]; exact cell_below (hc 4 _ rfl) hb
  · rw [← add_field _ _ 5 (by omega)]; exact cell_below (hc 5 _ rfl) hb
  · rw [← add_field _ _ 6 (by omega)]; exact cell_below (hc 6 _ rfl) hb
  · rw [← add_field _ _ 7 (by omega)]; exact cell_below (hc 7 _ rfl) hb
end
set_option maxHeartbeats 8000000 in
set_option maxRecDepth 100000 in
theorem rtree_calls (w : World) (A : Option Addr) (c : Nat) (es : List EvD) (hC : Kd.C kE w A es.length es) (hbd : LenE es) :
    Calls Tryd.prog 41 #[.agg #[.slice A es.length c]] w fun e w' => (∃ (ok : Bool) (top : Nat), e = .returned (.tuple #[.bool ok, .int .i64 (top : Int)]) ∧ (if ok = true then cd top else 1) = wholeE es) ∧ Below w.heap.size w w' := by
  obtain ⟨w0, hw0⟩ : ∃ w0, w0 = w.alloc (.cells #[.slice A es.length c] 24) := ⟨_, rfl⟩
  obtain ⟨g, hg⟩ : ∃ g, g = w.heap.size := ⟨_, rfl⟩
  have hB0 : Below w.heap.size w w0 := by rw [hw0]; exact below_alloc (Below.refl _ _) _
  have HX0 := Aside0.mk (show w0.heap[g]? = some (.cells #[.slice A es.length c] 24 (0, 0)) by rw [hw0, hg]; exact blk_new _ _)
  have HC := Aside0.mk hC
  have HBD := Aside0.mk hbd
  have HB0 := Aside0.mk hB0
  have HE0 := Aside0.mk hw0
  have HG := Aside0.mk hg
  clear hC hbd hB0 hw0
  go_enter Tryd.func41, Tryd.ntmps41
  go_wp2
  rw [← HE0.out, ← hg]
  clear hg
  go_loopw [4, 5] (fun t4 ti wr => ∃ (i top : Nat), ti = .int .i64 (i : Int) ∧ t4 = .int .i64 (top : Int) ∧ Aside0 (i ≤ es.length) ∧ Aside0 (cd top = allE evE (es.take i)) ∧ Aside0 (Below w0.heap.size w0 wr)) (fun _ ti _ => es.length - left ti)
  case atStart => exact ⟨0, 0, rfl, rfl, ⟨Nat.zero_le _⟩, ⟨rfl⟩, ⟨Below.refl _ _⟩⟩
  case round =>
    obtain ⟨i, top, rfl, rfl, hi, HX, HB⟩ := hrel
    rename World => wa
    have y0 := (blk_cell (blk_below HX0.out HB.out) 0).trans rfl
    have HBw := Aside0.mk (below_step HB0.out HB.out)
    by_cases ci : i < es.length
    · have c1 : decide ((i : Int) < (es.length : Int)) = true := decide_eq_true (by omega)
      have c2 : decide (i < es.length) = true := decide_eq_true ci
      obtain ⟨ad, Bv, cv, rfl, hCv, hx⟩ := at_E' (Kd.C_below HC.out HBw.out) i ci
      obtain ⟨hx0, hx1, hx2⟩ := hx wa (Below.refl _ _)
      have HI := Aside0.mk ci
      have HNX := Aside0.mk (P.allE_next evE es i ci)
      have HBA := Aside0.mk (fun h => P.allE_bad evE es i ci h)
      have HBD1 := Aside0.mk (HBD.out.2 es[i] (List.getElem_mem ci))
      obtain ⟨ev, hev⟩ : ∃ ev, ev = es[i] := ⟨_, rfl⟩
      rw [← hev] at hx0 hx1 hx2 hCv HNX HBA HBD1
      clear hev hx
      have HCV := Aside0.mk hCv
      obtain ⟨w1, hw1⟩ : ∃ w1, w1 = wa.alloc (.cells #[.string ev.name, .slice Bv ev.vers.length cv, .int .i64 ev.pl] 50) := ⟨_, rfl⟩
      have hb1 : Below wa.heap.size wa w1 := by rw [hw1]; exact below_alloc (Below.refl _ _) _
      obtain ⟨b1, hbq⟩ : ∃ b1, b1 = wa.heap.size := ⟨_, rfl⟩
      have HX1 := Aside0.mk (show w1.heap[b1]? = some (.cells #[.string ev.name, .slice Bv ev.vers.length cv, .int .i64 ev.pl] 50 (0, 0)) from by rw [hw1, hbq]; exact blk_new _ _)
      have HB1 := Aside0.mk (below_step HB.out hb1)
      have HBw1 := Aside0.mk (below_step HBw.out hb1)
      have HCV1 := Aside0.mk (Kd.C_below hCv hb1)
      have HE1 := Aside0.mk hw1
      have z0 := (blk_cell HX1.out 0).trans rfl
      clear hw1 hb1 hCv
      go_wp2_with fail
      rw [← HE1.out, ← hbq]
      clear hbq z0 hx0 hx1 hx2 y0
      obtain ⟨nb, hnb⟩ : ∃ nb, nb = nameB ev.name := ⟨_, rfl⟩
      have hnc := rname_calls ev.name w1
      rw [← hnb] at hnc
      have HNB := Aside0.mk hnb.symm
      refine hnc.mono ?_
      rintro e w2 ⟨rfl, hb2⟩
      have HB2 := Aside0.mk (below_step HB1.out hb2)
      have HBw2 := Aside0.mk (below_step HBw1.out hb2)
      have HX2 := Aside0.mk (blk_below HX1.out hb2)
      have HCV2 := Aside0.mk (Kd.C_below HCV1.out hb2)
      have y1 := (blk_cell HX2.out 1).trans rfl
      clear hb2 hnc hnb
      cases nb with
      | false =>
        have HBAD : Aside0 (wholeE es = 1) := ⟨HBA.out (by unfold evE; rw [if_neg (fun h => by rw [HNB.out] at h; cases h.1)])⟩
        go_wp2_with fail
        go_ret2
        exact ⟨⟨false, 0, rfl, HBAD.out.symm⟩, HBw2.out⟩
      | true =>
        by_cases cz : ev.vers.length = 0
        · have z1 : ((ev.vers.length : Int) == 0) = true := by rw [beq_iff_eq]; omega
          have z2 : (ev.vers.length == 0) = true := beq_iff_eq.2 cz
          have HBAD : Aside0 (wholeE es = 1) := ⟨HBA.out (by unfold evE; rw [if_neg (fun h => h.2 cz)])⟩
          clear cz
          go_wp2_with fail
          go_ret2
          exact ⟨⟨false, 0, rfl, HBAD.out.symm⟩, HBw2.out⟩
        have z1 : ((ev.vers.length : Int) == 0) = false := by rw [beq_eq_false_iff_ne]; omega
        have z2 : (ev.vers.length == 0) = false := beq_eq_false_iff_ne.2 cz
        have HEV : Aside0 (evE ev = allE veE ev.vers) := ⟨by unfold evE; rw [if_pos ⟨HNB.out, cz⟩]⟩
        clear cz
        have W1 : Aside0 (wrap64 ((i : Int) + 1) = ((i + 1 : Nat) : Int)) := ⟨by have := HBD.out.1; have := HI.out; unfold wrap64; omega⟩
        go_wp2_with fail
        clear y1
        go_loopw [4, 7] (fun t4 ti wr => ∃ (k tp : Nat), ti = .int .i64 (k : Int) ∧ t4 = .int .i64 (tp : Int) ∧ Aside0 (k ≤ ev.vers.length) ∧ Aside0 (cd tp = wrs (cd top) (allE veE (ev.vers.take k))) ∧ Aside0 (Below w2.heap.size w2 wr)) (fun _ ti _ => ev.vers.length - left ti)
        case atStart => exact ⟨0, top, rfl, rfl, ⟨Nat.zero_le _⟩, ⟨(wrs_nil (cd_ok top)).symm⟩, ⟨Below.refl _ _⟩⟩
        case round =>
          obtain ⟨k, tp, rfl, rfl, hk, HX2', HBk⟩ := hrel
          rename World => wb
          have y1 := (blk_cell (blk_below HX2.out HBk.out) 1).trans rfl
          by_cases ck : k < ev.vers.length
          · have d1 : decide ((k : Int) < (ev.vers.length : Int)) = true := decide_eq_true (by omega)
            have d2 : decide (k < ev.vers.length) = true := decide_eq_true ck
            have HCVb := Aside0.mk (Kd.C_below HCV2.out HBk.out)
            obtain ⟨av, Bs, cs, hAv, hCs, hvv⟩ := at_V' HCVb.out k ck
            subst hAv
            have HK := Aside0.mk ck
            have HNV := Aside0.mk (P.allE_next veE ev.vers k ck)
            have HBV := Aside0.mk (fun h => P.allE_bad veE ev.vers k ck h)
            have HBD2 := Aside0.mk (HBD1.out.2 ev.vers[k] (List.getElem_mem ck))
            obtain ⟨ve, hve⟩ : ∃ ve, ve = ev.vers[k] := ⟨_, rfl⟩
            rw [← hve] at hvv hCs HNV HBV HBD2
            clear hve
            have HVV := Aside0.mk hvv
            have HCS := Aside0.mk hCs
            have W2 : Aside0 (wrap64 ((k : Int) + 1) = ((k + 1 : Nat) : Int)) := ⟨by have := HBD1.out.1; have := HK.out; unfold wrap64; omega⟩
            clear hvv hCs
            go_wp2_with fail
            clear y1
            go_loopw [4, 8] (fun t4 ti wr => ∃ (j tq : Nat), ti = .int .i64 (j : Int) ∧ t4 = .int .i64 (tq : Int) ∧ Aside0 (j ≤ ve.steps.length) ∧ Aside0 (cd tq = wrs (cd tp) (allE stE (ve.steps.take j))) ∧ Aside0 (Below wb.heap.size wb wr)) (fun _ ti _ => ve.steps.length - left ti)
            case atStart => exact ⟨0, tp, rfl, rfl, ⟨Nat.zero_le _⟩, ⟨(wrs_nil (cd_ok tp)).symm⟩, ⟨Below.refl _ _⟩⟩
            case round =>
              obtain ⟨j, tq, rfl, rfl, hj, HX3, HBj⟩ := hrel
              rename World => wc
              have HBkj := Aside0.mk (below_step HBk.out HBj.out)
              have y1 := (blk_cell (blk_below HX2.out HBkj.out) 1).trans rfl
              obtain ⟨hv0, hv1, hv2⟩ := HVV.out wc HBj.out
              have hkl : k < ev.vers.length := HK.out
              by_cases cj : j < ve.steps.length
              · have f1 : decide ((j : Int) < (ve.steps.length : Int)) = true := decide_eq_true (by omega)
                have f2 : decide (j < ve.steps.length) = true := decide_eq_true cj
                obtain ⟨ast, Bn, cn, hAs, hcn, hCn, hss⟩ := at_S2 (Kd.C_below HCS.out HBj.out) j cj
                subst hAs
                obtain ⟨hs0, hs1, hs2, hs3, hs4, hs5, hs6, hs7⟩ := hss wc (Below.refl _ _)
                have HJ := Aside0.mk cj
                have HNS := Aside0.mk (P.allE_next stE ve.steps j cj)
                have HBS := Aside0.mk (fun h => P.allE_bad stE ve.steps j cj h)
                have HBD3 := Aside0.mk (HBD2.out.2 ve.steps[j] (List.getElem_mem cj))
                obtain ⟨st, hst⟩ : ∃ st, st = ve.steps[j] := ⟨_, rfl⟩
                rw [← hst] at hs0 hs1 hs2 hs3 hs4 hs5 hs6 hs7 hCn hcn HNS HBS HBD3
                clear hst hss
                have W3 : Aside0 (wrap64 ((j : Int) + 1) = ((j + 1 : Nat) : Int)) := ⟨by have := HBD2.out.1; have := HJ.out; unfold wrap64; omega⟩
                have HRS := Aside0.mk (rstep_calls wc st Bn cn hCn hcn HBD3.out)
                have HRC := Aside0.mk (rst_cases st)
                have HCHAIN : Aside0 (stE st = 1 → wholeE es = 1) := ⟨fun h => HBA.out (by rw [HEV.out]; exact HBV.out (HBS.out h))⟩
                clear hCn hcn
                obtain ⟨⟨okb, dI⟩, hp⟩ : ∃ p, p = rst st := ⟨_, rfl⟩
                rw [← hp] at HRS HRC
                clear hp
                go_wp2_with fail
                refine HRS.out.mono ?_
                rintro e w5 ⟨rfl, hb5⟩
                have HB5 := Aside0.mk (below_step HBj.out hb5)
                have HBW := Aside0.mk (below_step HBw2.out (below_step HBkj.out hb5))
                clear hb5 hs0 hs1 hs2 hs3 hs4 hs5 hs6 hs7 hv0 hv1 hv2 y1 hkl
                rcases HRC.out with ⟨h1, h2⟩ | ⟨n, h1, h2⟩
                · have h1' : okb = false := h1
                  subst h1'
                  have HBAD := Aside0.mk (HCHAIN.out h2)
                  clear h2
                  go_wp2_with fail
                  go_ret2
                  exact ⟨⟨false, 0, rfl, HBAD.out.symm⟩, HBW.out⟩
                · injection h1 with h1 h3
                  subst h1 h3
                  have HSN := Aside0.mk h2
                  clear h2
                  by_cases cm : tq < n
                  · have m1 : decide ((n : Int) > (tq : Int)) = true := decide_eq_true (by omega)
                    have m2 : decide (tq < n) = true := decide_eq_true cm
                    have HMX : Aside0 (max tq n = n) := ⟨by omega⟩
                    clear cm
                    go_wp2_with fail
                    rw [W3.out]
                    go_roundw
                    case measure => have := HJ.out; simp only [left, Int.toNat_natCast]; omega
                    case rel => exact ⟨j + 1, n, rfl, rfl, ⟨HJ.out⟩, ⟨by rw [HNS.out, ← wrs_assoc, ← HX3.out, HSN.out, wrs_cd, HMX.out]⟩, HB5⟩
                  · have m1 : decide ((n : Int) > (tq : Int)) = false := decide_eq_false (by omega)
                    have m2 : decide (tq < n) = false := decide_eq_false cm
                    have HMX : Aside0 (max tq n = tq) := ⟨by omega⟩
                    clear cm
                    go_wp2_with fail
                    rw [W3.out]
                    go_roundw
                    case measure => have := HJ.out; simp only [left, Int.toNat_natCast]; omega
                    case rel => exact ⟨j + 1, tq, rfl, rfl, ⟨HJ.out⟩, ⟨by rw [HNS.out, ← wrs_assoc, ← HX3.out, HSN.out, wrs_cd, HMX.out]⟩, HB5⟩
              · have f1 : decide ((j : Int) < (ve.steps.length : Int)) = false := decide_eq_false (by omega)
                have f2 : decide (j < ve.steps.length) = false := decide_eq_false cj
                have HJE : Aside0 (ve.steps.take j = ve.steps) := ⟨List.take_of_length_le (by omega)⟩
                go_wp2_with fail
                rw [W2.out]
                go_roundw
                case measure => have := HK.out; simp only [left, Int.toNat_natCast]; omega
                case rel =>
                  refine ⟨k + 1, tq, rfl, rfl, ⟨HK.out⟩, ⟨?_⟩, HBkj⟩
                  rw [HNV.out, ← wrs_assoc, ← HX2'.out, show veE ve = allE stE ve.steps from rfl, HX3.out, HJE.out]
          · have d1 : decide ((k : Int) < (ev.vers.length : Int)) = false := decide_eq_false (by omega)
            have d2 : decide (k < ev.vers.length) = false := decide_eq_false ck
            have HKE : Aside0 (ev.vers.take k = ev.vers) := ⟨List.take_of_length_le (by omega)⟩
            go_wp2_with fail
            rw [W1.out]
            go_roundw
            case measure => have := HI.out; simp only [left, Int.toNat_natCast]; omega
            case rel =>
              refine ⟨i + 1, tp, rfl, rfl, ⟨HI.out⟩, ⟨?_⟩, ⟨below_step HB2.out HBk.out⟩⟩
              rw [HNX.out, HEV.out, ← HX.out, HX2'.out, HKE.out]
    · have c1 : decide ((i : Int) < (es.length : Int)) = false := decide_eq_false (by omega)
      have c2 : decide (i < es.length) = false := decide_eq_false ci
      have HIE : Aside0 (es.take i = es) := ⟨List.take_of_length_le (by omega)⟩
      go_wp2_with fail
      go_ret2
      exact ⟨⟨true, top, rfl, by rw [if_pos rfl, HX.out, HIE.out]; rfl⟩, HBw.out⟩
end Go.Proofs.YtaijoghpfobdbaaDoor.W
end
