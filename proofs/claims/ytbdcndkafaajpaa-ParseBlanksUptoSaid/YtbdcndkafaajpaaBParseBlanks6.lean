/- The texts of the law ParseBlanks, put together by a program of this workplace out of its own texts and of what the kit's print has written: walks of the functions, plain laws. No condition but those in the theorems. -/
import Derived.Test.YtbdcndkafaajpaaBParseBlanks0
import Derived.Test.YtbdcndkafaajpaaBParseBlanks1
import Derived.Test.YtbdcndkafaajpaaBParseBlanks2
import Derived.Test.YtbdcndkafaajpaaBParseBlanks3
import Derived.Test.YtbdcndkafaajpaaBParseBlanks4
import Derived.Test.YtbdcndkafaajpaaBParseBlanks5
section
namespace Go.Proofs.Ytbdcndkafaajpaa.X
open Go.RowKit Go.Proofs.YtbdcndkafaajpaaW.PrintWords Go.Proofs.YtbdcndkafaajpaaW.PrintLast Go.Proofs.YtbdcndkafaajpaaW.PrintMore
attribute [local go_sem] max2_int min2_int max_two min_two max_three min_three max_four min_four   -- for this text's walks alone
set_option linter.unusedVariables false
set_option linter.unusedSimpArgs false
def stratumref08_token.f (k : Nat) (a0 : ByteArray) (a1 : Int) : Option (Int × ByteArray × Int × Int × Int × Int × Int) := if 0 ≤ a1 then (if a1 < (a0.size : Int) then ((stratumref08_letter.f (bt a0 a1)).bind fun t169 => (if t169 = true then ((stratumref08_word.f k a0 a1).bind fun bt170 => (some (bt170.1, bt170.2.1, bt170.2.2.1, bt170.2.2.2.1, bt170.2.2.2.2.1, bt170.2.2.2.2.2.1, bt170.2.2.2.2.2.2))) else ((stratumref08_digit.f (bt a0 a1)).bind fun t177 => (if t177 = true then ((stratumref08_number.f k a0 a1).bind fun bt178 => (some (bt178.1, bt178.2.1, bt178.2.2.1, bt178.2.2.2.1, bt178.2.2.2.2.1, bt178.2.2.2.2.2.1, bt178.2.2.2.2.2.2))) else (if (bt a0 a1) = 34 then ((stratumref08_text.f k a0 a1).bind fun bt185 => (some (bt185.1, bt185.2.1, bt185.2.2.1, bt185.2.2.2.1, bt185.2.2.2.2.1, bt185.2.2.2.2.2.1, bt185.2.2.2.2.2.2))) else ((stratumref08_Mark.f k (bt a0 a1)).bind fun t192 => (if t192 = true then (if a1 ≤ (wrap64 (a1 + 1)) then (if (wrap64 (a1 + 1)) ≤ (a0.size : Int) then (some (4, a0.extract (a1 : Int).toNat ((wrap64 (a1 + 1)) : Int).toNat, 0, a1, wrap64 (a1 + 1), 0, 0)) else (none)) else (none)) else (some (0, (⟨#[]⟩ : ByteArray), 0, 0, 0, a1, 80))))))))) else (none)) else (none)
theorem stratumref08_token.mono : ∀ a0 a1 k, LeO (stratumref08_token.f k a0 a1) (stratumref08_token.f (k + 1) a0 a1) := by
  intro a0 a1 k
  unfold stratumref08_token.f
  repeat' first
      | (with_reducible exact stratumref08_Mark.mono _ _)
      | (with_reducible exact stratumref08_number.mono _ _ _)
      | (with_reducible exact stratumref08_text.mono _ _ _)
      | (with_reducible exact stratumref08_word.mono _ _ _)
      | (with_reducible exact LeO.refl _)
      | (with_reducible exact LeO.none _)
      | (with_reducible refine LeO.ite ?_ ?_)
      | (with_reducible refine LeO.bind ?_ (fun _ => ?_))
      | exact stratumref08_Mark.mono _ _
      | exact stratumref08_number.mono _ _ _
      | exact stratumref08_text.mono _ _ _
      | exact stratumref08_word.mono _ _ _
      | exact LeO.none _
      | refine LeO.ite ?_ ?_
      | refine LeO.bind ?_ (fun _ => ?_)
set_option maxHeartbeats 8000000 in
set_option maxRecDepth 100000 in
theorem stratumref08_token.calls (k : Nat) (a0 : ByteArray) (a1 : Int) (r1 : Int) (r2 : ByteArray) (r3 : Int) (r4 : Int) (r5 : Int) (r6 : Int) (r7 : Int) (w : World) (h : stratumref08_token.f k a0 a1 = some (r1, r2, r3, r4, r5, r6, r7)) :
    Calls Try.prog 42 #[.string a0, .int .i64 a1] w fun e w' => e = .returned (.tuple #[.agg #[.int .i64 r1, .string r2, .int .u64 r3, .int .i64 r4, .int .i64 r5], .int .i64 r6, .int .i64 r7]) ∧ Below w.heap.size w w' := by
  have hu47 := Try.underlying47
  have HB := Aside0.mk (Below.refl w.heap.size w)
  have H : (if 0 ≤ a1 then (if a1 < (a0.size : Int) then ((stratumref08_letter.f (bt a0 a1)).bind fun t169 => (if t169 = true then ((stratumref08_word.f k a0 a1).bind fun bt170 => (some (bt170.1, bt170.2.1, bt170.2.2.1, bt170.2.2.2.1, bt170.2.2.2.2.1, bt170.2.2.2.2.2.1, bt170.2.2.2.2.2.2))) else ((stratumref08_digit.f (bt a0 a1)).bind fun t177 => (if t177 = true then ((stratumref08_number.f k a0 a1).bind fun bt178 => (some (bt178.1, bt178.2.1, bt178.2.2.1, bt178.2.2.2.1, bt178.2.2.2.2.1, bt178.2.2.2.2.2.1, bt178.2.2.2.2.2.2))) else (if (bt a0 a1) = 34 then ((stratumref08_text.f k a0 a1).bind fun bt185 => (some (bt185.1, bt185.2.1, bt185.2.2.1, bt185.2.2.2.1, bt185.2.2.2.2.1, bt185.2.2.2.2.2.1, bt185.2.2.2.2.2.2))) else ((stratumref08_Mark.f k (bt a0 a1)).bind fun t192 => (if t192 = true then (if a1 ≤ (wrap64 (a1 + 1)) then (if (wrap64 (a1 + 1)) ≤ (a0.size : Int) then (some (4, a0.extract (a1 : Int).toNat ((wrap64 (a1 + 1)) : Int).toNat, 0, a1, wrap64 (a1 + 1), 0, 0)) else (none)) else (none)) else (some (0, (⟨#[]⟩ : ByteArray), 0, 0, 0, a1, 80))))))))) else (none)) else (none)) = some (r1, r2, r3, r4, r5, r6, r7) := h
  clear h
  by_cases c3 : 0 ≤ a1
  · rw [if_pos c3] at H
    have c3b0 : decide (0 ≤ a1) = true := decide_eq_true c3
    clear c3
    by_cases c4 : a1 < (a0.size : Int)
    · rw [if_pos c4] at H
      have c4b0 : decide (a1 < (a0.size : Int)) = true := decide_eq_true c4
      clear c4
      replace H := Option.bind_eq_some_iff.mp H
      obtain ⟨t169, A60, H⟩ := H
      replace H : (if t169 = true then ((stratumref08_word.f k a0 a1).bind fun bt170 => (some (bt170.1, bt170.2.1, bt170.2.2.1, bt170.2.2.2.1, bt170.2.2.2.2.1, bt170.2.2.2.2.2.1, bt170.2.2.2.2.2.2))) else ((stratumref08_digit.f (bt a0 a1)).bind fun t177 => (if t177 = true then ((stratumref08_number.f k a0 a1).bind fun bt178 => (some (bt178.1, bt178.2.1, bt178.2.2.1, bt178.2.2.2.1, bt178.2.2.2.2.1, bt178.2.2.2.2.2.1, bt178.2.2.2.2.2.2))) else (if (bt a0 a1) = 34 then ((stratumref08_text.f k a0 a1).bind fun bt185 => (some (bt185.1, bt185.2.1, bt185.2.2.1, bt185.2.2.2.1, bt185.2.2.2.2.1, bt185.2.2.2.2.2.1, bt185.2.2.2.2.2.2))) else ((stratumref08_Mark.f k (bt a0 a1)).bind fun t192 => (if t192 = true then (if a1 ≤ (wrap64 (a1 + 1)) then (if (wrap64 (a1 + 1)) ≤ (a0.size : Int) then (some (4, a0.extract (a1 : Int).toNat ((wrap64 (a1 + 1)) : Int).toNat, 0, a1, wrap64 (a1 + 1), 0, 0)) else (none)) else (none)) else (some (0, (⟨#[]⟩ : ByteArray), 0, 0, 0, a1, 80)))))))) = some (r1, r2, r3, r4, r5, r6, r7) := H
      have A6 := Aside0.mk A60
      clear A60
      by_cases c7 : t169 = true
      · subst c7
        have H1 : ((stratumref08_word.f k a0 a1).bind fun bt170 => (some (bt170.1, bt170.2.1, bt170.2.2.1, bt170.2.2.2.1, bt170.2.2.2.2.1, bt170.2.2.2.2.2.1, bt170.2.2.2.2.2.2))) = some (r1, r2, r3, r4, r5, r6, r7) := by rw [if_pos rfl] at H; exact H
        clear H
        have H := H1
        clear H1
        replace H := Option.bind_eq_some_iff.mp H
        obtain ⟨⟨t170, t171, t172, t173, t174, t175, t176⟩, A80, H⟩ := H
        replace H : (some (t170, t171, t172, t173, t174, t175, t176)) = some (r1, r2, r3, r4, r5, r6, r7) := H
        have A8 := Aside0.mk A80
        clear A80
        simp only [Option.some.injEq, Prod.mk.injEq] at H
        obtain ⟨rfl, rfl, rfl, rfl, rfl, rfl, rfl⟩ := H
        go_enter Try.func42, Try.ntmps42
        go_wp2_with (first | ((with_reducible refine gate_dst (N := 4) rfl ?_); refine box_event ?hg (N := 4) ?hd (cs := #[.int .i64 0, .string (⟨#[]⟩ : ByteArray), .int .u64 0, .int .i64 0, .int .i64 0]) (t := 47) ?hr ?_; (case hd => rfl); (case hg => rfl); (case hr => first | (go_simp; done) | (go_simp; rfl)); intro gb168 hg w9 hbox hb; have n0_ := Aside0.mk (below_step (by repeat (first | (with_reducible first | exact HB.out | apply below_alloc | apply pw_below_drewN | apply below_drew1) | exact HB.out)) hb); have n1_ := Aside0.mk (hbox); have n2_ := Aside0.mk ((by rw [hg]; exact (below_size (by repeat (first | (with_reducible first | exact HB.out | apply below_alloc | apply pw_below_drewN | apply below_drew1) | exact HB.out))) : w.heap.size ≤ gb168)); have n3_ := Aside0.mk ((by rw [hg]; exact (below_size (by repeat (first | (with_reducible first | exact HB.out | apply below_alloc | apply pw_below_drewN | apply below_drew1) | exact HB.out))) : w.heap.size ≤ gb168)); clear HB; have HB := n0_; have BK168 := n1_; have GW168 := n2_; have GE168 := n3_; clear n0_ n1_ n2_ n3_; clear hb hbox hg; have p5 : 0 ≤ (a1 : Int) := of_decide_eq_true (by first | (with_reducible assumption) | assumption); have q5 : a1 < (a0.size : Int) := of_decide_eq_true (by first | (with_reducible assumption) | assumption); have hx5 := bt_at a0 a1; replace p5 := eq_true p5; replace q5 := eq_true q5) | ((with_reducible refine gate_callee (f := 64) rfl ?_); refine goesL_ (some 13) rfl rfl Try.func64 (by kernel_rfl) rfl #[.int .u8 (bt a0 a1)] rfl (by (try simp only [List.map_toArray, List.map_cons, List.map_nil]); first | done | rfl | (simp only [List.length_drop, List.length_take]; rfl)) ?_; (with_reducible refine (stratumref08_letter.calls (bt a0 a1) true _ A6.out).mono ?_); rintro e w' ⟨rfl, ⟨nd, rfl⟩⟩; refine ⟨_, rfl, ?_⟩; (try (rw [drewN_self w9]; generalize hq_ : World.drewN w9 _ = w9; have n0_ : Aside0 (w9.heap[gb168]? = some (.cells #[.int .i64 0, .string (⟨#[]⟩ : ByteArray), .int .u64 0, .int .i64 0, .int .i64 0] 47 (0, 0))) := ⟨by rw [← hq_]; exact (by (with_reducible repeat (first | refine blk_drewN ?_ _ | refine blk_drew ?_ | refine blk_alloc ?_ _)); exact BK168.out)⟩; have n1_ : Aside0 (Below w.heap.size w w9) := ⟨by rw [← hq_]; exact (by repeat (first | (with_reducible first | exact HB.out | apply below_alloc | apply pw_below_drewN | apply below_drew1 | refine below_set ?_ GE168.out) | exact HB.out))⟩; clear BK168 HB hq_; have BK168 := n0_; have HB := n1_; clear n0_ n1_))) | ((with_reducible refine gate_callee (f := 65) rfl ?_); refine goesL_ (some 16) rfl rfl Try.func65 (by kernel_rfl) rfl #[.string a0, .int .i64 a1] rfl (by (try simp only [List.map_toArray, List.map_cons, List.map_nil]); first | done | rfl | (simp only [List.length_drop, List.length_take]; rfl)) ?_; (with_reducible refine (stratumref08_word.calls k a0 a1 t170 t171 t172 t173 t174 t175 t176 _ A8.out).mono ?_); rintro e w10 ⟨rfl, hb⟩; refine ⟨_, rfl, ?_⟩; have n0_ := Aside0.mk (blk_below (g := gb168) (o := .cells #[.int .i64 0, .string (⟨#[]⟩ : ByteArray), .int .u64 0, .int .i64 0, .int .i64 0] 47 (0, 0)) (by (with_reducible repeat (first | refine blk_drewN ?_ _ | refine blk_drew ?_ | refine blk_alloc ?_ _)); exact BK168.out) hb); have n1_ := Aside0.mk (below_step (by repeat (first | (with_reducible first | exact HB.out | apply below_alloc | apply pw_below_drewN | apply below_drew1 | refine below_set ?_ GE168.out) | exact HB.out)) hb); clear BK168; clear HB; have BK168 := n0_; have HB := n1_; clear n0_ n1_; (try clear hb); (try clear hb2); (try clear hk); (try clear hi); have hcz11_0 : w10.cell? ⟨gb168, 0, none⟩ = some (.int .i64 0) := (blk_cell BK168.out 0).trans rfl; have hcz11_1 : w10.cell? ⟨gb168, 1, none⟩ = some (.string (⟨#[]⟩ : ByteArray)) := (blk_cell BK168.out 1).trans rfl; have hcz11_2 : w10.cell? ⟨gb168, 2, none⟩ = some (.int .u64 0) := (blk_cell BK168.out 2).trans rfl; have hcz11_3 : w10.cell? ⟨gb168, 3, none⟩ = some (.int .i64 0) := (blk_cell BK168.out 3).trans rfl; have hcz11_4 : w10.cell? ⟨gb168, 4, none⟩ = some (.int .i64 0) := (blk_cell BK168.out 4).trans rfl; have hfz11_0 := blk_frozen BK168.out 0; have hfz11_1 := blk_frozen BK168.out 1; have hfz11_2 := blk_frozen BK168.out 2; have hfz11_3 := blk_frozen BK168.out 3; have hfz11_4 := blk_frozen BK168.out 4))
        refine bodyPost_ret (results_ctt rfl _ _ gb168 47 #[.int .i64 t170, .string t171, .int .u64 t172, .int .i64 t173, .int .i64 t174] (0, 0) _ rfl (by (with_reducible repeat (first | refine blk_drewN ?_ _ | refine blk_drew ?_ | refine blk_alloc ?_ _)); refine blk_put (cs := #[.int .i64 t170, .string t171, .int .u64 t172, .int .i64 t173, .int .i64 0]) ?_ 4 _ rfl; (with_reducible repeat (first | refine blk_drewN ?_ _ | refine blk_drew ?_ | refine blk_alloc ?_ _)); refine blk_put (cs := #[.int .i64 t170, .string t171, .int .u64 t172, .int .i64 0, .int .i64 0]) ?_ 3 _ rfl; (with_reducible repeat (first | refine blk_drewN ?_ _ | refine blk_drew ?_ | refine blk_alloc ?_ _)); refine blk_put (cs := #[.int .i64 t170, .string t171, .int .u64 0, .int .i64 0, .int .i64 0]) ?_ 2 _ rfl; (with_reducible repeat (first | refine blk_drewN ?_ _ | refine blk_drew ?_ | refine blk_alloc ?_ _)); refine blk_put (cs := #[.int .i64 t170, .string (⟨#[]⟩ : ByteArray), .int .u64 0, .int .i64 0, .int .i64 0]) ?_ 1 _ rfl; (with_reducible repeat (first | refine blk_drewN ?_ _ | refine blk_drew ?_ | refine blk_alloc ?_ _)); refine blk_put (cs := #[.int .i64 0, .string (⟨#[]⟩ : ByteArray), .int .u64 0, .int .i64 0, .int .i64 0]) ?_ 0 _ rfl; (with_reducible repeat (first | refine blk_drewN ?_ _ | refine blk_drew ?_ | refine blk_alloc ?_ _)); exact BK168.out) Try.underlying47 rfl (by kernel_rfl)) rfl ?_
        exact ⟨by first | rfl | (simp [errW_none, errW_some] <;> rfl) | (simp [*, errW_none, errW_some] <;> rfl), by repeat (first | (with_reducible first | exact HB.out | apply below_alloc | apply pw_below_drewN | apply below_drew1 | refine below_set ?_ GE168.out) | exact HB.out)⟩
      · replace c7 := Bool.eq_false_iff.mpr c7
        subst c7
        have H1 : ((stratumref08_digit.f (bt a0 a1)).bind fun t177 => (if t177 = true then ((stratumref08_number.f k a0 a1).bind fun bt178 => (some (bt178.1, bt178.2.1, bt178.2.2.1, bt178.2.2.2.1, bt178.2.2.2.2.1, bt178.2.2.2.2.2.1, bt178.2.2.2.2.2.2))) else (if (bt a0 a1) = 34 then ((stratumref08_text.f k a0 a1).bind fun bt185 => (some (bt185.1, bt185.2.1, bt185.2.2.1, bt185.2.2.2.1, bt185.2.2.2.2.1, bt185.2.2.2.2.2.1, bt185.2.2.2.2.2.2))) else ((stratumref08_Mark.f k (bt a0 a1)).bind fun t192 => (if t192 = true then (if a1 ≤ (wrap64 (a1 + 1)) then (if (wrap64 (a1 + 1)) ≤ (a0.size : Int) then (some (4, a0.extract (a1 : Int).toNat ((wrap64 (a1 + 1)) : Int).toNat, 0, a1, wrap64 (a1 + 1), 0, 0)) else (none)) else (none)) else (some (0, (⟨#[]⟩ : ByteArray), 0, 0, 0, a1, 80))))))) = some (r1, r2, r3, r4, r5, r6, r7) := by rw [if_neg (show ¬ (false = true) by decide)] at H; exact H
        clear H
        have H := H1
        clear H1
        replace H := Option.bind_eq_some_iff.mp H
        obtain ⟨t177, A120, H⟩ := H
        replace H : (if t177 = true then ((stratumref08_number.f k a0 a1).bind fun bt178 => (some (bt178.1, bt178.2.1, bt178.2.2.1, bt178.2.2.2.1, bt178.2.2.2.2.1, bt178.2.2.2.2.2.1, bt178.2.2.2.2.2.2))) else (if (bt a0 a1) = 34 then ((stratumref08_text.f k a0 a1).bind fun bt185 => (some (bt185.1, bt185.2.1, bt185.2.2.1, bt185.2.2.2.1, bt185.2.2.2.2.1, bt185.2.2.2.2.2.1, bt185.2.2.2.2.2.2))) else ((stratumref08_Mark.f k (bt a0 a1)).bind fun t192 => (if t192 = true then (if a1 ≤ (wrap64 (a1 + 1)) then (if (wrap64 (a1 + 1)) ≤ (a0.size : Int) then (some (4, a0.extract (a1 : Int).toNat ((wrap64 (a1 + 1)) : Int).toNat, 0, a1, wrap64 (a1 + 1), 0, 0)) else (none)) else (none)) else (some (0, (⟨#[]⟩ : ByteArray), 0, 0, 0, a1, 80)))))) = some (r1, r2, r3, r4, r5, r6, r7) := H
        have A12 := Aside0.mk A120
        clear A120
        by_cases c13 : t177 = true
        · subst c13
          have H1 : ((stratumref08_number.f k a0 a1).bind fun bt178 => (some (bt178.1, bt178.2.1, bt178.2.2.1, bt178.2.2.2.1, bt178.2.2.2.2.1, bt178.2.2.2.2.2.1, bt178.2.2.2.2.2.2))) = some (r1, r2, r3, r4, r5, r6, r7) := by rw [if_pos rfl] at H; exact H
          clear H
          have H := H1
          clear H1
          replace H := Option.bind_eq_some_iff.mp H
          obtain ⟨⟨t178, t179, t180, t181, t182, t183, t184⟩, A140, H⟩ := H
          replace H : (some (t178, t179, t180, t181, t182, t183, t184)) = some (r1, r2, r3, r4, r5, r6, r7) := H
          have A14 := Aside0.mk A140
          clear A140
          simp only [Option.some.injEq, Prod.mk.injEq] at H
          obtain ⟨rfl, rfl, rfl, rfl, rfl, rfl, rfl⟩ := H
          go_enter Try.func42, Try.ntmps42
          go_wp2_with (first | ((with_reducible refine gate_dst (N := 4) rfl ?_); refine box_event ?hg (N := 4) ?hd (cs := #[.int .i64 0, .string (⟨#[]⟩ : ByteArray), .int .u64 0, .int .i64 0, .int .i64 0]) (t := 47) ?hr ?_; (case hd => rfl); (case hg => rfl); (case hr => first | (go_simp; done) | (go_simp; rfl)); intro gb168 hg w15 hbox hb; have n0_ := Aside0.mk (below_step (by repeat (first | (with_reducible first | exact HB.out | apply below_alloc | apply pw_below_drewN | apply below_drew1) | exact HB.out)) hb); have n1_ := Aside0.mk (hbox); have n2_ := Aside0.mk ((by rw [hg]; exact (below_size (by repeat (first | (with_reducible first | exact HB.out | apply below_alloc | apply pw_below_drewN | apply below_drew1) | exact HB.out))) : w.heap.size ≤ gb168)); have n3_ := Aside0.mk ((by rw [hg]; exact (below_size (by repeat (first | (with_reducible first | exact HB.out | apply below_alloc | apply pw_below_drewN | apply below_drew1) | exact HB.out))) : w.heap.size ≤ gb168)); clear HB; have HB := n0_; have BK168 := n1_; have GW168 := n2_; have GE168 := n3_; clear n0_ n1_ n2_ n3_; clear hb hbox hg; have p5 : 0 ≤ (a1 : Int) := of_decide_eq_true (by first | (with_reducible assumption) | assumption); have q5 : a1 < (a0.size : Int) := of_decide_eq_true (by first | (with_reducible assumption) | assumption); have hx5 := bt_at a0 a1; replace p5 := eq_true p5; replace q5 := eq_true q5) | ((with_reducible refine gate_callee (f := 64) rfl ?_); refine goesL_ (some 13) rfl rfl Try.func64 (by kernel_rfl) rfl #[.int .u8 (bt a0 a1)] rfl (by (try simp only [List.map_toArray, List.map_cons, List.map_nil]); first | done | rfl | (simp only [List.length_drop, List.length_take]; rfl)) ?_; (with_reducible refine (stratumref08_letter.calls (bt a0 a1) false _ A6.out).mono ?_); rintro e w' ⟨rfl, ⟨nd, rfl⟩⟩; refine ⟨_, rfl, ?_⟩; (try (rw [drewN_self w15]; generalize hq_ : World.drewN w15 _ = w15; have n0_ : Aside0 (w15.heap[gb168]? = some (.cells #[.int .i64 0, .string (⟨#[]⟩ : ByteArray), .int .u64 0, .int .i64 0, .int .i64 0] 47 (0, 0))) := ⟨by rw [← hq_]; exact (by (with_reducible repeat (first | refine blk_drewN ?_ _ | refine blk_drew ?_ | refine blk_alloc ?_ _)); exact BK168.out)⟩; have n1_ : Aside0 (Below w.heap.size w w15) := ⟨by rw [← hq_]; exact (by repeat (first | (with_reducible first | exact HB.out | apply below_alloc | apply pw_below_drewN | apply below_drew1 | refine below_set ?_ GE168.out) | exact HB.out))⟩; clear BK168 HB hq_; have BK168 := n0_; have HB := n1_; clear n0_ n1_))) | ((with_reducible refine gate_callee (f := 66) rfl ?_); refine goesL_ (some 22) rfl rfl Try.func66 (by kernel_rfl) rfl #[.int .u8 (bt a0 a1)] rfl (by (try simp only [List.map_toArray, List.map_cons, List.map_nil]); first | done | rfl | (simp only [List.length_drop, List.length_take]; rfl)) ?_; (with_reducible refine (stratumref08_digit.calls (bt a0 a1) true _ A12.out).mono ?_); rintro e w' ⟨rfl, ⟨nd, rfl⟩⟩; refine ⟨_, rfl, ?_⟩; (try (rw [drewN_self w15]; generalize hq_ : World.drewN w15 _ = w15; have n0_ : Aside0 (w15.heap[gb168]? = some (.cells #[.int .i64 0, .string (⟨#[]⟩ : ByteArray), .int .u64 0, .int .i64 0, .int .i64 0] 47 (0, 0))) := ⟨by rw [← hq_]; exact (by (with_reducible repeat (first | refine blk_drewN ?_ _ | refine blk_drew ?_ | refine blk_alloc ?_ _)); exact BK168.out)⟩; have n1_ : Aside0 (Below w.heap.size w w15) := ⟨by rw [← hq_]; exact (by repeat (first | (with_reducible first | exact HB.out | apply below_alloc | apply pw_below_drewN | apply below_drew1 | refine below_set ?_ GE168.out) | exact HB.out))⟩; clear BK168 HB hq_; have BK168 := n0_; have HB := n1_; clear n0_ n1_))) | ((with_reducible refine gate_callee (f := 67) rfl ?_); refine goesL_ (some 25) rfl rfl Try.func67 (by kernel_rfl) rfl #[.string a0, .int .i64 a1] rfl (by (try simp only [List.map_toArray, List.map_cons, List.map_nil]); first | done | rfl | (simp only [List.length_drop, List.length_take]; rfl)) ?_; (with_reducible refine (stratumref08_number.calls k a0 a1 t178 t179 t180 t181 t182 t183 t184 _ A14.out).mono ?_); rintro e w16 ⟨rfl, hb⟩; refine ⟨_, rfl, ?_⟩; have n0_ := Aside0.mk (blk_below (g := gb168) (o := .cells #[.int .i64 0, .string (⟨#[]⟩ : ByteArray), .int .u64 0, .int .i64 0, .int .i64 0] 47 (0, 0)) (by (with_reducible repeat (first | refine blk_drewN ?_ _ | refine blk_drew ?_ | refine blk_alloc ?_ _)); exact BK168.out) hb); have n1_ := Aside0.mk (below_step (by repeat (first | (with_reducible first | exact HB.out | apply below_alloc | apply pw_below_drewN | apply below_drew1 | refine below_set ?_ GE168.out) | exact HB.out)) hb); clear BK168; clear HB; have BK168 := n0_; have HB := n1_; clear n0_ n1_; (try clear hb); (try clear hb2); (try clear hk); (try clear hi); have hcz17_0 : w16.cell? ⟨gb168, 0, none⟩ = some (.int .i64 0) := (blk_cell BK168.out 0).trans rfl; have hcz17_1 : w16.cell? ⟨gb168, 1, none⟩ = some (.string (⟨#[]⟩ : ByteArray)) := (blk_cell BK168.out 1).trans rfl; have hcz17_2 : w16.cell? ⟨gb168, 2, none⟩ = some (.int .u64 0) := (blk_cell BK168.out 2).trans rfl; have hcz17_3 : w16.cell? ⟨gb168, 3, none⟩ = some (.int .i64 0) := (blk_cell BK168.out 3).trans rfl; have hcz17_4 : w16.cell? ⟨gb168, 4, none⟩ = some (.int .i64 0) := (blk_cell BK168.out 4).trans rfl; have hfz17_0 := blk_frozen BK168.out 0; have hfz17_1 := blk_frozen BK168.out 1; have hfz17_2 := blk_frozen BK168.out 2; have hfz17_3 := blk_frozen BK168.out 3; have hfz17_4 := blk_frozen BK168.out 4))
          refine bodyPost_ret (results_ctt rfl _ _ gb168 47 #[.int .i64 t178, .string t179, .int .u64 t180, .int .i64 t181, .int .i64 t182] (0, 0) _ rfl (by (with_reducible repeat (first | refine blk_drewN ?_ _ | refine blk_drew ?_ | refine blk_alloc ?_ _)); refine blk_put (cs := #[.int .i64 t178, .string t179, .int .u64 t180, .int .i64 t181, .int .i64 0]) ?_ 4 _ rfl; (with_reducible repeat (first | refine blk_drewN ?_ _ | refine blk_drew ?_ | refine blk_alloc ?_ _)); refine blk_put (cs := #[.int .i64 t178, .string t179, .int .u64 t180, .int .i64 0, .int .i64 0]) ?_ 3 _ rfl; (with_reducible repeat (first | refine blk_drewN ?_ _ | refine blk_drew ?_ | refine blk_alloc ?_ _)); refine blk_put (cs := #[.int .i64 t178, .string t179, .int .u64 0, .int .i64 0, .int .i64 0]) ?_ 2 _ rfl; (with_reducible repeat (first | refine blk_drewN ?_ _ | refine blk_drew ?_ | refine blk_alloc ?_ _)); refine blk_put (cs := #[.int .i64 t178, .string (⟨#[]⟩ : ByteArray), .int .u64 0, .int .i64 0, .int .i64 0]) ?_ 1 _ rfl; (with_reducible repeat (first | refine blk_drewN ?_ _ | refine blk_drew ?_ | refine blk_alloc ?_ _)); refine blk_put (cs := #[.int .i64 0, .string (⟨#[]⟩ : ByteArray), .int .u64 0, .int .i64 0, .int .i64 0]) ?_ 0 _ rfl; (with_reducible repeat (first | refine blk_drewN ?_ _ | refine blk_drew ?_ | refine blk_alloc ?_ _)); exact BK168.out) Try.underlying47 rfl (by kernel_rfl)) rfl ?_
          exact ⟨by first | rfl | (simp [errW_none, errW_some] <;> rfl) | (simp [*, errW_none, errW_some] <;> rfl), by repeat (first | (with_reducible first | exact HB.out | apply below_alloc | apply pw_below_drewN | apply below_drew1 | refine below_set ?_ GE168.out) | exact HB.out)⟩
        · replace c13 := Bool.eq_false_iff.mpr c13
          subst c13
          have H1 : (if (bt a0 a1) = 34 then ((stratumref08_text.f k a0 a1).bind fun bt185 => (some (bt185.1, bt185.2.1, bt185.2.2.1, bt185.2.2.2.1, bt185.2.2.2.2.1, bt185.2.2.2.2.2.1, bt185.2.2.2.2.2.2))) else ((stratumref08_Mark.f k (bt a0 a1)).bind fun t192 => (if t192 = true then (if a1 ≤ (wrap64 (a1 + 1)) then (if (wrap64 (a1 + 1)) ≤ (a0.size : Int) then (some (4, a0.extract (a1 : Int).toNat ((wrap64 (a1 + 1)) : Int).toNat, 0, a1, wrap64 (a1 + 1), 0, 0)) else (none)) else (none)) else (some (0, (⟨#[]⟩ : ByteArray), 0, 0, 0, a1, 80))))) = some (r1, r2, r3, r4, r5, r6, r7) := by rw [if_neg (show ¬ (false = true) by decide)] at H; exact H
          clear H
          have H := H1
          clear H1
          by_cases c18 : (bt a0 a1) = 34
          · rw [if_pos c18] at H
            have c18b0 : ((bt a0 a1) == 34) = true := beq_iff_eq.mpr c18
            have c18b1 : ((bt a0 a1) != 34) = false := bne_eq_false_iff_eq.mpr c18
            clear c18
            replace H := Option.bind_eq_some_iff.mp H
            obtain ⟨⟨t185, t186, t187, t188, t189, t190, t191⟩, A190, H⟩ := H
            replace H : (some (t185, t186, t187, t188, t189, t190, t191)) = some (r1, r2, r3, r4, r5, r6, r7) := H
            have A19 := Aside0.mk A190
            clear A190
            simp only [Option.some.injEq, Prod.mk.injEq] at H
            obtain ⟨rfl, rfl, rfl, rfl, rfl, rfl, rfl⟩ := H
            go_enter Try.func42, Try.ntmps42
            go_wp2_with (first | ((with_reducible refine gate_dst (N := 4) rfl ?_); refine box_event ?hg (N := 4) ?hd (cs := #[.int .i64 0, .string (⟨#[]⟩ : ByteArray), .int .u64 0, .int .i64 0, .int .i64 0]) (t := 47) ?hr ?_; (case hd => rfl); (case hg => rfl); (case hr => first | (go_simp; done) | (go_simp; rfl)); intro gb168 hg w20 hbox hb; have n0_ := Aside0.mk (below_step (by repeat (first | (with_reducible first | exact HB.out | apply below_alloc | apply pw_below_drewN | apply below_drew1) | exact HB.out)) hb); have n1_ := Aside0.mk (hbox); have n2_ := Aside0.mk ((by rw [hg]; exact (below_size (by repeat (first | (with_reducible first | exact HB.out | apply below_alloc | apply pw_below_drewN | apply below_drew1) | exact HB.out))) : w.heap.size ≤ gb168)); have n3_ := Aside0.mk ((by rw [hg]; exact (below_size (by repeat (first | (with_reducible first | exact HB.out | apply below_alloc | apply pw_below_drewN | apply below_drew1) | exact HB.out))) : w.heap.size ≤ gb168)); clear HB; have HB := n0_; have BK168 := n1_; have GW168 := n2_; have GE168 := n3_; clear n0_ n1_ n2_ n3_; clear hb hbox hg; have p5 : 0 ≤ (a1 : Int) := of_decide_eq_true (by first | (with_reducible assumption) | assumption); have q5 : a1 < (a0.size : Int) := of_decide_eq_true (by first | (with_reducible assumption) | assumption); have hx5 := bt_at a0 a1; replace p5 := eq_true p5; replace q5 := eq_true q5) | ((with_reducible refine gate_callee (f := 64) rfl ?_); refine goesL_ (some 13) rfl rfl Try.func64 (by kernel_rfl) rfl #[.int .u8 (bt a0 a1)] rfl (by (try simp only [List.map_toArray, List.map_cons, List.map_nil]); first | done | rfl | (simp only [List.length_drop, List.length_take]; rfl)) ?_; (with_reducible refine (stratumref08_letter.calls (bt a0 a1) false _ A6.out).mono ?_); rintro e w' ⟨rfl, ⟨nd, rfl⟩⟩; refine ⟨_, rfl, ?_⟩; (try (rw [drewN_self w20]; generalize hq_ : World.drewN w20 _ = w20; have n0_ : Aside0 (w20.heap[gb168]? = some (.cells #[.int .i64 0, .string (⟨#[]⟩ : ByteArray), .int .u64 0, .int .i64 0, .int .i64 0] 47 (0, 0))) := ⟨by rw [← hq_]; exact (by (with_reducible repeat (first | refine blk_drewN ?_ _ | refine blk_drew ?_ | refine blk_alloc ?_ _)); exact BK168.out)⟩; have n1_ : Aside0 (Below w.heap.size w w20) := ⟨by rw [← hq_]; exact (by repeat (first | (with_reducible first | exact HB.out | apply below_alloc | apply pw_below_drewN | apply below_drew1 | refine below_set ?_ GE168.out) | exact HB.out))⟩; clear BK168 HB hq_; have BK168 := n0_; have HB := n1_; clear n0_ n1_))) | ((with_reducible refine gate_callee (f := 66) rfl ?_); refine goesL_ (some 22) rfl rfl Try.func66 (by kernel_rfl) rfl #[.int .u8 (bt a0 a1)] rfl (by (try simp only [List.map_toArray, List.map_cons, List.map_nil]); first | done | rfl | (simp only [List.length_drop, List.length_take]; rfl)) ?_; (with_reducible refine (stratumref08_digit.calls (bt a0 a1) false _ A12.out).mono ?_); rintro e w' ⟨rfl, ⟨nd, rfl⟩⟩; refine ⟨_, rfl, ?_⟩; (try (rw [drewN_self w20]; generalize hq_ : World.drewN w20 _ = w20; have n0_ : Aside0 (w20.heap[gb168]? = some (.cells #[.int .i64 0, .string (⟨#[]⟩ : ByteArray), .int .u64 0, .int .i64 0, .int .i64 0] 47 (0, 0))) := ⟨by rw [← hq_]; exact (by (with_reducible repeat (first | refine blk_drewN ?_ _ | refine blk_drew ?_ | refine blk_alloc ?_ _)); exact BK168.out)⟩; have n1_ : Aside0 (Below w.heap.size w w20) := ⟨by rw [← hq_]; exact (by repeat (first | (with_reducible first | exact HB.out | apply below_alloc | apply pw_below_drewN | apply below_drew1 | refine below_set ?_ GE168.out) | exact HB.out))⟩; clear BK168 HB hq_; have BK168 := n0_; have HB := n1_; clear n0_ n1_))) | ((with_reducible refine gate_callee (f := 68) rfl ?_); refine goesL_ (some 34) rfl rfl Try.func68 (by kernel_rfl) rfl #[.string a0, .int .i64 a1] rfl (by (try simp only [List.map_toArray, List.map_cons, List.map_nil]); first | done | rfl | (simp only [List.length_drop, List.length_take]; rfl)) ?_; (with_reducible refine (stratumref08_text.calls k a0 a1 t185 t186 t187 t188 t189 t190 t191 _ A19.out).mono ?_); rintro e w21 ⟨rfl, hb⟩; refine ⟨_, rfl, ?_⟩; have n0_ := Aside0.mk (blk_below (g := gb168) (o := .cells #[.int .i64 0, .string (⟨#[]⟩ : ByteArray), .int .u64 0, .int .i64 0, .int .i64 0] 47 (0, 0)) (by (with_reducible repeat (first | refine blk_drewN ?_ _ | refine blk_drew ?_ | refine blk_alloc ?_ _)); exact BK168.out) hb); have n1_ := Aside0.mk (below_step (by repeat (first | (with_reducible first | exact HB.out | apply below_alloc | apply pw_below_drewN | apply below_drew1 | refine below_set ?_ GE168.out) | exact HB.out)) hb); clear BK168; clear HB; have BK168 := n0_; have HB := n1_; clear n0_ n1_; (try clear hb); (try clear hb2); (try clear hk); (try clear hi); have hcz22_0 : w21.cell? ⟨gb168, 0, none⟩ = some (.int .i64 0) := (blk_cell BK168.out 0).trans rfl; have hcz22_1 : w21.cell? ⟨gb168, 1, none⟩ = some (.string (⟨#[]⟩ : ByteArray)) := (blk_cell BK168.out 1).trans rfl; have hcz22_2 : w21.cell? ⟨gb168, 2, none⟩ = some (.int .u64 0) := (blk_cell BK168.out 2).trans rfl; have hcz22_3 : w21.cell? ⟨gb168, 3, none⟩ = some (.int .i64 0) := (blk_cell BK168.out 3).trans rfl; have hcz22_4 : w21.cell? ⟨gb168, 4, none⟩ = some (.int .i64 0) := (blk_cell BK168.out 4).trans rfl; have hfz22_0 := blk_frozen BK168.out 0; have hfz22_1 := blk_frozen BK168.out 1; have hfz22_2 := blk_frozen BK168.out 2; have hfz22_3 := blk_frozen BK168.out 3; have hfz22_4 := blk_frozen BK168.out 4))
            refine bodyPost_ret (results_ctt rfl _ _ gb168 47 #[.int .i64 t185, .string t186, .int .u64 t187, .int .i64 t188, .int .i64 t189] (0, 0) _ rfl (by (with_reducible repeat (first | refine blk_drewN ?_ _ | refine blk_drew ?_ | refine blk_alloc ?_ _)); refine blk_put (cs := #[.int .i64 t185, .string t186, .int .u64 t187, .int .i64 t188, .int .i64 0]) ?_ 4 _ rfl; (with_reducible repeat (first | refine blk_drewN ?_ _ | refine blk_drew ?_ | refine blk_alloc ?_ _)); refine blk_put (cs := #[.int .i64 t185, .string t186, .int .u64 t187, .int .i64 0, .int .i64 0]) ?_ 3 _ rfl; (with_reducible repeat (first | refine blk_drewN ?_ _ | refine blk_drew ?_ | refine blk_alloc ?_ _)); refine blk_put (cs := #[.int .i64 t185, .string t186, .int .u64 0, .int .i64 0, .int .i64 0]) ?_ 2 _ rfl; (with_reducible repeat (first | refine blk_drewN ?_ _ | refine blk_drew ?_ | refine blk_alloc ?_ _)); refine blk_put (cs := #[.int .i64 t185, .string (⟨#[]⟩ : ByteArray), .int .u64 0, .int .i64 0, .int .i64 0]) ?_ 1 _ rfl; (with_reducible repeat (first | refine blk_drewN ?_ _ | refine blk_drew ?_ | refine blk_alloc ?_ _)); refine blk_put (cs := #[.int .i64 0, .string (⟨#[]⟩ : ByteArray), .int .u64 0, .int .i64 0, .int .i64 0]) ?_ 0 _ rfl; (with_reducible repeat (first | refine blk_drewN ?_ _ | refine blk_drew ?_ | refine blk_alloc ?_ _)); exact BK168.out) Try.underlying47 rfl (by kernel_rfl)) rfl ?_
            exact ⟨by first | rfl | (simp [errW_none, errW_some] <;> rfl) | (simp [*, errW_none, errW_some] <;> rfl), by repeat (first | (with_reducible first | exact HB.out | apply below_alloc | apply pw_below_drewN | apply below_drew1 | refine below_set ?_ GE168.out) | exact HB.out)⟩
          · rw [if_neg c18] at H
            have c18b0 : ((bt a0 a1) == 34) = false := beq_eq_false_iff_ne.mpr c18
            have c18b1 : ((bt a0 a1) != 34) = true := bne_iff_ne.mpr c18
            replace H := Option.bind_eq_some_iff.mp H
            obtain ⟨t192, A230, H⟩ := H
            replace H : (if t192 = true then (if a1 ≤ (wrap64 (a1 + 1)) then (if (wrap64 (a1 + 1)) ≤ (a0.size : Int) then (some (4, a0.extract (a1 : Int).toNat ((wrap64 (a1 + 1)) : Int).toNat, 0, a1, wrap64 (a1 + 1), 0, 0)) else (none)) else (none)) else (some (0, (⟨#[]⟩ : ByteArray), 0, 0, 0, a1, 80))) = some (r1, r2, r3, r4, r5, r6, r7) := H
            have A23 := Aside0.mk A230
            clear A230
            by_cases c24 : t192 = true
            · subst c24
              have H1 : (if a1 ≤ (wrap64 (a1 + 1)) then (if (wrap64 (a1 + 1)) ≤ (a0.size : Int) then (some (4, a0.extract (a1 : Int).toNat ((wrap64 (a1 + 1)) : Int).toNat, 0, a1, wrap64 (a1 + 1), 0, 0)) else (none)) else (none)) = some (r1, r2, r3, r4, r5, r6, r7) := by rw [if_pos rfl] at H; exact H
              clear H
              have H := H1
              clear H1
              have c25b0 := eq_true (of_decide_eq_true (by first | (with_reducible assumption) | assumption) : 0 ≤ a1)
              by_cases c26 : a1 ≤ (wrap64 (a1 + 1))
              · rw [if_pos c26] at H
                have c26b0 := eq_true c26
                have c26b1 : decide (a1 ≤ (wrap64 (a1 + 1))) = true := decide_eq_true c26
                by_cases c27 : (wrap64 (a1 + 1)) ≤ (a0.size : Int)
                · rw [if_pos c27] at H
                  have c27b0 := eq_true c27
                  have c27b1 : decide ((wrap64 (a1 + 1)) ≤ (a0.size : Int)) = true := decide_eq_true c27
                  simp only [Option.some.injEq, Prod.mk.injEq] at H
                  obtain ⟨rfl, rfl, rfl, rfl, rfl, rfl, rfl⟩ := H
                  go_enter Try.func42, Try.ntmps42
                  go_wp2_with (first | ((with_reducible refine gate_dst (N := 4) rfl ?_); refine box_event ?hg (N := 4) ?hd (cs := #[.int .i64 0, .string (⟨#[]⟩ : ByteArray), .int .u64 0, .int .i64 0, .int .i64 0]) (t := 47) ?hr ?_; (case hd => rfl); (case hg => rfl); (case hr => first | (go_simp; done) | (go_simp; rfl)); intro gb168 hg w28 hbox hb; have n0_ := Aside0.mk (below_step (by repeat (first | (with_reducible first | exact HB.out | apply below_alloc | apply pw_below_drewN | apply below_drew1) | exact HB.out)) hb); have n1_ := Aside0.mk (hbox); have n2_ := Aside0.mk ((by rw [hg]; exact (below_size (by repeat (first | (with_reducible first | exact HB.out | apply below_alloc | apply pw_below_drewN | apply below_drew1) | exact HB.out))) : w.heap.size ≤ gb168)); have n3_ := Aside0.mk ((by rw [hg]; exact (below_size (by repeat (first | (with_reducible first | exact HB.out | apply below_alloc | apply pw_below_drewN | apply below_drew1) | exact HB.out))) : w.heap.size ≤ gb168)); clear HB; have HB := n0_; have BK168 := n1_; have GW168 := n2_; have GE168 := n3_; clear n0_ n1_ n2_ n3_; clear hb hbox hg; have p5 : 0 ≤ (a1 : Int) := of_decide_eq_true (by first | (with_reducible assumption) | assumption); have q5 : a1 < (a0.size : Int) := of_decide_eq_true (by first | (with_reducible assumption) | assumption); have hx5 := bt_at a0 a1; replace p5 := eq_true p5; replace q5 := eq_true q5) | ((with_reducible refine gate_callee (f := 64) rfl ?_); refine goesL_ (some 13) rfl rfl Try.func64 (by kernel_rfl) rfl #[.int .u8 (bt a0 a1)] rfl (by (try simp only [List.map_toArray, List.map_cons, List.map_nil]); first | done | rfl | (simp only [List.length_drop, List.length_take]; rfl)) ?_; (with_reducible refine (stratumref08_letter.calls (bt a0 a1) false _ A6.out).mono ?_); rintro e w' ⟨rfl, ⟨nd, rfl⟩⟩; refine ⟨_, rfl, ?_⟩; (try (rw [drewN_self w28]; generalize hq_ : World.drewN w28 _ = w28; have n0_ : Aside0 (w28.heap[gb168]? = some (.cells #[.int .i64 0, .string (⟨#[]⟩ : ByteArray), .int .u64 0, .int .i64 0, .int .i64 0] 47 (0, 0))) := ⟨by rw [← hq_]; exact (by (with_reducible repeat (first | refine blk_drewN ?_ _ | refine blk_drew ?_ | refine blk_alloc ?_ _)); exact BK168.out)⟩; have n1_ : Aside0 (Below w.heap.size w w28) := ⟨by rw [← hq_]; exact (by repeat (first | (with_reducible first | exact HB.out | apply below_alloc | apply pw_below_drewN | apply below_drew1 | refine below_set ?_ GE168.out) | exact HB.out))⟩; clear BK168 HB hq_; have BK168 := n0_; have HB := n1_; clear n0_ n1_))) | ((with_reducible refine gate_callee (f := 66) rfl ?_); refine goesL_ (some 22) rfl rfl Try.func66 (by kernel_rfl) rfl #[.int .u8 (bt a0 a1)] rfl (by (try simp only [List.map_toArray, List.map_cons, List.map_nil]); first | done | rfl | (simp only [List.length_drop, List.length_take]; rfl)) ?_; (with_reducible refine (stratumref08_digit.calls (bt a0 a1) false _ A12.out).mono ?_); rintro e w' ⟨rfl, ⟨nd, rfl⟩⟩; refine ⟨_, rfl, ?_⟩; (try (rw [drewN_self w28]; generalize hq_ : World.drewN w28 _ = w28; have n0_ : Aside0 (w28.heap[gb168]? = some (.cells #[.int .i64 0, .string (⟨#[]⟩ : ByteArray), .int .u64 0, .int .i64 0, .int .i64 0] 47 (0, 0))) := ⟨by rw [← hq_]; exact (by (with_reducible repeat (first | refine blk_drewN ?_ _ | refine blk_drew ?_ | refine blk_alloc ?_ _)); exact BK168.out)⟩; have n1_ : Aside0 (Below w.heap.size w w28) := ⟨by rw [← hq_]; exact (by repeat (first | (with_reducible first | exact HB.out | apply below_alloc | apply pw_below_drewN | apply below_drew1 | refine below_set ?_ GE168.out) | exact HB.out))⟩; clear BK168 HB hq_; have BK168 := n0_; have HB := n1_; clear n0_ n1_))) | ((with_reducible refine gate_callee (f := 69) rfl ?_); refine goesL_ (some 40) rfl rfl Try.func69 (by kernel_rfl) rfl #[.int .u8 (bt a0 a1)] rfl (by (try simp only [List.map_toArray, List.map_cons, List.map_nil]); first | done | rfl | (simp only [List.length_drop, List.length_take]; rfl)) ?_; (with_reducible refine (stratumref08_Mark.calls k (bt a0 a1) true _ A23.out).mono ?_); rintro e w' ⟨rfl, ⟨nd, rfl⟩⟩; refine ⟨_, rfl, ?_⟩; (try (rw [drewN_self w28]; generalize hq_ : World.drewN w28 _ = w28; have n0_ : Aside0 (w28.heap[gb168]? = some (.cells #[.int .i64 0, .string (⟨#[]⟩ : ByteArray), .int .u64 0, .int .i64 0, .int .i64 0] 47 (0, 0))) := ⟨by rw [← hq_]; exact (by (with_reducible repeat (first | refine blk_drewN ?_ _ | refine blk_drew ?_ | refine blk_alloc ?_ _)); exact BK168.out)⟩; have n1_ : Aside0 (Below w.heap.size w w28) := ⟨by rw [← hq_]; exact (by repeat (first | (with_reducible first | exact HB.out | apply below_alloc | apply pw_below_drewN | apply below_drew1 | refine below_set ?_ GE168.out) | exact HB.out))⟩; clear BK168 HB hq_; have BK168 := n0_; have HB := n1_; clear n0_ n1_)); have hcz29_0 : w28.cell? ⟨gb168, 0, none⟩ = some (.int .i64 0) := (blk_cell BK168.out 0).trans rfl; have hcz29_1 : w28.cell? ⟨gb168, 1, none⟩ = some (.string (⟨#[]⟩ : ByteArray)) := (blk_cell BK168.out 1).trans rfl; have hcz29_2 : w28.cell? ⟨gb168, 2, none⟩ = some (.int .u64 0) := (blk_cell BK168.out 2).trans rfl; have hcz29_3 : w28.cell? ⟨gb168, 3, none⟩ = some (.int .i64 0) := (blk_cell BK168.out 3).trans rfl; have hcz29_4 : w28.cell? ⟨gb168, 4, none⟩ = some (.int .i64 0) := (blk_cell BK168.out 4).trans rfl; have hfz29_0 := blk_frozen BK168.out 0; have hfz29_1 := blk_frozen BK168.out 1; have hfz29_2 := blk_frozen BK168.out 2; have hfz29_3 := blk_frozen BK168.out 3; have hfz29_4 := blk_frozen BK168.out 4))
                  refine bodyPost_ret (results_ctt rfl _ _ gb168 47 #[.int .i64 4, .string (a0.extract (a1 : Int).toNat ((wrap64 (a1 + 1)) : Int).toNat), .int .u64 0, .int .i64 a1, .int .i64 (wrap64 (a1 + 1))] (0, 0) _ rfl (by (with_reducible repeat (first | refine blk_drewN ?_ _ | refine blk_drew ?_ | refine blk_alloc ?_ _)); refine blk_put (cs := #[.int .i64 4, .string (a0.extract (a1 : Int).toNat ((wrap64 (a1 + 1)) : Int).toNat), .int .u64 0, .int .i64 a1, .int .i64 0]) ?_ 4 _ rfl; (with_reducible repeat (first | refine blk_drewN ?_ _ | refine blk_drew ?_ | refine blk_alloc ?_ _)); refine blk_put (cs := #[.int .i64 4, .string (a0.extract (a1 : Int).toNat ((wrap64 (a1 + 1)) : Int).toNat), .int .u64 0, .int .i64 0, .int .i64 0]) ?_ 3 _ rfl; (with_reducible repeat (first | refine blk_drewN ?_ _ | refine blk_drew ?_ | refine blk_alloc ?_ _)); refine blk_put (cs := #[.int .i64 4, .string (a0.extract (a1 : Int).toNat ((wrap64 (a1 + 1)) : Int).toNat), .int .u64 0, .int .i64 0, .int .i64 0]) ?_ 2 _ rfl; (with_reducible repeat (first | refine blk_drewN ?_ _ | refine blk_drew ?_ | refine blk_alloc ?_ _)); refine blk_put (cs := #[.int .i64 4, .string (⟨#[]⟩ : ByteArray), .int .u64 0, .int .i64 0, .int .i64 0]) ?_ 1 _ rfl; (with_reducible repeat (first | refine blk_drewN ?_ _ | refine blk_drew ?_ | refine blk_alloc ?_ _)); refine blk_put (cs := #[.int .i64 0, .string (⟨#[]⟩ : ByteArray), .int .u64 0, .int .i64 0, .int .i64 0]) ?_ 0 _ rfl; (with_reducible repeat (first | refine blk_drewN ?_ _ | refine blk_drew ?_ | refine blk_alloc ?_ _)); exact BK168.out) Try.underlying47 rfl (by kernel_rfl)) rfl ?_
                  exact ⟨by first | rfl | (simp [errW_none, errW_some] <;> rfl) | (simp [*, errW_none, errW_some] <;> rfl), by repeat (first | (with_reducible first | exact HB.out | apply below_alloc | apply pw_below_drewN | apply below_drew1 | refine below_set ?_ GE168.out) | exact HB.out)⟩
                · rw [if_neg c27] at H
                  exact absurd H (by simp)
              · rw [if_neg c26] at H
                exact absurd H (by simp)
            · replace c24 := Bool.eq_false_iff.mpr c24
              subst c24
              have H1 : (some (0, (⟨#[]⟩ : ByteArray), 0, 0, 0, a1, 80)) = some (r1, r2, r3, r4, r5, r6, r7) := by rw [if_neg (show ¬ (false = true) by decide)] at H; exact H
              clear H
              have H := H1
              clear H1
              simp only [Option.some.injEq, Prod.mk.injEq] at H
              obtain ⟨rfl, rfl, rfl, rfl, rfl, rfl, rfl⟩ := H
              go_enter Try.func42, Try.ntmps42
              go_wp2_with (first | ((with_reducible refine gate_dst (N := 4) rfl ?_); refine box_event ?hg (N := 4) ?hd (cs := #[.int .i64 0, .string (⟨#[]⟩ : ByteArray), .int .u64 0, .int .i64 0, .int .i64 0]) (t := 47) ?hr ?_; (case hd => rfl); (case hg => rfl); (case hr => first | (go_simp; done) | (go_simp; rfl)); intro gb168 hg w30 hbox hb; have n0_ := Aside0.mk (below_step (by repeat (first | (with_reducible first | exact HB.out | apply below_alloc | apply pw_below_drewN | apply below_drew1) | exact HB.out)) hb); have n1_ := Aside0.mk (hbox); have n2_ := Aside0.mk ((by rw [hg]; exact (below_size (by repeat (first | (with_reducible first | exact HB.out | apply below_alloc | apply pw_below_drewN | apply below_drew1) | exact HB.out))) : w.heap.size ≤ gb168)); have n3_ := Aside0.mk ((by rw [hg]; exact (below_size (by repeat (first | (with_reducible first | exact HB.out | apply below_alloc | apply pw_below_drewN | apply below_drew1) | exact HB.out))) : w.heap.size ≤ gb168)); clear HB; have HB := n0_; have BK168 := n1_; have GW168 := n2_; have GE168 := n3_; clear n0_ n1_ n2_ n3_; clear hb hbox hg; have p5 : 0 ≤ (a1 : Int) := of_decide_eq_true (by first | (with_reducible assumption) | assumption); have q5 : a1 < (a0.size : Int) := of_decide_eq_true (by first | (with_reducible assumption) | assumption); have hx5 := bt_at a0 a1; replace p5 := eq_true p5; replace q5 := eq_true q5) | ((with_reducible refine gate_callee (f := 64) rfl ?_); refine goesL_ (some 13) rfl rfl Try.func64 (by kernel_rfl) rfl #[.int .u8 (bt a0 a1)] rfl (by (try simp only [List.map_toArray, List.map_cons, List.map_nil]); first | done | rfl | (simp only [List.length_drop, List.length_take]; rfl)) ?_; (with_reducible refine (stratumref08_letter.calls (bt a0 a1) false _ A6.out).mono ?_); rintro e w' ⟨rfl, ⟨nd, rfl⟩⟩; refine ⟨_, rfl, ?_⟩; (try (rw [drewN_self w30]; generalize hq_ : World.drewN w30 _ = w30; have n0_ : Aside0 (w30.heap[gb168]? = some (.cells #[.int .i64 0, .string (⟨#[]⟩ : ByteArray), .int .u64 0, .int .i64 0, .int .i64 0] 47 (0, 0))) := ⟨by rw [← hq_]; exact (by (with_reducible repeat (first | refine blk_drewN ?_ _ | refine blk_drew ?_ | refine blk_alloc ?_ _)); exact BK168.out)⟩; have n1_ : Aside0 (Below w.heap.size w w30) := ⟨by rw [← hq_]; exact (by repeat (first | (with_reducible first | exact HB.out | apply below_alloc | apply pw_below_drewN | apply below_drew1 | refine below_set ?_ GE168.out) | exact HB.out))⟩; clear BK168 HB hq_; have BK168 := n0_; have HB := n1_; clear n0_ n1_))) | ((with_reducible refine gate_callee (f := 66) rfl ?_); refine goesL_ (some 22) rfl rfl Try.func66 (by kernel_rfl) rfl #[.int .u8 (bt a0 a1)] rfl (by (try simp only [List.map_toArray, List.map_cons, List.map_nil]); first | done | rfl | (simp only [List.length_drop, List.length_take]; rfl)) ?_; (with_reducible refine (stratumref08_digit.calls (bt a0 a1) false _ A12.out).mono ?_); rintro e w' ⟨rfl, ⟨nd, rfl⟩⟩; refine ⟨_, rfl, ?_⟩; (try (rw [drewN_self w30]; generalize hq_ : World.drewN w30 _ = w30; have n0_ : Aside0 (w30.heap[gb168]? = some (.cells #[.int .i64 0, .string (⟨#[]⟩ : ByteArray), .int .u64 0, .int .i64 0, .int .i64 0] 47 (0, 0))) := ⟨by rw [← hq_]; exact (by (with_reducible repeat (first | refine blk_drewN ?_ _ | refine blk_drew ?_ | refine blk_alloc ?_ _)); exact BK168.out)⟩; have n1_ : Aside0 (Below w.heap.size w w30) := ⟨by rw [← hq_]; exact (by repeat (first | (with_reducible first | exact HB.out | apply below_alloc | apply pw_below_drewN | apply below_drew1 | refine below_set ?_ GE168.out) | exact HB.out))⟩; clear BK168 HB hq_; have BK168 := n0_; have HB := n1_; clear n0_ n1_))) | ((with_reducible refine gate_callee (f := 69) rfl ?_); refine goesL_ (some 40) rfl rfl Try.func69 (by kernel_rfl) rfl #[.int .u8 (bt a0 a1)] rfl (by (try simp only [List.map_toArray, List.map_cons, List.map_nil]); first | done | rfl | (simp only [List.length_drop, List.length_take]; rfl)) ?_; (with_reducible refine (stratumref08_Mark.calls k (bt a0 a1) false _ A23.out).mono ?_); rintro e w' ⟨rfl, ⟨nd, rfl⟩⟩; refine ⟨_, rfl, ?_⟩; (try (rw [drewN_self w30]; generalize hq_ : World.drewN w30 _ = w30; have n0_ : Aside0 (w30.heap[gb168]? = some (.cells #[.int .i64 0, .string (⟨#[]⟩ : ByteArray), .int .u64 0, .int .i64 0, .int .i64 0] 47 (0, 0))) := ⟨by rw [← hq_]; exact (by (with_reducible repeat (first | refine blk_drewN ?_ _ | refine blk_drew ?_ | refine blk_alloc ?_ _)); exact BK168.out)⟩; have n1_ : Aside0 (Below w.heap.size w w30) := ⟨by rw [← hq_]; exact (by repeat (first | (with_reducible first | exact HB.out | apply below_alloc | apply pw_below_drewN | apply below_drew1 | refine below_set ?_ GE168.out) | exact HB.out))⟩; clear BK168 HB hq_; have BK168 := n0_; have HB := n1_; clear n0_ n1_)); have hcz31_0 : w30.cell? ⟨gb168, 0, none⟩ = some (.int .i64 0) := (blk_cell BK168.out 0).trans rfl; have hcz31_1 : w30.cell? ⟨gb168, 1, none⟩ = some (.string (⟨#[]⟩ : ByteArray)) := (blk_cell BK168.out 1).trans rfl; have hcz31_2 : w30.cell? ⟨gb168, 2, none⟩ = some (.int .u64 0) := (blk_cell BK168.out 2).trans rfl; have hcz31_3 : w30.cell? ⟨gb168, 3, none⟩ = some (.int .i64 0) := (blk_cell BK168.out 3).trans rfl; have hcz31_4 : w30.cell? ⟨gb168, 4, none⟩ = some (.int .i64 0) := (blk_cell BK168.out 4).trans rfl; have hfz31_0 := blk_frozen BK168.out 0; have hfz31_1 := blk_frozen BK168.out 1; have hfz31_2 := blk_frozen BK168.out 2; have hfz31_3 := blk_frozen BK168.out 3; have hfz31_4 := blk_frozen BK168.out 4))
              refine bodyPost_ret (results_ctt rfl _ _ gb168 47 #[.int .i64 0, .string (⟨#[]⟩ : ByteArray), .int .u64 0, .int .i64 0, .int .i64 0] (0, 0) _ rfl (by (with_reducible repeat (first | refine blk_drewN ?_ _ | refine blk_drew ?_ | refine blk_alloc ?_ _)); refine blk_put (cs := #[.int .i64 0, .string (⟨#[]⟩ : ByteArray), .int .u64 0, .int .i64 0, .int .i64 0]) ?_ 4 _ rfl; (with_reducible repeat (first | refine blk_drewN ?_ _ | refine blk_drew ?_ | refine blk_alloc ?_ _)); refine blk_put (cs := #[.int .i64 0, .string (⟨#[]⟩ : ByteArray), .int .u64 0, .int .i64 0, .int .i64 0]) ?_ 3 _ rfl; (with_reducible repeat (first | refine blk_drewN ?_ _ | refine blk_drew ?_ | refine blk_alloc ?_ _)); refine blk_put (cs := #[.int .i64 0, .string (⟨#[]⟩ : ByteArray), .int .u64 0, .int .i64 0, .int .i64 0]) ?_ 2 _ rfl; (with_reducible repeat (first | refine blk_drewN ?_ _ | refine blk_drew ?_ | refine blk_alloc ?_ _)); refine blk_put (cs := #[.int .i64 0, .string (⟨#[]⟩ : ByteArray), .int .u64 0, .int .i64 0, .int .i64 0]) ?_ 1 _ rfl; (with_reducible repeat (first | refine blk_drewN ?_ _ | refine blk_drew ?_ | refine blk_alloc ?_ _)); refine blk_put (cs := #[.int .i64 0, .string (⟨#[]⟩ : ByteArray), .int .u64 0, .int .i64 0, .int .i64 0]) ?_ 0 _ rfl; (with_reducible repeat (first | refine blk_drewN ?_ _ | refine blk_drew ?_ | refine blk_alloc ?_ _)); exact BK168.out) Try.underlying47 rfl (by kernel_rfl)) rfl ?_
              exact ⟨by first | rfl | (simp [errW_none, errW_some] <;> rfl) | (simp [*, errW_none, errW_some] <;> rfl), by repeat (first | (with_reducible first | exact HB.out | apply below_alloc | apply pw_below_drewN | apply below_drew1 | refine below_set ?_ GE168.out) | exact HB.out)⟩
    · rw [if_neg c4] at H
      exact absurd H (by simp)
  · rw [if_neg c3] at H
    exact absurd H (by simp)
def stratumref08_Lex.l0 : Nat → ByteArray → List (S47) → Int → Option ((List (S47)) × Int × Int)
  | 0, _, _, _ => none
  | k + 1, x0, x5, x6 => if x6 < (x0.size : Int) then ((stratumref08_token.f k x0 x6).bind fun bt197 => (if bt197.2.2.2.2.2.2 = 0 then (if x5.length < 2932031007402 then ((stratumref08_skip.f k x0 bt197.2.2.2.2.1).bind fun t208 => (stratumref08_Lex.l0 k x0 (x5 ++ [(⟨bt197.1, bt197.2.1, bt197.2.2.1, bt197.2.2.2.1, bt197.2.2.2.2.1⟩ : S47)]) t208)) else (none)) else (some (([] : List (S47)), bt197.2.2.2.2.2.1, bt197.2.2.2.2.2.2)))) else (if x5.length < 2932031007402 then (some ((x5 ++ [(⟨0, (⟨#[]⟩ : ByteArray), 0, (x0.size : Int), (x0.size : Int)⟩ : S47)]), 0, 0)) else (none))
def stratumref08_Lex.f (k : Nat) (a0 : ByteArray) : Option ((List (S47)) × Int × Int) := if (a0.size : Int) > 1048576 then (some (([] : List (S47)), 0, 2)) else ((stratumref08_skip.f k a0 0).bind fun t193 => (stratumref08_Lex.l0 k a0 ([] : List (S47)) t193))
theorem stratumref08_Lex.mono_l : ∀ k, (∀ y0 y1 y2, LeO (stratumref08_Lex.l0 k y0 y1 y2) (stratumref08_Lex.l0 (k + 1) y0 y1 y2))
  | 0 => fun _ _ _ r h => by simp [stratumref08_Lex.l0] at h
  | k + 1 => by
    have ih0 := stratumref08_Lex.mono_l k
    · intro y0 y1 y2
      unfold stratumref08_Lex.l0
      repeat' first
      | (with_reducible exact ih0 _ _ _)
      | (with_reducible exact stratumref08_skip.mono _ _ _)
      | (with_reducible exact stratumref08_token.mono _ _ _)
      | (with_reducible exact LeO.refl _)
      | (with_reducible exact LeO.none _)
      | (with_reducible refine LeO.ite ?_ ?_)
      | (with_reducible refine LeO.bind ?_ (fun _ => ?_))
      | exact ih0 _ _ _
      | exact stratumref08_skip.mono _ _ _
      | exact stratumref08_token.mono _ _ _
      | exact LeO.none _
      | refine LeO.ite ?_ ?_
      | refine LeO.bind ?_ (fun _ => ?_)
theorem stratumref08_Lex.mono : ∀ a0 k, LeO (stratumref08_Lex.f k a0) (stratumref08_Lex.f (k + 1) a0) := by
  intro a0 k
  have ih0 := stratumref08_Lex.mono_l k
  unfold stratumref08_Lex.f
  repeat' first
      | (with_reducible exact ih0 _ _ _)
      | (with_reducible exact stratumref08_skip.mono _ _ _)
      | (with_reducible exact stratumref08_token.mono _ _ _)
      | (with_reducible exact LeO.refl _)
      | (with_reducible exact LeO.none _)
      | (with_reducible refine LeO.ite ?_ ?_)
      | (with_reducible refine LeO.bind ?_ (fun _ => ?_))
      | exact ih0 _ _ _
      | exact stratumref08_skip.mono _ _ _
      | exact stratumref08_token.mono _ _ _
      | exact LeO.none _
      | refine LeO.ite ?_ ?_
      | refine LeO.bind ?_ (fun _ => ?_)
set_option maxHeartbeats 8000000 in
set_option maxRecDepth 100000 in
theorem stratumref08_Lex.calls (k : Nat) (a0 : ByteArray) (r1 : List (S47)) (r2 : Int) (r3 : Int) (w : World) (h : stratumref08_Lex.f k a0 = some (r1, r2, r3)) :
    Calls Try.prog 25 #[.string a0] w fun e w' => ∃ v0_ : Value, e = .returned (.tuple #[v0_, .int .i64 r2, .int .i64 r3]) ∧ Kd.R k47 47 w' w.heap.size (fun _ => True) v0_ r1 ∧ Below w.heap.size w w' := by
  have hu47 := Try.underlying47
  have HB := Aside0.mk (Below.refl w.heap.size w)
  have H : (if (a0.size : Int) > 1048576 then (some (([] : List (S47)), 0, 2)) else ((stratumref08_skip.f k a0 0).bind fun t193 => (stratumref08_Lex.l0 k a0 ([] : List (S47)) t193))) = some (r1, r2, r3) := h
  clear h
  by_cases c2 : (a0.size : Int) > 1048576
  · rw [if_pos c2] at H
    have c2b0 : decide (1048576 < (a0.size : Int)) = true := decide_eq_true c2
    have c2b1 : decide (1048576 < a0.size) = true := decide_eq_true (by omega)
    clear c2
    simp only [Option.some.injEq, Prod.mk.injEq] at H
    obtain ⟨rfl, rfl, rfl⟩ := H
    go_enter Try.func25, Try.ntmps25
    go_wp2
    go_ret3
    exact ⟨_, by first | rfl | (simp [errW_none, errW_some] <;> rfl) | (simp [*, errW_none, errW_some] <;> rfl), by first | exact Kd.R_nil _ _ _ _ _ | exact Kd.N_nil _ _ _ _ _ | exact Kd.V_nil _ _ _ _ _ | exact Kd.Q_nil _ _ _ _ _ | exact Kd.S_nil _ _ _ _ _, by repeat (first | (with_reducible first | exact HB.out | apply below_alloc | apply pw_below_drewN | apply below_drew1) | exact HB.out)⟩
  · rw [if_neg c2] at H
    have c2b0 : decide (1048576 < (a0.size : Int)) = false := decide_eq_false c2
    have c2b1 : decide (1048576 < a0.size) = false := decide_eq_false (by omega)
    clear c2
    replace H := Option.bind_eq_some_iff.mp H
    obtain ⟨t193, A30, H⟩ := H
    replace H : (stratumref08_Lex.l0 k a0 ([] : List (S47)) t193) = some (r1, r2, r3) := H
    have A3 := Aside0.mk A30
    clear A30
    have H' := Aside0.mk H
    clear H
    go_enter Try.func25, Try.ntmps25
    go_wp2_with (first | ((with_reducible refine gate_callee (f := 41) rfl ?_); refine goesL_ (some 14) rfl rfl Try.func41 (by kernel_rfl) rfl #[.string a0, .int .i64 0] rfl (by (try simp only [List.map_toArray, List.map_cons, List.map_nil]); first | done | rfl | (simp only [List.length_drop, List.length_take]; rfl)) ?_; (with_reducible refine (stratumref08_skip.calls k a0 0 t193 _ A3.out).mono ?_); rintro e w' ⟨rfl, ⟨nd, rfl⟩⟩; refine ⟨_, rfl, ?_⟩))
    go_loopg [5, 6] k (fun kq v5 v6 w' => ∃ (x5_1 : List (S47)) (x6_1 : Int), v6 = .int .i64 x6_1 ∧ Aside0 (stratumref08_Lex.l0 kq a0 x5_1 x6_1 = some (r1, r2, r3)) ∧ Aside0 (kq ≤ k) ∧ Aside0 (Kd.R k47 47 w' w.heap.size (fun _ => True) v5 x5_1) ∧ Aside0 (Below w.heap.size w w'))
    case atStart => exact ⟨(([] : List (S47))), (t193), (by first | rfl | (simp; done) | (simp [*]; done)), H', ⟨Nat.le_refl _⟩, ⟨by first | exact Kd.R_nil _ _ _ _ _ | exact Kd.N_nil _ _ _ _ _ | exact Kd.V_nil _ _ _ _ _ | exact Kd.Q_nil _ _ _ _ _ | exact Kd.S_nil _ _ _ _ _⟩, ⟨by repeat (first | (with_reducible first | exact HB.out | apply below_alloc | apply pw_below_drewN | apply below_drew1) | exact HB.out)⟩⟩
    case round =>
      clear H'
      try clear c2
      try clear c2b0
      try clear c2b1
      try clear p2
      obtain ⟨x5_1, x6_1, rfl, HA, HK1, HO_5, HB⟩ := hrel
      cases gk with
      | zero => exact absurd HA.out (by simp [stratumref08_Lex.l0])
      | succ k1 =>
        have H := HA.out
        clear HA
        simp only [stratumref08_Lex.l0] at H
        by_cases c4 : x6_1 < (a0.size : Int)
        · rw [if_pos c4] at H
          have c4b0 : decide (x6_1 < (a0.size : Int)) = true := decide_eq_true c4
          clear c4
          replace H := Option.bind_eq_some_iff.mp H
          obtain ⟨⟨t197, t198, t199, t200, t201, t202, t203⟩, A50, H⟩ := H
          replace H : (if t203 = 0 then (if x5_1.length < 2932031007402 then ((stratumref08_skip.f k1 a0 t201).bind fun t208 => (stratumref08_Lex.l0 k1 a0 (x5_1 ++ [(⟨t197, t198, t199, t200, t201⟩ : S47)]) t208)) else (none)) else (some (([] : List (S47)), t202, t203))) = some (r1, r2, r3) := H
          have A5 := Aside0.mk A50
          clear A50
          by_cases c6 : t203 = 0
          · rw [if_pos c6] at H
            have c6b0 : (t203 == 0) = true := beq_iff_eq.mpr c6
            have c6b1 : (t203 != 0) = false := bne_eq_false_iff_eq.mpr c6
            clear c6
            by_cases c7 : x5_1.length < 2932031007402
            · rw [if_pos c7] at H
              have LMc7 := Aside0.mk c7
              clear c7
              obtain ⟨y205, hy205⟩ : ∃ y_ : List (S47), y_ = (x5_1 ++ [(⟨t197, t198, t199, t200, t201⟩ : S47)]) := ⟨_, rfl⟩
              replace H : ((stratumref08_skip.f k1 a0 t201).bind fun t208 => (stratumref08_Lex.l0 k1 a0 y205 t208)) = some (r1, r2, r3) := by first | (rw [hy205]; with_reducible exact H) | (have H2_ := (Option.bind_some _ _).symm.trans H; rw [hy205]; with_reducible exact H2_) | (have H2_ := (Option.bind_some _ _).symm.trans H; with_reducible exact H2_) | with_reducible exact H | (rw [hy205]; exact H) | exact H
              have Ny205 := Aside0.mk hy205
              clear hy205
              replace H := Option.bind_eq_some_iff.mp H
              obtain ⟨t208, A80, H⟩ := H
              replace H : (stratumref08_Lex.l0 k1 a0 y205 t208) = some (r1, r2, r3) := H
              have A8 := Aside0.mk A80
              clear A80
              have H' := Aside0.mk H
              clear H
              go_wp2_with (first | ((with_reducible refine gate_callee (f := 42) rfl ?_); refine goesL_ (some 22) rfl rfl Try.func42 (by kernel_rfl) rfl #[.string a0, .int .i64 x6_1] rfl (by (try simp only [List.map_toArray, List.map_cons, List.map_nil]); first | done | rfl | (simp only [List.length_drop, List.length_take]; rfl)) ?_; (with_reducible refine (stratumref08_token.calls k1 a0 x6_1 t197 t198 t199 t200 t201 t202 t203 _ A5.out).mono ?_); rintro e w9 ⟨rfl, hb⟩; refine ⟨_, rfl, ?_⟩; have n0_ := Aside0.mk (Kd.R_below (by (with_reducible repeat (first | apply Kd.R_alloc | apply Kd.R_drewN | apply Kd.R_drew)); exact HO_5.out) hb); have n1_ := Aside0.mk (below_step (by repeat (first | (with_reducible first | exact HB.out | apply below_alloc | apply pw_below_drewN | apply below_drew1) | exact HB.out)) hb); clear HO_5; clear HB; have HO_5 := n0_; have HB := n1_; clear n0_ n1_; (try clear hb); (try clear hb2); (try clear hk); (try clear hi)) | ((with_reducible refine gate_dst (N := 7) rfl ?_); refine box_event ?hg (N := 7) ?hd (cs := #[.int .i64 0, .string (⟨#[]⟩ : ByteArray), .int .u64 0, .int .i64 0, .int .i64 0]) (t := 47) ?hr ?_; (case hd => rfl); (case hg => rfl); (case hr => first | (go_simp; done) | (go_simp; rfl)); intro gb204 hg w10 hbox hb; have n0_ := Aside0.mk (Kd.R_below (Kd.R_elderB (by (with_reducible repeat (first | apply Kd.R_alloc | apply Kd.R_drewN | apply Kd.R_drew)); exact HO_5.out) gb204 (Nat.le_of_eq hg.symm)) hb); have n1_ := Aside0.mk (below_step (by repeat (first | (with_reducible first | exact HB.out | apply below_alloc | apply pw_below_drewN | apply below_drew1) | exact HB.out)) hb); have n2_ := Aside0.mk (hbox); have n3_ := Aside0.mk ((by rw [hg]; exact (below_size (by repeat (first | (with_reducible first | exact HB.out | apply below_alloc | apply pw_below_drewN | apply below_drew1) | exact HB.out))) : w.heap.size ≤ gb204)); have n4_ := Aside0.mk ((by rw [hg]; exact (below_size (by repeat (first | (with_reducible first | exact HB.out | apply below_alloc | apply pw_below_drewN | apply below_drew1) | exact HB.out))) : w.heap.size ≤ gb204)); clear HO_5; clear HB; have HO_5 := n0_; have HB := n1_; have BK204 := n2_; have GW204 := n3_; have GE204 := n4_; clear n0_ n1_ n2_ n3_ n4_; clear hb hbox hg; have hcz11_0 : w10.cell? ⟨gb204, 0, none⟩ = some (.int .i64 0) := (blk_cell BK204.out 0).trans rfl; have hcz11_1 : w10.cell? ⟨gb204, 1, none⟩ = some (.string (⟨#[]⟩ : ByteArray)) := (blk_cell BK204.out 1).trans rfl; have hcz11_2 : w10.cell? ⟨gb204, 2, none⟩ = some (.int .u64 0) := (blk_cell BK204.out 2).trans rfl; have hcz11_3 : w10.cell? ⟨gb204, 3, none⟩ = some (.int .i64 0) := (blk_cell BK204.out 3).trans rfl; have hcz11_4 : w10.cell? ⟨gb204, 4, none⟩ = some (.int .i64 0) := (blk_cell BK204.out 4).trans rfl; have hfz11_0 := blk_frozen BK204.out 0; have hfz11_1 := blk_frozen BK204.out 1; have hfz11_2 := blk_frozen BK204.out 2; have hfz11_3 := blk_frozen BK204.out 3; have hfz11_4 := blk_frozen BK204.out 4) | ((with_reducible refine gate_builtin (b := .append) (xs := #[.tmp 30, .tmp 32]) rfl ?_); at_builtin; refine Kd.R_append k47 (w0 := w) w.heap.size rfl (.tmp 30) (.tmp 32) 37 47 (.agg #[(.int .i64 0), (.string ⟨#[]⟩), (.int .u64 0), (.int .i64 0), (.int .i64 0)]) 48 rfl Try.underlying37 info47 rfl (by decide) (by omega) u5 x5_1 (⟨t197, t198, t199, t200, t201⟩ : S47) [.int .i64 t197, .string t198, .int .u64 t199, .int .i64 t200, .int .i64 t201] (fun k_ => k_ ≠ gb204) (fun _ => False) rfl (by first | (go_simp; done) | (go_simp; rfl)) ?aP (fun _ hk => hk.elim) ?aF ?aO ?aB ?aS ?aL ?_; (case aP => exact k47_mkM _ _ _ (⟨t197, t198, t199, t200, t201⟩ : S47)); (case aB => exact (by repeat (first | (with_reducible first | exact HB.out | apply below_alloc | apply pw_below_drewN | apply below_drew1 | refine below_set ?_ GE204.out) | exact HB.out))); (case aF => exact (fun k_ hk => Kd.freshB (g := gb204) (o := .cells #[.int .i64 t197, .string t198, .int .u64 t199, .int .i64 t200, .int .i64 t201] 47 (0, 0)) (by (with_reducible repeat (first | refine blk_drewN ?_ _ | refine blk_drew ?_ | refine blk_alloc ?_ _)); refine blk_put (cs := #[.int .i64 t197, .string t198, .int .u64 t199, .int .i64 t200, .int .i64 0]) ?_ 4 _ rfl; (with_reducible repeat (first | refine blk_drewN ?_ _ | refine blk_drew ?_ | refine blk_alloc ?_ _)); refine blk_put (cs := #[.int .i64 t197, .string t198, .int .u64 t199, .int .i64 0, .int .i64 0]) ?_ 3 _ rfl; (with_reducible repeat (first | refine blk_drewN ?_ _ | refine blk_drew ?_ | refine blk_alloc ?_ _)); refine blk_put (cs := #[.int .i64 t197, .string t198, .int .u64 0, .int .i64 0, .int .i64 0]) ?_ 2 _ rfl; (with_reducible repeat (first | refine blk_drewN ?_ _ | refine blk_drew ?_ | refine blk_alloc ?_ _)); refine blk_put (cs := #[.int .i64 t197, .string (⟨#[]⟩ : ByteArray), .int .u64 0, .int .i64 0, .int .i64 0]) ?_ 1 _ rfl; (with_reducible repeat (first | refine blk_drewN ?_ _ | refine blk_drew ?_ | refine blk_alloc ?_ _)); refine blk_put (cs := #[.int .i64 0, .string (⟨#[]⟩ : ByteArray), .int .u64 0, .int .i64 0, .int .i64 0]) ?_ 0 _ rfl; (with_reducible repeat (first | refine blk_drewN ?_ _ | refine blk_drew ?_ | refine blk_alloc ?_ _)); exact BK204.out) k_ hk)); (case aO => exact (by (with_reducible repeat (first | apply Kd.R_alloc | apply Kd.R_drewN | apply Kd.R_drew)); exact Kd.R_mono (Kd.R_far (p := ⟨gb204, 4, none⟩) (Kd.R_far (p := ⟨gb204, 3, none⟩) (Kd.R_far (p := ⟨gb204, 2, none⟩) (Kd.R_far (p := ⟨gb204, 1, none⟩) (Kd.R_far (p := ⟨gb204, 0, none⟩) (Kd.R_mono HO_5.out (fun k_ hk => (⟨hk, hk.2⟩ : _ ∧ k_ ≠ gb204))) (fun _ hk => hk.2) (.int .i64 t197)) (fun _ hk => hk.2) (.string t198)) (fun _ hk => hk.2) (.int .u64 t199)) (fun _ hk => hk.2) (.int .i64 t200)) (fun _ hk => hk.2) (.int .i64 t201)) (fun _ hk => hk.1.2))); (case aS => exact (below_size (by repeat (first | (with_reducible first | exact HB.out | apply below_alloc | apply pw_below_drewN | apply below_drew1 | refine below_set ?_ GE204.out) | exact HB.out)))); (case aL => have := LMc7.out; omega); intro v206 w12 ho hb hg hat; rw [← Ny205.out] at ho; have n0_ := Aside0.mk (blk_grown (g := gb204) (o := .cells #[.int .i64 t197, .string t198, .int .u64 t199, .int .i64 t200, .int .i64 t201] 47 (0, 0)) (by (with_reducible repeat (first | refine blk_drewN ?_ _ | refine blk_drew ?_ | refine blk_alloc ?_ _)); refine blk_put (cs := #[.int .i64 t197, .string t198, .int .u64 t199, .int .i64 t200, .int .i64 0]) ?_ 4 _ rfl; (with_reducible repeat (first | refine blk_drewN ?_ _ | refine blk_drew ?_ | refine blk_alloc ?_ _)); refine blk_put (cs := #[.int .i64 t197, .string t198, .int .u64 t199, .int .i64 0, .int .i64 0]) ?_ 3 _ rfl; (with_reducible repeat (first | refine blk_drewN ?_ _ | refine blk_drew ?_ | refine blk_alloc ?_ _)); refine blk_put (cs := #[.int .i64 t197, .string t198, .int .u64 0, .int .i64 0, .int .i64 0]) ?_ 2 _ rfl; (with_reducible repeat (first | refine blk_drewN ?_ _ | refine blk_drew ?_ | refine blk_alloc ?_ _)); refine blk_put (cs := #[.int .i64 t197, .string (⟨#[]⟩ : ByteArray), .int .u64 0, .int .i64 0, .int .i64 0]) ?_ 1 _ rfl; (with_reducible repeat (first | refine blk_drewN ?_ _ | refine blk_drew ?_ | refine blk_alloc ?_ _)); refine blk_put (cs := #[.int .i64 0, .string (⟨#[]⟩ : ByteArray), .int .u64 0, .int .i64 0, .int .i64 0]) ?_ 0 _ rfl; (with_reducible repeat (first | refine blk_drewN ?_ _ | refine blk_drew ?_ | refine blk_alloc ?_ _)); exact BK204.out) hg (Kd.R_away HO_5.out (fun _ hk => hk.2))); have n1_ := Aside0.mk (hb); have n2_ := Aside0.mk (ho); clear BK204; clear HB; clear HO_5; have BK204 := n0_; have HB := n1_; have HO207 := n2_; clear n0_ n1_ n2_; clear ho hb hg hat; have hcz13_0 : w12.cell? ⟨gb204, 0, none⟩ = some (.int .i64 t197) := (blk_cell BK204.out 0).trans rfl; have hcz13_1 : w12.cell? ⟨gb204, 1, none⟩ = some (.string t198) := (blk_cell BK204.out 1).trans rfl; have hcz13_2 : w12.cell? ⟨gb204, 2, none⟩ = some (.int .u64 t199) := (blk_cell BK204.out 2).trans rfl; have hcz13_3 : w12.cell? ⟨gb204, 3, none⟩ = some (.int .i64 t200) := (blk_cell BK204.out 3).trans rfl; have hcz13_4 : w12.cell? ⟨gb204, 4, none⟩ = some (.int .i64 t201) := (blk_cell BK204.out 4).trans rfl; have hfz13_0 := blk_frozen BK204.out 0; have hfz13_1 := blk_frozen BK204.out 1; have hfz13_2 := blk_frozen BK204.out 2; have hfz13_3 := blk_frozen BK204.out 3; have hfz13_4 := blk_frozen BK204.out 4) | ((with_reducible refine gate_callee (f := 41) rfl ?_); refine goesL_ (some 37) rfl rfl Try.func41 (by kernel_rfl) rfl #[.string a0, .int .i64 t201] rfl (by (try simp only [List.map_toArray, List.map_cons, List.map_nil]); first | done | rfl | (simp only [List.length_drop, List.length_take]; rfl)) ?_; (with_reducible refine (stratumref08_skip.calls k1 a0 t201 t208 _ A8.out).mono ?_); rintro e w' ⟨rfl, ⟨nd, rfl⟩⟩; refine ⟨_, rfl, ?_⟩))
              go_roundg k1
              case measure => have := HK1.out; omega
              case rel => exact ⟨(y205), (t208), (by first | rfl | (simp; done) | (simp [*]; done)), H', ⟨by have := HK1.out; omega⟩, ⟨by (with_reducible repeat (first | apply Kd.R_alloc | apply Kd.R_drewN | apply Kd.R_drew)); exact Kd.R_mono HO207.out (fun _ hk => trivial)⟩, ⟨by repeat (first | (with_reducible first | exact HB.out | apply below_alloc | apply pw_below_drewN | apply below_drew1 | refine below_set ?_ GE204.out) | exact HB.out)⟩⟩
            · rw [if_neg c7] at H
              exact absurd H (by simp)
          · rw [if_neg c6] at H
            have c6b0 : (t203 == 0) = false := beq_eq_false_iff_ne.mpr c6
            have c6b1 : (t203 != 0) = true := bne_iff_ne.mpr c6
            simp only [Option.some.injEq, Prod.mk.injEq] at H
            obtain ⟨rfl, rfl, rfl⟩ := H
            go_wp2_with (first | ((with_reducible refine gate_callee (f := 42) rfl ?_); refine goesL_ (some 22) rfl rfl Try.func42 (by kernel_rfl) rfl #[.string a0, .int .i64 x6_1] rfl (by (try simp only [List.map_toArray, List.map_cons, List.map_nil]); first | done | rfl | (simp only [List.length_drop, List.length_take]; rfl)) ?_; (with_reducible refine (stratumref08_token.calls k1 a0 x6_1 t197 t198 t199 t200 t201 t202 t203 _ A5.out).mono ?_); rintro e w14 ⟨rfl, hb⟩; refine ⟨_, rfl, ?_⟩; have n0_ := Aside0.mk (Kd.R_below (by (with_reducible repeat (first | apply Kd.R_alloc | apply Kd.R_drewN | apply Kd.R_drew)); exact HO_5.out) hb); have n1_ := Aside0.mk (below_step (by repeat (first | (with_reducible first | exact HB.out | apply below_alloc | apply pw_below_drewN | apply below_drew1) | exact HB.out)) hb); clear HO_5; clear HB; have HO_5 := n0_; have HB := n1_; clear n0_ n1_; (try clear hb); (try clear hb2); (try clear hk); (try clear hi)) | ((with_reducible refine gate_dst (N := 7) rfl ?_); refine box_event ?hg (N := 7) ?hd (cs := #[.int .i64 0, .string (⟨#[]⟩ : ByteArray), .int .u64 0, .int .i64 0, .int .i64 0]) (t := 47) ?hr ?_; (case hd => rfl); (case hg => rfl); (case hr => first | (go_simp; done) | (go_simp; rfl)); intro gb204 hg w15 hbox hb; have n0_ := Aside0.mk (Kd.R_below (Kd.R_elderB (by (with_reducible repeat (first | apply Kd.R_alloc | apply Kd.R_drewN | apply Kd.R_drew)); exact HO_5.out) gb204 (Nat.le_of_eq hg.symm)) hb); have n1_ := Aside0.mk (below_step (by repeat (first | (with_reducible first | exact HB.out | apply below_alloc | apply pw_below_drewN | apply below_drew1) | exact HB.out)) hb); have n2_ := Aside0.mk (hbox); have n3_ := Aside0.mk ((by rw [hg]; exact (below_size (by repeat (first | (with_reducible first | exact HB.out | apply below_alloc | apply pw_below_drewN | apply below_drew1) | exact HB.out))) : w.heap.size ≤ gb204)); have n4_ := Aside0.mk ((by rw [hg]; exact (below_size (by repeat (first | (with_reducible first | exact HB.out | apply below_alloc | apply pw_below_drewN | apply below_drew1) | exact HB.out))) : w.heap.size ≤ gb204)); clear HO_5; clear HB; have HO_5 := n0_; have HB := n1_; have BK204 := n2_; have GW204 := n3_; have GE204 := n4_; clear n0_ n1_ n2_ n3_ n4_; clear hb hbox hg; have hcz16_0 : w15.cell? ⟨gb204, 0, none⟩ = some (.int .i64 0) := (blk_cell BK204.out 0).trans rfl; have hcz16_1 : w15.cell? ⟨gb204, 1, none⟩ = some (.string (⟨#[]⟩ : ByteArray)) := (blk_cell BK204.out 1).trans rfl; have hcz16_2 : w15.cell? ⟨gb204, 2, none⟩ = some (.int .u64 0) := (blk_cell BK204.out 2).trans rfl; have hcz16_3 : w15.cell? ⟨gb204, 3, none⟩ = some (.int .i64 0) := (blk_cell BK204.out 3).trans rfl; have hcz16_4 : w15.cell? ⟨gb204, 4, none⟩ = some (.int .i64 0) := (blk_cell BK204.out 4).trans rfl; have hfz16_0 := blk_frozen BK204.out 0; have hfz16_1 := blk_frozen BK204.out 1; have hfz16_2 := blk_frozen BK204.out 2; have hfz16_3 := blk_frozen BK204.out 3; have hfz16_4 := blk_frozen BK204.out 4))
            go_ret3
            exact ⟨_, by first | rfl | (simp [errW_none, errW_some] <;> rfl) | (simp [*, errW_none, errW_some] <;> rfl), by first | exact Kd.R_nil _ _ _ _ _ | exact Kd.N_nil _ _ _ _ _ | exact Kd.V_nil _ _ _ _ _ | exact Kd.Q_nil _ _ _ _ _ | exact Kd.S_nil _ _ _ _ _, by repeat (first | (with_reducible first | exact HB.out | apply below_alloc | apply pw_below_drewN | apply below_drew1 | refine below_set ?_ GE204.out) | exact HB.out)⟩
        · rw [if_neg c4] at H
          have c4b0 : decide (x6_1 < (a0.size : Int)) = false := decide_eq_false c4
          clear c4
          by_cases c17 : x5_1.length < 2932031007402
          · rw [if_pos c17] at H
            have LMc17 := Aside0.mk c17
            clear c17
            obtain ⟨y194, hy194⟩ : ∃ y_ : List (S47), y_ = (x5_1 ++ [(⟨0, (⟨#[]⟩ : ByteArray), 0, (a0.size : Int), (a0.size : Int)⟩ : S47)]) := ⟨_, rfl⟩
            replace H : (some (y194, 0, 0)) = some (r1, r2, r3) := by first | (rw [hy194]; with_reducible exact H) | (have H2_ := (Option.bind_some _ _).symm.trans H; rw [hy194]; with_reducible exact H2_) | (have H2_ := (Option.bind_some _ _).symm.trans H; with_reducible exact H2_) | with_reducible exact H | (rw [hy194]; exact H) | exact H
            have Ny194 := Aside0.mk hy194
            clear hy194
            simp only [Option.some.injEq, Prod.mk.injEq] at H
            obtain ⟨rfl, rfl, rfl⟩ := H
            go_wp2_with (first | ((with_reducible refine gate_builtin (b := .append) (xs := #[.tmp 38, .tmp 44]) rfl ?_); at_builtin; refine Kd.R_append k47 (w0 := w) w.heap.size rfl (.tmp 38) (.tmp 44) 37 47 (.agg #[(.int .i64 0), (.string ⟨#[]⟩), (.int .u64 0), (.int .i64 0), (.int .i64 0)]) 48 rfl Try.underlying37 info47 rfl (by decide) (by omega) u5 x5_1 (⟨0, (⟨#[]⟩ : ByteArray), 0, (a0.size : Int), (a0.size : Int)⟩ : S47) [.int .i64 0, .string (⟨#[]⟩ : ByteArray), .int .u64 0, .int .i64 (a0.size : Int), .int .i64 (a0.size : Int)] (fun _ => True) (fun _ => False) rfl rfl ?aP (fun _ hk => hk.elim) ?aF ?aO ?aB ?aS ?aL ?_; (case aP => exact k47_mkM _ _ _ (⟨0, (⟨#[]⟩ : ByteArray), 0, (a0.size : Int), (a0.size : Int)⟩ : S47)); (case aB => exact (by repeat (first | (with_reducible first | exact HB.out | apply below_alloc | apply pw_below_drewN | apply below_drew1) | exact HB.out))); (case aF => exact (fun _ _ => trivial)); (case aO => exact (by (with_reducible repeat (first | apply Kd.R_alloc | apply Kd.R_drewN | apply Kd.R_drew)); exact HO_5.out)); (case aS => exact (below_size (by repeat (first | (with_reducible first | exact HB.out | apply below_alloc | apply pw_below_drewN | apply below_drew1) | exact HB.out)))); (case aL => have := LMc17.out; omega); intro v195 w18 ho hb hg hat; rw [← Ny194.out] at ho; have n0_ := Aside0.mk (hb); have n1_ := Aside0.mk (ho); clear HB; clear HO_5; have HB := n0_; have HO196 := n1_; clear n0_ n1_; clear ho hb hg hat))
            go_ret3
            exact ⟨_, by first | rfl | (simp [errW_none, errW_some] <;> rfl) | (simp [*, errW_none, errW_some] <;> rfl), by (with_reducible repeat (first | apply Kd.R_alloc | apply Kd.R_drewN | apply Kd.R_drew)); exact HO196.out, by repeat (first | (with_reducible first | exact HB.out | apply below_alloc | apply pw_below_drewN | apply below_drew1) | exact HB.out)⟩
          · rw [if_neg c17] at H
            exact absurd H (by simp)
def stratumlaw09_much.l0 : Nat → List ByteArray → Int → Int → Option (Bool)
  | 0, _, _, _ => none
  | k + 1, x0, x3, x4 => if x4 < (x0.length : Int) then (if x3 ≤ 16777216 then (if 0 ≤ x4 then (stratumlaw09_much.l0 k x0 (wrap64 (x3 + ((rdOf ByteArray.empty x0 x4).size : Int))) (wrap64 (x4 + 1))) else (none)) else (some (decide (x3 > 16777216)))) else (some (decide (x3 > 16777216)))
def stratumlaw09_much.f (k : Nat) (l0 : List ByteArray) : Option (Bool) := stratumlaw09_much.l0 k l0 0 0
theorem stratumlaw09_much.mono_l : ∀ k, (∀ y0 y1 y2, LeO (stratumlaw09_much.l0 k y0 y1 y2) (stratumlaw09_much.l0 (k + 1) y0 y1 y2))
  | 0 => fun _ _ _ r h => by simp [stratumlaw09_much.l0] at h
  | k + 1 => by
    have ih0 := stratumlaw09_much.mono_l k
    · intro y0 y1 y2
      unfold stratumlaw09_much.l0
      repeat' first
      | (with_reducible exact ih0 _ _ _)
      | (with_reducible exact LeO.refl _)
      | (with_reducible exact LeO.none _)
      | (with_reducible refine LeO.ite ?_ ?_)
      | (with_reducible refine LeO.bind ?_ (fun _ => ?_))
      | exact ih0 _ _ _
      | exact LeO.none _
      | refine LeO.ite ?_ ?_
      | refine LeO.bind ?_ (fun _ => ?_)
theorem stratumlaw09_much.mono : ∀ a0 k, LeO (stratumlaw09_much.f k a0) (stratumlaw09_much.f (k + 1) a0) := by
  intro a0 k
  have ih0 := stratumlaw09_much.mono_l k
  unfold stratumlaw09_much.f
  repeat' first
      | (with_reducible exact ih0 _ _ _)
      | (with_reducible exact LeO.refl _)
      | (with_reducible exact LeO.none _)
      | (with_reducible refine LeO.ite ?_ ?_)
      | (with_reducible refine LeO.bind ?_ (fun _ => ?_))
      | exact ih0 _ _ _
      | exact LeO.none _
      | refine LeO.ite ?_ ?_
      | refine LeO.bind ?_ (fun _ => ?_)
set_option maxHeartbeats 8000000 in
set_option maxRecDepth 100000 in
theorem stratumlaw09_much.calls (k : Nat) (A0 : Option Addr) (c0 : Nat) (l0 : List ByteArray) (r : Bool) (w : World) (hr0 : Kd.C Kd.string w A0 l0.length l0) (hc0 : l0.length ≤ c0) (h : stratumlaw09_much.f k l0 = some r) :
    Calls Try.prog 11 #[.slice A0 l0.length c0] w fun e w' => e = .returned (.bool r) ∧ Drawn0 w w' := by
  have HR0 := Aside0.mk hr0
  have HC0 := Aside0.mk hc0
  clear hr0 hc0
  have H : (stratumlaw09_much.l0 k l0 0 0) = some r := h
  clear h
  have H' := Aside0.mk H
  clear H
  go_enter Try.func11, Try.ntmps11
  go_wp2
  go_loopg [3, 4] k (fun kq v3 v4 w' => ∃ (x3_1 : Int) (x4_1 : Int), v3 = .int .i64 x3_1 ∧ v4 = .int .i64 x4_1 ∧ Aside0 (stratumlaw09_much.l0 kq l0 x3_1 x4_1 = some r) ∧ Aside0 (kq ≤ k) ∧ Drawn0 w w')
  case atStart => exact ⟨(0), (0), (by first | rfl | (simp; done) | (simp [*]; done)), (by first | rfl | (simp; done) | (simp [*]; done)), H', ⟨Nat.le_refl _⟩, by repeat (first | exact Drawn0.refl _ | apply Drawn0.step)⟩
  case round =>
    clear H'
    try clear c1
    obtain ⟨x3_1, x4_1, rfl, rfl, HA, HK1, ⟨m1, rfl⟩⟩ := hrel
    cases gk with
    | zero => exact absurd HA.out (by simp [stratumlaw09_much.l0])
    | succ k1 =>
      have H := HA.out
      clear HA
      simp only [stratumlaw09_much.l0] at H
      by_cases c2 : x4_1 < (l0.length : Int)
      · rw [if_pos c2] at H
        have c2b0 : decide (x4_1 < (l0.length : Int)) = true := decide_eq_true c2
        clear c2
        by_cases c3 : x3_1 ≤ 16777216
        · rw [if_pos c3] at H
          have c3b0 : decide (x3_1 ≤ 16777216) = true := decide_eq_true c3
          clear c3
          by_cases c4 : 0 ≤ x4_1
          · rw [if_pos c4] at H
            have c4b0 : decide (0 ≤ x4_1) = true := decide_eq_true c4
            clear c4
            have H' := Aside0.mk H
            clear H
            have p209 : 0 ≤ (x4_1 : Int) := of_decide_eq_true (by first | (with_reducible assumption) | assumption)
            have q209 : x4_1 < (l0.length : Int) := of_decide_eq_true (by first | (with_reducible assumption) | assumption)
            obtain ⟨ad209, e209, hx209_0⟩ := Kd.at_string HR0.out x4_1 p209 q209
            cases e209
            replace p209 := eq_true p209
            replace q209 := eq_true q209
            go_wp2
            go_roundg k1
            case measure => have := HK1.out; omega
            case rel => exact ⟨(wrap64 (x3_1 + ((rdOf ByteArray.empty l0 x4_1).size : Int))), (wrap64 (x4_1 + 1)), (by first | rfl | (simp; done) | (simp [*]; done)), (by first | rfl | (simp; done) | (simp [*]; done)), H', ⟨by have := HK1.out; omega⟩, by repeat (first | exact Drawn0.refl _ | apply Drawn0.step)⟩
          · rw [if_neg c4] at H
            exact absurd H (by simp)
        · rw [if_neg c3] at H
          have c3b0 : decide (x3_1 ≤ 16777216) = false := decide_eq_false c3
          clear c3
          obtain rfl := Option.some.inj H
          go_wp2
          go_ret
          exact ⟨by first | rfl | (simp; done) | (simp [*]; done), by repeat (first | exact Drawn0.refl _ | apply Drawn0.step)⟩
      · rw [if_neg c2] at H
        have c2b0 : decide (x4_1 < (l0.length : Int)) = false := decide_eq_false c2
        clear c2
        obtain rfl := Option.some.inj H
        go_wp2
        go_ret
        exact ⟨by first | rfl | (simp; done) | (simp [*]; done), by repeat (first | exact Drawn0.refl _ | apply Drawn0.step)⟩
mutual
def stratumlaw09_moved.l0 : Nat → List (S47) → List Int → Int → Int → Int → Option (Bool)
  | 0, _, _, _, _, _ => none
  | k + 1, x0, x1, x2, x3, x9 => if x9 < (x0.length : Int) then (stratumlaw09_moved.j1 k x0 x1 x2 x3 x9 (decide (x9 < (x1.length : Int)))) else (stratumlaw09_moved.j1 k x0 x1 x2 x3 x9 false)
def stratumlaw09_moved.j1 : Nat → List (S47) → List Int → Int → Int → Int → Bool → Option (Bool)
  | 0, _, _, _, _, _, _ => none
  | k + 1, x0, x1, x2, x3, x9, x19 => if x19 = true then (if 0 ≤ x9 then (if x9 < (x0.length : Int) then (if ((rd_T47 x0 x9).f3) = x2 then (if x9 < (x1.length : Int) then (if (rd x1 x9) = x3 then (some true) else (stratumlaw09_moved.l0 k x0 x1 x2 x3 (wrap64 (x9 + 1)))) else (none)) else (stratumlaw09_moved.l0 k x0 x1 x2 x3 (wrap64 (x9 + 1)))) else (none)) else (none)) else (some false)
end
def stratumlaw09_moved.f (k : Nat) (l0 : List (S47)) (l1 : List Int) (a2 : Int) (a3 : Int) : Option (Bool) := stratumlaw09_moved.l0 k l0 l1 a2 a3 0
theorem stratumlaw09_moved.mono_l : ∀ k, (∀ y0 y1 y2 y3 y4, LeO (stratumlaw09_moved.l0 k y0 y1 y2 y3 y4) (stratumlaw09_moved.l0 (k + 1) y0 y1 y2 y3 y4)) ∧ (∀ y0 y1 y2 y3 y4 y5, LeO (stratumlaw09_moved.j1 k y0 y1 y2 y3 y4 y5) (stratumlaw09_moved.j1 (k + 1) y0 y1 y2 y3 y4 y5))
  | 0 => ⟨fun _ _ _ _ _ r h => by simp [stratumlaw09_moved.l0] at h, fun _ _ _ _ _ _ r h => by simp [stratumlaw09_moved.j1] at h⟩
  | k + 1 => by
    obtain ⟨ih0, ih1⟩ := stratumlaw09_moved.mono_l k
    refine ⟨?_, ?_⟩
    · intro y0 y1 y2 y3 y4
      unfold stratumlaw09_moved.l0
      repeat' first
      | (with_reducible exact ih0 _ _ _ _ _)
      | (with_reducible exact ih1 _ _ _ _ _ _)
      | (with_reducible exact LeO.refl _)
      | (with_reducible exact LeO.none _)
      | (with_reducible refine LeO.ite ?_ ?_)
      | (with_reducible refine LeO.bind ?_ (fun _ => ?_))
      | exact ih0 _ _ _ _ _
      | exact ih1 _ _ _ _ _ _
      | exact LeO.none _
      | refine LeO.ite ?_ ?_
      | refine LeO.bind ?_ (fun _ => ?_)
    · intro y0 y1 y2 y3 y4 y5
      unfold stratumlaw09_moved.j1
      repeat' first
      | (with_reducible exact ih0 _ _ _ _ _)
      | (with_reducible exact ih1 _ _ _ _ _ _)
      | (with_reducible exact LeO.refl _)
      | (with_reducible exact LeO.none _)
      | (with_reducible refine LeO.ite ?_ ?_)
      | (with_reducible refine LeO.bind ?_ (fun _ => ?_))
      | exact ih0 _ _ _ _ _
      | exact ih1 _ _ _ _ _ _
      | exact LeO.none _
      | refine LeO.ite ?_ ?_
      | refine LeO.bind ?_ (fun _ => ?_)
theorem stratumlaw09_moved.mono : ∀ a0 a1 a2 a3 k, LeO (stratumlaw09_moved.f k a0 a1 a2 a3) (stratumlaw09_moved.f (k + 1) a0 a1 a2 a3) := by
  intro a0 a1 a2 a3 k
  obtain ⟨ih0, ih1⟩ := stratumlaw09_moved.mono_l k
  unfold stratumlaw09_moved.f
  repeat' first
      | (with_reducible exact ih0 _ _ _ _ _)
      | (with_reducible exact ih1 _ _ _ _ _ _)
      | (with_reducible exact LeO.refl _)
      | (with_reducible exact LeO.none _)
      | (with_reducible refine LeO.ite ?_ ?_)
      | (with_reducible refine LeO.bind ?_ (fun _ => ?_))
      | exact ih0 _ _ _ _ _
      | exact ih1 _ _ _ _ _ _
      | exact LeO.none _
      | refine LeO.ite ?_ ?_
      | refine LeO.bind ?_ (fun _ => ?_)
set_option maxHeartbeats 8000000 in
set_option maxRecDepth 100000 in
theorem stratumlaw09_moved.calls (k : Nat) (A0 : Option Addr) (c0 : Nat) (l0 : List (S47)) (A1 : Option Addr) (c1 : Nat) (l1 : List Int) (a2 : Int) (a3 : Int) (r : Bool) (w : World) (hr0 : Kd.C k47 w A0 l0.length l0) (hc0 : l0.length ≤ c0) (hr1 : Kd.C (Kd.int .i64) w A1 l1.length l1) (hc1 : l1.length ≤ c1) (h : stratumlaw09_moved.f k l0 l1 a2 a3 = some r) :
    Calls Try.prog 20 #[.slice A0 l0.length c0, .slice A1 l1.length c1, .int .i64 a2, .int .i64 a3] w fun e w' => e = .returned (.bool r) ∧ Drawn0 w w' := by
  have HR0 := Aside0.mk hr0
  have HC0 := Aside0.mk hc0
  clear hr0 hc0
  have HR1 := Aside0.mk hr1
  have HC1 := Aside0.mk hc1
  clear hr1 hc1
  have H : (stratumlaw09_moved.l0 k l0 l1 a2 a3 0) = some r := h
  clear h
  have H' := Aside0.mk H
  clear H
  go_enter Try.func20, Try.ntmps20
  go_wp2
  go_loopg [9] k (fun kq v9 w' => ∃ (x9_1 : Int), v9 = .int .i64 x9_1 ∧ Aside0 (stratumlaw09_moved.l0 kq l0 l1 a2 a3 x9_1 = some r) ∧ Aside0 (kq ≤ k) ∧ Drawn0 w w')
  case atStart => exact ⟨(0), (by first | rfl | (simp; done) | (simp [*]; done)), H', ⟨Nat.le_refl _⟩, by repeat (first | exact Drawn0.refl _ | apply Drawn0.step)⟩
  case round =>
    clear H'
    try clear c1
    try clear c2
    try clear p2
    obtain ⟨x9_1, rfl, HA, HK1, ⟨m1, rfl⟩⟩ := hrel
    cases gk with
    | zero => exact absurd HA.out (by simp [stratumlaw09_moved.l0])
    | succ k1 =>
      have H := HA.out
      clear HA
      simp only [stratumlaw09_moved.l0] at H
      have HC5 := Aside0.mk H
      clear H
      go_upto_region 2 with (fail)
      go_cut [19] (fun v19 wc => ∃ (kq : Nat) (x19_4 : Bool), v19 = .bool x19_4 ∧ Aside0 (stratumlaw09_moved.j1 kq l0 l1 a2 a3 x9_1 x19_4 = some r) ∧ Aside0 (kq ≤ k1) ∧ Drawn0 w wc)
      case first =>
        have H := HC5.out
        clear HC5
        by_cases c6 : x9_1 < (l0.length : Int)
        · rw [if_pos c6] at H
          have c6b0 : decide (x9_1 < (l0.length : Int)) = true := decide_eq_true c6
          clear c6
          (first | rw [c6b0] | (simp only [i64_w, i32_w]; rw [c6b0]) | skip)
          have H' := Aside0.mk H
          clear H
          go_wp2
          go_meet
          case rel => exact ⟨_, (decide (x9_1 < (l1.length : Int))), (by first | rfl | (simp; done) | (simp [*]; done)), H', ⟨by have := HK1.out; first | omega | exact Nat.le_refl _⟩, by repeat (first | exact Drawn0.refl _ | apply Drawn0.step)⟩
        · rw [if_neg c6] at H
          have c6b0 : decide (x9_1 < (l0.length : Int)) = false := decide_eq_false c6
          clear c6
          (first | rw [c6b0] | (simp only [i64_w, i32_w]; rw [c6b0]) | skip)
          have H' := Aside0.mk H
          clear H
          go_wp2
          go_meet
          case rel => exact ⟨_, (false), (by first | rfl | (simp; done) | (simp [*]; done)), H', ⟨by have := HK1.out; first | omega | exact Nat.le_refl _⟩, by repeat (first | exact Drawn0.refl _ | apply Drawn0.step)⟩
      case rest =>
        clear HC5
        try clear c1
        try clear c2
        try clear p2
        try clear c6
        try clear c6b0
        try clear p2
        obtain ⟨kq, x19_4, rfl, HA, HJ4, ⟨mc4, rfl⟩⟩ := hcut
        cases kq with
        | zero => exact absurd HA.out (by simp [stratumlaw09_moved.j1])
        | succ kj4 =>
          have H := HA.out
          clear HA
          simp only [stratumlaw09_moved.j1] at H
          by_cases c7 : x19_4 = true
          · subst c7
            have H1 : (if 0 ≤ x9_1 then (if x9_1 < (l0.length : Int) then (if ((rd_T47 l0 x9_1).f3) = a2 then (if x9_1 < (l1.length : Int) then (if (rd l1 x9_1) = a3 then (some true) else (stratumlaw09_moved.l0 kj4 l0 l1 a2 a3 (wrap64 (x9_1 + 1)))) else (none)) else (stratumlaw09_moved.l0 kj4 l0 l1 a2 a3 (wrap64 (x9_1 + 1)))) else (none)) else (none)) = some r := by rw [if_pos rfl] at H; exact H
            clear H
            have H := H1
            clear H1
            by_cases c8 : 0 ≤ x9_1
            · rw [if_pos c8] at H
              have c8b0 : decide (0 ≤ x9_1) = true := decide_eq_true c8
              clear c8
              by_cases c9 : x9_1 < (l0.length : Int)
              · rw [if_pos c9] at H
                have c9b0 : decide (x9_1 < (l0.length : Int)) = true := decide_eq_true c9
                clear c9
                by_cases c10 : ((rd_T47 l0 x9_1).f3) = a2
                · rw [if_pos c10] at H
                  have c10b0 : (((rd_T47 l0 x9_1).f3) == a2) = true := beq_iff_eq.mpr c10
                  have c10b1 : (((rd_T47 l0 x9_1).f3) != a2) = false := bne_eq_false_iff_eq.mpr c10
                  clear c10
                  by_cases c11 : x9_1 < (l1.length : Int)
                  · rw [if_pos c11] at H
                    have c11b0 : decide (x9_1 < (l1.length : Int)) = true := decide_eq_true c11
                    clear c11
                    by_cases c12 : (rd l1 x9_1) = a3
                    · rw [if_pos c12] at H
                      have c12b0 : ((rd l1 x9_1) == a3) = true := beq_iff_eq.mpr c12
                      have c12b1 : ((rd l1 x9_1) != a3) = false := bne_eq_false_iff_eq.mpr c12
                      clear c12
                      obtain rfl := Option.some.inj H
                      have p210 : 0 ≤ (x9_1 : Int) := of_decide_eq_true (by first | (with_reducible assumption) | assumption)
                      have q210 : x9_1 < (l0.length : Int) := of_decide_eq_true (by first | (with_reducible assumption) | assumption)
                      obtain ⟨ad210, e210, hx210_0, hx210_1, hx210_2, hx210_3, hx210_4⟩ := at_T47 HR0.out x9_1 p210 q210
                      cases e210
                      replace p210 := eq_true p210
                      replace q210 := eq_true q210
                      have p211 : 0 ≤ (x9_1 : Int) := of_decide_eq_true (by first | (with_reducible assumption) | assumption)
                      have q211 : x9_1 < (l1.length : Int) := of_decide_eq_true (by first | (with_reducible assumption) | assumption)
                      obtain ⟨ad211, e211, hx211_0⟩ := Kd.at_int HR1.out x9_1 p211 q211
                      cases e211
                      replace p211 := eq_true p211
                      replace q211 := eq_true q211
                      go_wp2
                      go_ret
                      exact ⟨by first | rfl | (simp; done) | (simp [*]; done), by repeat (first | exact Drawn0.refl _ | apply Drawn0.step)⟩
                    · rw [if_neg c12] at H
                      have c12b0 : ((rd l1 x9_1) == a3) = false := beq_eq_false_iff_ne.mpr c12
                      have c12b1 : ((rd l1 x9_1) != a3) = true := bne_iff_ne.mpr c12
                      have H' := Aside0.mk H
                      clear H
                      have p210 : 0 ≤ (x9_1 : Int) := of_decide_eq_true (by first | (with_reducible assumption) | assumption)
                      have q210 : x9_1 < (l0.length : Int) := of_decide_eq_true (by first | (with_reducible assumption) | assumption)
                      obtain ⟨ad210, e210, hx210_0, hx210_1, hx210_2, hx210_3, hx210_4⟩ := at_T47 HR0.out x9_1 p210 q210
                      cases e210
                      replace p210 := eq_true p210
                      replace q210 := eq_true q210
                      have p211 : 0 ≤ (x9_1 : Int) := of_decide_eq_true (by first | (with_reducible assumption) | assumption)
                      have q211 : x9_1 < (l1.length : Int) := of_decide_eq_true (by first | (with_reducible assumption) | assumption)
                      obtain ⟨ad211, e211, hx211_0⟩ := Kd.at_int HR1.out x9_1 p211 q211
                      cases e211
                      replace p211 := eq_true p211
                      replace q211 := eq_true q211
                      go_wp2
                      go_roundg kj4
                      case measure => have := HK1.out; have := HJ4.out; omega
                      case rel => exact ⟨(wrap64 (x9_1 + 1)), (by first | rfl | (simp; done) | (simp [*]; done)), H', ⟨by have := HK1.out; have := HJ4.out; omega⟩, by repeat (first | exact Drawn0.refl _ | apply Drawn0.step)⟩
                  · rw [if_neg c11] at H
                    exact absurd H (by simp)
                · rw [if_neg c10] at H
                  have c10b0 : (((rd_T47 l0 x9_1).f3) == a2) = false := beq_eq_false_iff_ne.mpr c10
                  have c10b1 : (((rd_T47 l0 x9_1).f3) != a2) = true := bne_iff_ne.mpr c10
                  have H' := Aside0.mk H
                  clear H
                  have p210 : 0 ≤ (x9_1 : Int) := of_decide_eq_true (by first | (with_reducible assumption) | assumption)
                  have q210 : x9_1 < (l0.length : Int) := of_decide_eq_true (by first | (with_reducible assumption) | assumption)
                  obtain ⟨ad210, e210, hx210_0, hx210_1, hx210_2, hx210_3, hx210_4⟩ := at_T47 HR0.out x9_1 p210 q210
                  cases e210
                  replace p210 := eq_true p210
                  replace q210 := eq_true q210
                  go_wp2
                  go_roundg kj4
                  case measure => have := HK1.out; have := HJ4.out; omega
                  case rel => exact ⟨(wrap64 (x9_1 + 1)), (by first | rfl | (simp; done) | (simp [*]; done)), H', ⟨by have := HK1.out; have := HJ4.out; omega⟩, by repeat (first | exact Drawn0.refl _ | apply Drawn0.step)⟩
              · rw [if_neg c9] at H
                exact absurd H (by simp)
            · rw [if_neg c8] at H
              exact absurd H (by simp)
          · replace c7 := Bool.eq_false_iff.mpr c7
            subst c7
            have H1 : (some false) = some r := by rw [if_neg (show ¬ (false = true) by decide)] at H; exact H
            clear H
            have H := H1
            clear H1
            obtain rfl := Option.some.inj H
            go_wp2
            go_ret
            exact ⟨by first | rfl | (simp; done) | (simp [*]; done), by repeat (first | exact Drawn0.refl _ | apply Drawn0.step)⟩
end Go.Proofs.Ytbdcndkafaajpaa.X
end
section
set_option linter.unusedVariables false
set_option linter.unusedSimpArgs false
namespace Go.Proofs.Ytbdcndkafaajpaa.A
open Go.RowKit Go.Proofs.Ytbdcndkafaajpaa.X Go.Proofs.Ytbdcndkafaajpaa.L Go.Proofs.Ytbdcndkafaajpaa.T Go.Proofs.YtbdcndkafaajpaaW.PrintWords Go.Proofs.YtbdcndkafaajpaaW.PrintLast Go.Proofs.YtbdcndkafaajpaaW.PrintMore
open Go.Proofs.Ytbdcndkafaajpaa.P (Nd EO Res hd isT isM takeM mxl comb mk1 StD VeD EvD Out overLex schemaO valueO exprW valueW opn isOp isMt Pw NR)
theorem bytes_nums (y : ByteArray) : bytesOf y = T.nums y.data.toList := rfl
theorem nums_len' (l : List UInt8) : (T.nums l).length = l.length := List.length_map _
def SameT (a b : L.Tok) : Prop := b.kind = a.kind ∧ b.text = a.text ∧ b.num = a.num
def placesOf (l : List L.Tok) : List Int := l.map fun t => (t.at' : Int)
theorem spaced_lx (s : ByteArray) (pads : List Int) : ∀ (d : Nat) (p l : List UInt8) (ts : List L.Tok) (i : Nat) (acc : List UInt8) (ps : List Int), l.length ≤ d → s.data.toList = p ++ l → lx p.length l = .toks ts →
    ∃ B us, spW s pads (ts.map toS) i (T.nums acc, ps) = (T.nums (acc ++ B), ps ++ placesOf us) ∧ lx acc.length B = .toks us ∧ Pw SameT ts us ∧ headN isW B ∧ B.length ≤ ts.length * 5 + l.length := by
  intro d
  induction d with
  | zero =>
    intro p l ts i acc ps hd hs h
    obtain rfl : l = [] := List.length_eq_zero_iff.1 (by omega)
    rw [lx_end rfl] at h; cases h
    obtain ⟨b1, b2, b3⟩ := blank_all (padAt pads i)
    refine ⟨(blankW (padAt pads i)).data.toList, [⟨0, [], 0, acc.length + (blankW (padAt pads i)).data.toList.length, acc.length + (blankW (padAt pads i)).data.toList.length⟩], ?_, lx_end (gs_all b2), ⟨⟨rfl, rfl, rfl⟩, trivial⟩, b3, by rw [← size_len]; simp; omega⟩
    show spStep s pads i _ (T.nums acc, ps) = _
    unfold spStep placesOf
    have hz : bytesOf (pieceB s (toS ⟨0, [], 0, p.length + ([] : List UInt8).length, p.length + ([] : List UInt8).length⟩)) = [] := by
      apply List.eq_nil_of_length_eq_zero
      rw [bytesOf_len]
      unfold pieceB
      split
      · rw [ByteArray.size_extract]
        show min (((p.length + ([] : List UInt8).length : Nat) : Int)).toNat s.size - (((p.length + ([] : List UInt8).length : Nat) : Int)).toNat = 0
        omega
      · rfl
    simp only [hz, List.append_nil, bytes_nums, nums_app, nums_len', List.map_cons, List.map_nil, List.length_append]
  | succ d ih =>
    intro p l ts i acc ps hd hs h
    obtain ⟨b1, b2, b3⟩ := blank_all (padAt pads i)
    rcases lx_cut p.length l with ⟨q, hq, e⟩ | ⟨g, w, r, t, rfl, hg, ht, hw, e⟩ | ⟨g, m, a, e, rfl, hg, hm, hne, ht, h2⟩
    · rw [e] at h; cases h
      refine ⟨(blankW (padAt pads i)).data.toList, [⟨0, [], 0, acc.length + (blankW (padAt pads i)).data.toList.length, acc.length + (blankW (padAt pads i)).data.toList.length⟩], ?_, lx_end (gs_all b2), ⟨⟨rfl, rfl, rfl⟩, trivial⟩, b3, by rw [← size_len]; simp; omega⟩
      show spStep s pads i _ (T.nums acc, ps) = _
      unfold spStep placesOf
      have hz : bytesOf (pieceB s (toS ⟨0, [], 0, p.length + l.length, p.length + l.length⟩)) = [] := by
        apply List.eq_nil_of_length_eq_zero
        rw [bytesOf_len]
        unfold pieceB
        split
        · rw [ByteArray.size_extract]
          show min (((p.length + l.length : Nat) : Int)).toNat s.size - (((p.length + l.length : Nat) : Int)).toNat = 0
          omega
        · rfl
      simp only [hz, List.append_nil, bytes_nums, nums_app, nums_len', List.map_cons, List.map_nil, List.length_append]
    · have hl2 := tok_len ht
      rw [e] at h
      obtain ⟨l', h1, rfl⟩ := push_toks h
      obtain ⟨bb, hbb⟩ : ∃ bb, bb = (blankW (padAt pads i)).data.toList := ⟨_, rfl⟩
      have sp : p ++ (g ++ (w ++ r)) = (p ++ g ++ w) ++ r := by simp only [List.append_assoc]
      have lp : (p ++ g ++ w).length = p.length + g.length + w.length := by simp only [List.length_append]
      obtain ⟨B, us, k1, k2, k3, k4, k5⟩ := ih (p ++ g ++ w) r l' (i + 1) (acc ++ bb ++ w) (ps ++ [((acc.length + bb.length : Nat) : Int)]) (by simp only [List.length_append] at hd; omega) (by rw [hs, sp]) (by rw [lp]; exact h1)
      have hpc : bytesOf (pieceB s (toS (t.at_ (p.length + g.length)))) = T.nums w := by
        rw [bytes_nums]
        congr 1
        unfold pieceB
        have hsz : s.size = p.length + g.length + w.length + r.length := by rw [size_len, hs]; simp only [List.length_append]; omega
        have c : 0 ≤ (toS (t.at_ (p.length + g.length))).f3 ∧ (toS (t.at_ (p.length + g.length))).f3 ≤ (toS (t.at_ (p.length + g.length))).f4 ∧ (toS (t.at_ (p.length + g.length))).f4 ≤ (s.size : Int) := by
          refine ⟨?_, ?_, ?_⟩
          · show (0 : Int) ≤ ((p.length + g.length : Nat) : Int); omega
          · show ((p.length + g.length : Nat) : Int) ≤ ((p.length + g.length + t.len : Nat) : Int); omega
          · show ((p.length + g.length + t.len : Nat) : Int) ≤ (s.size : Int); omega
        rw [if_pos c, ext_list, hs]
        show ((p ++ (g ++ (w ++ r))).drop (((p.length + g.length : Nat) : Int)).toNat).take ((((p.length + g.length + t.len : Nat) : Int)).toNat - (((p.length + g.length : Nat) : Int)).toNat) = w
        rw [Int.toNat_natCast, Int.toNat_natCast, Nat.add_sub_cancel_left, ← List.append_assoc, ← List.length_append, List.drop_left, ← hw, List.take_left]
      refine ⟨bb ++ (w ++ B), (t.at_ (acc.length + bb.length)) :: us, ?_, ?_, ⟨⟨rfl, rfl, rfl⟩, k3⟩, ?_, ?_⟩
      · show spW s pads (l'.map toS) (i + 1) (spStep s pads i (toS (t.at_ (p.length + g.length))) (T.nums acc, ps)) = _
        have hst : spStep s pads i (toS (t.at_ (p.length + g.length))) (T.nums acc, ps) = (T.nums (acc ++ bb ++ w), ps ++ [((acc.length + bb.length : Nat) : Int)]) := by
          unfold spStep
          simp only [hpc, bytes_nums, nums_app, nums_len', ← hbb, List.length_append]
        rw [hst, k1]
        simp only [List.append_assoc, placesOf, List.map_cons, List.cons_append, List.nil_append]
        rfl
      · rw [lx_mk (by rw [hbb]; exact b2) (tok_loc ht hw (stop_of k4)) hw]
        rw [List.length_append, List.length_append] at k2
        rw [k2]; rfl
      · rw [hbb]
        cases hb : (blankW (padAt pads i)).data.toList with
        | nil =>
          exfalso
          have : ∀ j, (blanks.getD j ⟨#[]⟩).data.toList = [] → 8 ≤ j := by
            intro j hj
            match j, hj with
            | 0, hj => exact absurd hj (by decide)
            | 1, hj => exact absurd hj (by decide)
            | 2, hj => exact absurd hj (by decide)
            | 3, hj => exact absurd hj (by decide)
            | 4, hj => exact absurd hj (by decide)
            | 5, hj => exact absurd hj (by decide)
            | 6, hj => exact absurd hj (by decide)
            | 7, hj => exact absurd hj (by decide)
            | j + 8, _ => omega
          have := this _ hb
          omega
        | cons x xs =>
          rw [hb] at b3
          exact headN_cons (b3 x xs rfl)
      · have : bb.length ≤ 5 := by rw [hbb, ← size_len]; exact b1
        simp only [List.length_append, List.length_cons]
        omega
    · rw [h2] at h; cases h
def Mv (L : List Tk) (ps : List Int) (p q : Int) : Prop := ∃ j, j < L.length ∧ j < ps.length ∧ (L.getD j z47).f3 = p ∧ ps.getD j 0 = q
theorem mv_cons {L : List Tk} {ps : List Int} {p q : Int} (t : Tk) (x : Int) (h : Mv L ps p q) : Mv (t :: L) (x :: ps) p q := by
  obtain ⟨j, h1, h2, h3, h4⟩ := h
  exact ⟨j + 1, by simpa using h1, by simpa using h2, by simpa using h3, by simpa using h4⟩
theorem pw_mv : ∀ {ts us : List L.Tok}, Pw SameT ts us → Pw (P.TR (Mv (ts.map toS) (placesOf us))) (ts.map toS) (us.map toS)
  | [], [], _ => trivial
  | t :: ts, u :: us, h => by
    obtain ⟨⟨h1, h2, h3⟩, h4⟩ := h
    refine ⟨⟨?_, ?_, ?_, ⟨0, by simp, by simp [placesOf], rfl, rfl⟩⟩, (pw_mv h4).imp fun a b hab => ⟨hab.k, hab.s, hab.n, mv_cons _ _ hab.p⟩⟩
    · show ((u.kind : Int)) = (t.kind : Int); rw [h1]
    · show ba u.text = ba t.text; rw [h2]
    · show ((u.num : Int)) = (t.num : Int); rw [h3]
theorem blanks_plain {s : ByteArray} (hs : s.size ≤ 131072) {l : List L.Tok} (h : L.Lex s.data.toList = .toks l) (pads : List Int) :
    ∃ r, strOfNums (spW s pads (l.map toS) 0 ([], [])).1 = r ∧
      P.RR (Mv (l.map toS) (spW s pads (l.map toS) 0 ([], [])).2) (Pw (P.WR (Mv (l.map toS) (spW s pads (l.map toS) 0 ([], [])).2))) (P.schemaW (l.map toS)) (P.schemaW (match L.Lex r.data.toList with | .toks u => u.map toS | _ => [])) ∧
      P.RR (Mv (l.map toS) (spW s pads (l.map toS) 0 ([], [])).2) (Pw (P.NR (Mv (l.map toS) (spW s pads (l.map toS) 0 ([], [])).2))) (P.valueW (l.map toS)) (P.valueW (match L.Lex r.data.toList with | .toks u => u.map toS | _ => [])) ∧ ∃ u, L.Lex r.data.toList = .toks u := by
  obtain ⟨h1, h2, h3⟩ := Lex_toks h
  obtain ⟨B, us, k1, k2, k3, k4, k5⟩ := spaced_lx s pads _ [] s.data.toList l 0 [] [] (Nat.le_refl _) rfl h2
  have k1' : spW s pads (l.map toS) 0 ([], []) = (T.nums B, placesOf us) := k1
  have hB : L.Lex (ba B).data.toList = .toks us := by
    rw [ba_list, Lex_small]
    · exact k2
    · rw [size_len] at hs; omega
  have hTL : P.TL (Mv (l.map toS) (placesOf us)) (l.map toS) (us.map toS) := ⟨P.ends_of h2, pw_mv k3⟩
  refine ⟨ba B, by rw [k1']; exact strOf B, ?_, ?_, us, hB⟩
  · rw [k1', hB]; exact P.schemaW_rel hTL
  · rw [k1', hB]; exact P.valueW_rel hTL
theorem moved_ev (L : List Tk) (ps : List Int) (a b : Int) (hL : L.length ≤ 4611686018427387904) (j : Nat) (h1 : j < L.length) (h2 : j < ps.length) (h3 : (L.getD j z47).f3 = a) (h4 : ps.getD j 0 = b) : ∀ (d i : Nat), j - i ≤ d → i ≤ j → Ev (fun k => stratumlaw09_moved.l0 k L ps a b (i : Int)) true := by
  intro d
  induction d with
  | zero =>
    intro i hd hi
    obtain rfl : i = j := by omega
    refine Ev.step (fun k => by simp only [stratumlaw09_moved.l0]; rfl) ?_
    simp only [if_pos (show (i : Int) < (L.length : Int) by omega), decide_eq_true (show (i : Int) < (ps.length : Int) by omega)]
    refine Ev.step (fun k => by simp only [stratumlaw09_moved.j1]; rfl) ?_
    have e3 : (rd_T47 L (i : Int)).f3 = a := by unfold rd_T47; rw [Int.toNat_natCast]; exact h3
    have e4 : rd ps (i : Int) = b := by unfold rd; rw [Int.toNat_natCast]; exact h4
    simp only [if_true, if_pos (show (0 : Int) ≤ (i : Int) by omega), if_pos (show (i : Int) < (L.length : Int) by omega), if_pos e3, if_pos (show (i : Int) < (ps.length : Int) by omega), if_pos e4]
    exact Ev.now _
  | succ d ih =>
    intro i hd hi
    by_cases hij : i = j
    · exact ih i (by omega) hi
    · have hn : Ev (fun k => stratumlaw09_moved.l0 k L ps a b (wrap64 ((i : Int) + 1))) true := by
        have := ih (i + 1) (by omega) (by omega)
        rw [show wrap64 ((i : Int) + 1) = ((i + 1 : Nat) : Int) by unfold wrap64; omega]
        exact this
      refine Ev.step (fun k => by simp only [stratumlaw09_moved.l0]; rfl) ?_
      simp only [if_pos (show (i : Int) < (L.length : Int) by omega), decide_eq_true (show (i : Int) < (ps.length : Int) by omega)]
      refine Ev.step (fun k => by simp only [stratumlaw09_moved.j1]; rfl) ?_
      simp only [if_true, if_pos (show (0 : Int) ≤ (i : Int) by omega), if_pos (show (i : Int) < (L.length : Int) by omega), if_pos (show (i : Int) < (ps.length : Int) by omega)]
      by_cases e3 : (rd_T47 L (i : Int)).f3 = a
      · simp only [if_pos e3]
        by_cases e4 : rd ps (i : Int) = b
        · simp only [if_pos e4]; exact Ev.now _
        · simp only [if_neg e4]; exact hn
      · simp only [if_neg e3]; exact hn
theorem moved_true {L : List Tk} {ps : List Int} {a b : Int} (hL : L.length ≤ 4611686018427387904) (h : Mv L ps a b) : ∃ k, stratumlaw09_moved.f k L ps a b = some true := by
  obtain ⟨j, h1, h2, h3, h4⟩ := h
  exact (moved_ev L ps a b hL j h1 h2 h3 h4 _ 0 (Nat.le_refl _) (Nat.zero_le _)).rounds
end Go.Proofs.Ytbdcndkafaajpaa.A
end
section
set_option linter.unusedVariables false
set_option linter.unusedSimpArgs false
namespace Go.Proofs.Ytbdcndkafaajpaa.A
open Go.RowKit Go.Proofs.Ytbdcndkafaajpaa.X Go.Proofs.Ytbdcndkafaajpaa.L Go.Proofs.Ytbdcndkafaajpaa.T Go.Proofs.YtbdcndkafaajpaaW.PrintWords Go.Proofs.YtbdcndkafaajpaaW.PrintLast Go.Proofs.YtbdcndkafaajpaaW.PrintMore
open Go.Proofs.Ytbdcndkafaajpaa.P (Nd EO Res hd isT isM takeM mxl comb mk1 StD VeD EvD Out overLex schemaO valueO exprW valueW opn isOp isMt Pw NR)
def RdL (w : World) (v : Sl) (ns : List Nd) : Prop := v.n = ns.length ∧ Kd.C kn w v.A ns.length ns ∧ ns.length ≤ 9223372036854775807
theorem RdL.below {w w' : World} {v : Sl} {ns : List Nd} (h : RdL w v ns) (hb : Below w.heap.size w w') : RdL w' v ns := ⟨h.1, Kd.C_below h.2.1 hb, h.2.2⟩
theorem says_e {w : World} {base : Nat} {l : List Row} {o : Out (List EvD)} {v : Sl} {at_ er : Int} (hl : Rows w base l) (h : Says o v at_ er (fun ds => ∃ xs, Row.e v xs ∈ l ∧ All2 (EvT l) ds xs)) :
    ∃ ds, RdS w v ds ∧ ((er = 0 ∧ at_ = 0 ∧ o = .ok ds) ∨ (er ≠ 0 ∧ ds = [] ∧ o = .bad er at_)) := by
  cases o with
  | ok ds =>
    obtain ⟨h1, h2, xs, hm, ha⟩ := h
    exact ⟨ds, rdS_of hl hm ha, .inl ⟨h2, h1, rfl⟩⟩
  | bad e p =>
    obtain ⟨h1, h2, h3, h4⟩ := h
    subst h1 h2 h3
    exact ⟨[], RdS.nil w, .inr ⟨h4, rfl, rfl⟩⟩
theorem says_n {w : World} {base : Nat} {l : List Row} {o : Out (List Nd)} {v : Sl} {at_ er : Int} (hl : Rows w base l) (h : Says o v at_ er (fun ns => Row.n v ns ∈ l)) :
    ∃ ns, RdL w v ns ∧ ((er = 0 ∧ at_ = 0 ∧ o = .ok ns) ∨ (er ≠ 0 ∧ ns = [] ∧ o = .bad er at_)) := by
  cases o with
  | ok ns =>
    obtain ⟨h1, h2, hm⟩ := h
    have hr : Kd.R kn 49 w base (fun _ => True) v.v ns := hl.holds _ hm
    obtain ⟨e1, e2, e3⟩ := Kd.R_reads' hr
    exact ⟨ns, ⟨e1, e3, R_max9 hr⟩, .inl ⟨h2, h1, rfl⟩⟩
  | bad e p =>
    obtain ⟨h1, h2, h3, h4⟩ := h
    subst h1 h2 h3
    exact ⟨[], ⟨rfl, (Kd.R_reads' (Kd.R_nil kn 0 w 0 (fun _ => True))).2.2, Nat.zero_le _⟩, .inr ⟨h4, rfl, rfl⟩⟩
theorem events_rd {w : World} {v u : Sl} {ds es : List EvD} (h : RdS w v ds) (k : RdS w u es) (more : Int) (pl : Bool) :
    Calls Try.prog 14 #[.slice v.A v.n v.c, .slice u.A u.n u.c, .int .i64 more, .bool pl] w fun e w' => e = .returned (.bool (eventsB more pl ds es)) ∧ Below w.heap.size w w' := by
  obtain ⟨h1, ⟨xs, h2, h3⟩, h4⟩ := h
  obtain ⟨k1, ⟨ys, k2, k3⟩, k4⟩ := k
  have := events_calls w v.A u.A v.c u.c xs ys ds es more pl h2 k2 h3 k3 (by rw [← h3.len]; exact h4)
  rwa [← h3.len, ← k3.len, ← h1, ← k1] at this
theorem nodes_rd {w : World} {v u : Sl} {ds es : List Nd} (h : RdL w v ds) (k : RdL w u es) (more : Int) (pl : Bool) :
    Calls Try.prog 17 #[.slice v.A v.n v.c, .slice u.A u.n u.c, .int .i64 more, .bool pl] w fun e w' => e = .returned (.bool (nodesB more pl ds es)) ∧ Below w.heap.size w w' := by
  have := nodes_calls w v.A u.A v.c u.c ds es more pl h.2.1 k.2.1 h.2.2
  rwa [← h.1, ← k.1] at this
theorem rr_out {ρ : Int → Int → Prop} {α β : Type} {A : α → β → Prop} {x : Res α} {y : Res β} (h : P.RR ρ A x y) (hne : ∀ p, x ≠ .bad 0 p) : (∃ a b r s, x = .ok a r ∧ y = .ok b s ∧ A a b) ∨ ∃ e p q, e ≠ 0 ∧ x = .bad e p ∧ y = .bad e q ∧ ρ p q := by
  cases x with
  | ok a r =>
    cases y with
    | ok b s => exact .inl ⟨a, b, r, s, rfl, rfl, h.1⟩
    | bad e q => exact h.elim
  | bad e p =>
    cases y with
    | ok b s => exact h.elim
    | bad e' q =>
      obtain ⟨h1, h2⟩ := h
      subst h1
      have he : e' ≠ 0 := fun h0 => hne p (by rw [h0])
      exact .inr ⟨e', p, q, he, rfl, rfl, h2 he⟩
end Go.Proofs.Ytbdcndkafaajpaa.A
end
section
set_option linter.unusedVariables false
set_option linter.unusedSimpArgs false
namespace Go.Proofs.Ytbdcndkafaajpaa.A
open Go.RowKit Go.Proofs.Ytbdcndkafaajpaa.X Go.Proofs.Ytbdcndkafaajpaa.L Go.Proofs.Ytbdcndkafaajpaa.T Go.Proofs.YtbdcndkafaajpaaW.PrintWords Go.Proofs.YtbdcndkafaajpaaW.PrintLast Go.Proofs.YtbdcndkafaajpaaW.PrintMore
open Go.Proofs.Ytbdcndkafaajpaa.P (Nd EO Res hd isT isM takeM mxl comb mk1 StD VeD EvD Out overLex schemaO valueO exprW valueW opn isOp isMt Pw NR)
theorem lx_in : ∀ (d off : Nat) (l : List UInt8) (ts : List L.Tok), l.length ≤ d → lx off l = .toks ts → ∀ t ∈ ts, t.at' ≤ t.fin ∧ t.fin ≤ off + l.length := by
  intro d
  induction d with
  | zero =>
    intro off l ts hl h t ht
    obtain rfl : l = [] := List.length_eq_zero_iff.1 (by omega)
    rw [lx_end rfl] at h; cases h
    rw [List.mem_singleton.1 ht]
    simp
  | succ d ih =>
    intro off l ts hl h t ht
    rcases lx_cut off l with ⟨q, hq, e⟩ | ⟨g, w, r, t0, rfl, hg, ht0, hw, e⟩ | ⟨g, m, a, e, rfl, hg, hm, hne, ht0, h2⟩
    · rw [e] at h; cases h
      rw [List.mem_singleton.1 ht]
      simp
    · have hl2 := tok_len ht0
      rw [e] at h
      obtain ⟨l', h1, rfl⟩ := push_toks h
      rcases List.mem_cons.1 ht with rfl | ht
      · have h3 : (t0.at_ (off + g.length)).at' = off + g.length := rfl
        have h4 : (t0.at_ (off + g.length)).fin = off + g.length + t0.len := rfl
        simp only [List.length_append] at hl2 ⊢; omega
      · have := ih _ r l' (by simp only [List.length_append] at hl; omega) h1 t ht
        simp only [List.length_append]; omega
    · rw [h2] at h; cases h
theorem schema_bad {s : ByteArray} {a er : Nat} (h : L.Lex s.data.toList = .bad a er) : schemaO s = .bad (er : Int) (a : Int) := by unfold schemaO overLex; rw [h]
theorem value_bad' {s : ByteArray} {a er : Nat} (h : L.Lex s.data.toList = .bad a er) : valueO s = .bad (er : Int) (a : Int) := by unfold valueO overLex; rw [h]
theorem schema_toks {s : ByteArray} {l : List L.Tok} (h : L.Lex s.data.toList = .toks l) : schemaO s = P.outO (P.schemaW (l.map toS)) := by unfold schemaO overLex; rw [h]
theorem value_toks {s : ByteArray} {l : List L.Tok} (h : L.Lex s.data.toList = .toks l) : valueO s = P.outO (valueW (l.map toS)) := by unfold valueO overLex; rw [h]
theorem pair_e {s r : ByteArray} {L1 L2 : List Tk} {ρ : Int → Int → Prop} {x1 x2 : List EvD} {e1 a1 e2 a2 : Int} (h1 : schemaO s = P.outO (P.schemaW L1)) (h2 : schemaO r = P.outO (P.schemaW L2)) (hr : P.RR ρ (Pw (P.WR ρ)) (P.schemaW L1) (P.schemaW L2))
    (s1 : (e1 = 0 ∧ a1 = 0 ∧ schemaO s = .ok x1) ∨ (e1 ≠ 0 ∧ x1 = [] ∧ schemaO s = .bad e1 a1)) (s2 : (e2 = 0 ∧ a2 = 0 ∧ schemaO r = .ok x2) ∨ (e2 ≠ 0 ∧ x2 = [] ∧ schemaO r = .bad e2 a2)) :
    e2 = e1 ∧ eventsB 0 false x1 x2 = true ∧ (e1 ≠ 0 → ρ a1 a2) := by
  rcases rr_out hr (P.schemaW_ne _) with ⟨a, b, _, _, ha, hb, hab⟩ | ⟨e, p, q, he, ha, hb, hab⟩
  · rw [h1, ha] at s1
    rw [h2, hb] at s2
    rcases s1 with ⟨k1, k2, k3⟩ | ⟨_, _, k3⟩
    · rcases s2 with ⟨m1, m2, m3⟩ | ⟨_, _, m3⟩
      · cases k3; cases m3
        exact ⟨by rw [k1, m1], eventsB_of (ρ := ρ) (fun h => by cases h) hab, fun h => absurd k1 h⟩
      · cases m3
    · cases k3
  · rw [h1, ha] at s1
    rw [h2, hb] at s2
    rcases s1 with ⟨_, _, k3⟩ | ⟨_, k2, k3⟩
    · cases k3
    · rcases s2 with ⟨_, _, m3⟩ | ⟨_, m2, m3⟩
      · cases m3
      · cases k3; cases m3
        subst k2 m2
        exact ⟨rfl, rfl, fun _ => hab⟩
theorem pair_n {s r : ByteArray} {L1 L2 : List Tk} {ρ : Int → Int → Prop} {x1 x2 : List Nd} {e1 a1 e2 a2 : Int} (h1 : valueO s = P.outO (valueW L1)) (h2 : valueO r = P.outO (valueW L2)) (hr : P.RR ρ (Pw (P.NR ρ)) (valueW L1) (valueW L2))
    (s1 : (e1 = 0 ∧ a1 = 0 ∧ valueO s = .ok x1) ∨ (e1 ≠ 0 ∧ x1 = [] ∧ valueO s = .bad e1 a1)) (s2 : (e2 = 0 ∧ a2 = 0 ∧ valueO r = .ok x2) ∨ (e2 ≠ 0 ∧ x2 = [] ∧ valueO r = .bad e2 a2)) :
    e2 = e1 ∧ nodesB 0 false x1 x2 = true ∧ (e1 ≠ 0 → ρ a1 a2) := by
  rcases rr_out hr (P.valueW_ne _) with ⟨a, b, _, _, ha, hb, hab⟩ | ⟨e, p, q, he, ha, hb, hab⟩
  · rw [h1, ha] at s1
    rw [h2, hb] at s2
    rcases s1 with ⟨k1, k2, k3⟩ | ⟨_, _, k3⟩
    · rcases s2 with ⟨m1, m2, m3⟩ | ⟨_, _, m3⟩
      · cases k3; cases m3
        exact ⟨by rw [k1, m1], nodesB_of (ρ := ρ) (fun h => by cases h) hab, fun h => absurd k1 h⟩
      · cases m3
    · cases k3
  · rw [h1, ha] at s1
    rw [h2, hb] at s2
    rcases s1 with ⟨_, _, k3⟩ | ⟨_, k2, k3⟩
    · cases k3
    · rcases s2 with ⟨_, _, m3⟩ | ⟨_, m2, m3⟩
      · cases m3
      · cases k3; cases m3
        subst k2 m2
        exact ⟨rfl, rfl, fun _ => hab⟩
set_option maxHeartbeats 32000000 in
set_option maxRecDepth 100000 in
theorem blanks_calls (w : World) (s : ByteArray) (A2 : Option Addr) (c2 : Nat) (pads : List Int) (h2 : Kd.C (Kd.int .u8) w A2 pads.length pads) (hp : pads.length ≤ 4611686018427387904) (hb : ∀ n ∈ pads, 0 ≤ n ∧ n < 256) :
    Calls Try.prog 5 #[.string s, .slice A2 pads.length c2] w fun e w' => e = .returned (.bool true) ∧ Below w.heap.size w w' := by
  have H2 := Aside0.mk h2
  have HPL := Aside0.mk hp
  have HPB := Aside0.mk hb
  clear h2 hp hb
  by_cases hs : s.size ≤ 131072
  · have d1 : decide ((s.size : Int) > 131072) = false := decide_eq_false (by omega)
    have HS := Aside0.mk hs
    clear hs
    obtain ⟨k, hk⟩ := (lexes_ev s).rounds
    cases hx : L.Lex s.data.toList with
    | bad a er =>
      rw [hx] at hk
      have hne : (er : Int) ≠ 0 := by
        rcases Lex_bad hx with ⟨_, _, h⟩ | ⟨_, _, _, h⟩ <;> omega
      have c1 : ((er : Int) != 0) = true := bne_iff_ne.2 hne
      have HE := Aside0.mk (schema_bad hx)
      have HV := Aside0.mk (value_bad' hx)
      have HLX := Aside0.mk (fun w => lex_Lex.calls k s [] (a : Int) (er : Int) w hk)
      clear hk hx hne
      go_enter Try.func5, Try.ntmps5
      go_wp2_with fail
      refine (awake_calls w).mono ?_
      rintro e w1 ⟨rfl, hb1⟩
      have HB1 := Aside0.mk hb1
      clear hb1
      go_wp2_with fail
      refine (HLX.out w1).mono ?_
      rintro e w2 ⟨v0, rfl, hr2, hb2⟩
      obtain ⟨At, ct, rfl⟩ := Kd.R_slice hr2
      have HB2 := Aside0.mk (below_step HB1.out hb2)
      clear hr2 hb2
      go_wp2_with fail
      refine (Schema_calls w2 s).mono ?_
      rintro e w3 ⟨⟨Av, nv, cv⟩, l, at_, er3, rfl, hrows, hb, hsays⟩
      rw [HE.out] at hsays
      obtain ⟨rfl, rfl, _, _⟩ := hsays
      have HB3 := Aside0.mk (below_step HB2.out hb)
      clear hrows hb
      obtain ⟨W3, hW3⟩ : ∃ W3, W3 = w3.alloc (.cells #[.slice Av nv cv] 27) := ⟨_, rfl⟩
      have HBW := Aside0.mk (below_step HB3.out (show Below w3.heap.size w3 W3 by rw [hW3]; exact below_alloc (Below.refl _ _) _))
      go_wp2_with fail
      rw [← hW3]
      clear hW3
      refine (Value_calls W3 s).mono ?_
      rintro e w4 ⟨⟨Aw, nw, cw⟩, l4, at4, er4, rfl, hrows, hb, hsays⟩
      rw [HV.out] at hsays
      obtain ⟨rfl, rfl, _, _⟩ := hsays
      have HB4 := Aside0.mk (below_step HBW.out hb)
      clear hrows hb
      go_wp2_with fail
      refine (HLX.out w4).mono ?_
      rintro e w5 ⟨v5, rfl, hr5, hb5⟩
      have HB5 := Aside0.mk (below_step HB4.out hb5)
      clear hr5 hb5
      go_wp2
      go_ret
      exact ⟨rfl, HB5.out⟩
    | toks tl =>
      rw [hx] at hk
      obtain ⟨r, hr, hrs, hrv, u, hu⟩ := blanks_plain HS.out hx pads
      rw [hu] at hrs hrv
      obtain ⟨hl1, hl2, hl3⟩ := Lex_toks hx
      have hat : ∀ t ∈ tl.map toS, 0 ≤ t.f3 ∧ t.f3 ≤ t.f4 ∧ t.f4 ≤ (s.size : Int) := by
        intro t ht
        obtain ⟨q, hq, rfl⟩ := List.mem_map.1 ht
        have := lx_in _ _ _ _ (Nat.le_refl _) hl2 q hq
        rw [size_len]
        refine ⟨?_, ?_, ?_⟩
        · show (0 : Int) ≤ (q.at' : Int); omega
        · show (q.at' : Int) ≤ (q.fin : Int); omega
        · show (q.fin : Int) ≤ _; omega
      obtain ⟨L, hL⟩ : ∃ L, L = tl.map toS := ⟨_, rfl⟩
      obtain ⟨ps, hps⟩ : ∃ ps, ps = (spW s pads L 0 ([], [])).2 := ⟨_, rfl⟩
      rw [← hL] at hat hrs hrv hr
      rw [← hps] at hrs hrv
      have hlen : L.length ≤ 1048577 := by rw [hL, List.length_map]; omega
      have hpl : ps.length = L.length := by rw [hps, (spW_len s pads L 0 ([], [])).2]; exact Nat.zero_add _
      have hk' : lex_Lex.f k s = some (L, 0, 0) := by rw [hk, hL]; rfl
      have HLX := Aside0.mk (fun w => lex_Lex.calls k s L 0 0 w hk')
      have HAT := Aside0.mk hat
      have HLN := Aside0.mk hlen
      have HPN := Aside0.mk hpl
      have HRS := Aside0.mk hrs
      have HRV := Aside0.mk hrv
      have HSO := Aside0.mk (schema_toks hx)
      have HVO := Aside0.mk (value_toks hx)
      rw [← hL] at HSO HVO
      have HSR := Aside0.mk (schema_toks hu)
      have HVR := Aside0.mk (value_toks hu)
      have HR := Aside0.mk hr
      have HPS := Aside0.mk hps
      clear hk hx hr hrs hrv hu hl1 hl2 hl3 hat hL hps hlen hpl hk'
      go_enter Try.func5, Try.ntmps5
      go_wp2_with fail
      refine (awake_calls w).mono ?_
      rintro e w1 ⟨rfl, hb1⟩
      have HB1 := Aside0.mk hb1
      clear hb1
      go_wp2_with fail
      refine (HLX.out w1).mono ?_
      rintro e w2 ⟨v0, rfl, hr2, hb2⟩
      obtain ⟨At, ct, rfl⟩ := Kd.R_slice hr2
      obtain ⟨_, hct, hC2⟩ := Kd.R_reads' hr2
      have HB2 := Aside0.mk (below_step HB1.out hb2)
      have HC2 := Aside0.mk hC2
      have HCT := Aside0.mk hct
      clear hr2 hb2 hC2 hct
      go_wp2_with fail
      refine (spaced_calls w2 s At A2 ct c2 L pads HC2.out (Kd.C_below H2.out HB2.out) HLN.out (by have := HS.out; omega) HPL.out HPB.out HAT.out).mono ?_
      rintro e w3 ⟨Ap, cp, rfl, hrp, hb3⟩
      rw [HR.out]
      rw [← HPS.out] at hrp ⊢
      obtain ⟨_, hcp, hC3⟩ := Kd.R_reads' hrp
      have HB3 := Aside0.mk (below_step HB2.out hb3)
      have HC3 := Aside0.mk (Kd.C_below HC2.out hb3)
      have HP3 := Aside0.mk hC3
      have HCP := Aside0.mk hcp
      clear hrp hb3 hC3 hcp
      go_wp2_with fail
      refine (Schema_calls w3 s).mono ?_
      rintro e w4 ⟨⟨Av, nv, cv⟩, l4, a1, e1, rfl, hrows, hb, hsays⟩
      obtain ⟨x1, hx1, hs1⟩ := says_e hrows hsays
      have HB4 := Aside0.mk (below_step HB3.out hb)
      have HC4 := Aside0.mk (Kd.C_below HC3.out hb)
      have HP4 := Aside0.mk (Kd.C_below HP3.out hb)
      have HX4 := Aside0.mk hx1
      have HS1 := Aside0.mk hs1
      clear hrows hb hsays hx1 hs1
      obtain ⟨W4, hW4⟩ : ∃ W4, W4 = w4.alloc (.cells #[.slice Av nv cv] 27) := ⟨_, rfl⟩
      have hbw4 : Below w4.heap.size w4 W4 := by rw [hW4]; exact below_alloc (Below.refl _ _) _
      have HBW4 := Aside0.mk hbw4
      have HK4 := Aside0.mk (show W4.heap[w4.heap.size]? = some (.cells #[.slice Av nv cv] 27 (0, 0)) by rw [hW4]; exact blk_new _ _)
      go_wp2_with fail
      rw [← hW4]
      clear hW4 hbw4
      refine (Schema_calls W4 r).mono ?_
      rintro e w5 ⟨⟨Bv, nb, cb⟩, l5, a2, e2, rfl, hrows, hb, hsays⟩
      obtain ⟨x2, hx2, hs2⟩ := says_e hrows hsays
      obtain ⟨he, hev, hmv⟩ := pair_e HSO.out HSR.out HRS.out HS1.out hs2
      subst he
      have HB5 := Aside0.mk (below_step (below_step HB4.out HBW4.out) hb)
      have HC5 := Aside0.mk (Kd.C_below (Kd.C_below HC4.out HBW4.out) hb)
      have HP5 := Aside0.mk (Kd.C_below (Kd.C_below HP4.out HBW4.out) hb)
      have HX5 := Aside0.mk ((HX4.out.below HBW4.out).below hb)
      have HY5 := Aside0.mk hx2
      have HK5 := Aside0.mk (blk_below HK4.out hb)
      have HEV := Aside0.mk hev
      have HMV := Aside0.mk hmv
      clear hrows hb hsays hx2 hs2 hev hmv
      obtain ⟨W5, hW5⟩ : ∃ W5, W5 = w5.alloc (.cells #[.slice Bv nb cb] 27) := ⟨_, rfl⟩
      have hbw5 : Below w5.heap.size w5 W5 := by rw [hW5]; exact below_alloc (Below.refl _ _) _
      have HBW5 := Aside0.mk hbw5
      have HJ5 := Aside0.mk (show W5.heap[w5.heap.size]? = some (.cells #[.slice Bv nb cb] 27 (0, 0)) by rw [hW5]; exact blk_new _ _)
      go_wp2_with fail
      rw [← hW5]
      clear hW5 hbw5
      refine (Value_calls W5 s).mono ?_
      rintro e w6 ⟨⟨Aw, nw, cw⟩, l6, a3, e3, rfl, hrows, hb, hsays⟩
      obtain ⟨y1, hy1, ht1⟩ := says_n hrows hsays
      have HB6 := Aside0.mk (below_step (below_step HB5.out HBW5.out) hb)
      have HC6 := Aside0.mk (Kd.C_below (Kd.C_below HC5.out HBW5.out) hb)
      have HP6 := Aside0.mk (Kd.C_below (Kd.C_below HP5.out HBW5.out) hb)
      have HX6 := Aside0.mk ((HX5.out.below HBW5.out).below hb)
      have HY6 := Aside0.mk ((HY5.out.below HBW5.out).below hb)
      have HK6 := Aside0.mk (blk_below (blk_below HK5.out HBW5.out) hb)
      have HJ6 := Aside0.mk (blk_below HJ5.out hb)
      have HN6 := Aside0.mk hy1
      have HT1 := Aside0.mk ht1
      clear hrows hb hsays hy1 ht1
      go_wp2_with fail
      refine (Value_calls w6 r).mono ?_
      rintro e w7 ⟨⟨Bw, mw, dw⟩, l7, a4, e4, rfl, hrows, hb, hsays⟩
      obtain ⟨y2, hy2, ht2⟩ := says_n hrows hsays
      obtain ⟨he, hnv, hmv⟩ := pair_n HVO.out HVR.out HRV.out HT1.out ht2
      subst he
      have HB7 := Aside0.mk (below_step HB6.out hb)
      have HEC : Aside0 (∀ W', Below w7.heap.size w7 W' → Calls Try.prog 14 #[.slice Av nv cv, .slice Bv nb cb, .int .i64 0, .bool false] W' fun e w' => e = .returned (.bool true) ∧ Below W'.heap.size W' w') := ⟨fun W' h => by
        have := events_rd ((HX6.out.below hb).below h) ((HY6.out.below hb).below h) 0 false
        rwa [HEV.out] at this⟩
      have HNC : Aside0 (∀ W', Below w7.heap.size w7 W' → Calls Try.prog 17 #[.slice Aw nw cw, .slice Bw mw dw, .int .i64 0, .bool false] W' fun e w' => e = .returned (.bool true) ∧ Below W'.heap.size W' w') := ⟨fun W' h => by
        have := nodes_rd ((HN6.out.below hb).below h) (hy2.below h) 0 false
        rwa [hnv] at this⟩
      have HM1 : Aside0 (e2 ≠ 0 → ∀ W', Below w7.heap.size w7 W' → Calls Try.prog 20 #[.slice At L.length ct, .slice Ap ps.length cp, .int .i64 a1, .int .i64 a2] W' fun e w' => e = .returned (.bool true) ∧ Below W'.heap.size W' w') := ⟨fun hne W' h => by
        obtain ⟨k, hk⟩ := moved_true (by have := HLN.out; omega) (HMV.out hne)
        exact (stratumlaw09_moved.calls k At ct L Ap cp ps a1 a2 true W' (Kd.C_below (Kd.C_below HC6.out hb) h) HCT.out (Kd.C_below (Kd.C_below HP6.out hb) h) HCP.out hk).mono fun e w' ⟨h1, h2⟩ => ⟨h1, h2.below⟩⟩
      have HM2 : Aside0 (e4 ≠ 0 → ∀ W', Below w7.heap.size w7 W' → Calls Try.prog 20 #[.slice At L.length ct, .slice Ap ps.length cp, .int .i64 a3, .int .i64 a4] W' fun e w' => e = .returned (.bool true) ∧ Below W'.heap.size W' w') := ⟨fun hne W' h => by
        obtain ⟨k, hk⟩ := moved_true (by have := HLN.out; omega) (hmv hne)
        exact (stratumlaw09_moved.calls k At ct L Ap cp ps a3 a4 true W' (Kd.C_below (Kd.C_below HC6.out hb) h) HCT.out (Kd.C_below (Kd.C_below HP6.out hb) h) HCP.out hk).mono fun e w' ⟨h1, h2⟩ => ⟨h1, h2.below⟩⟩
      have HKX : Aside0 (∀ W', Below w7.heap.size w7 W' → W'.cell? ⟨w4.heap.size, 0, none⟩ = some (.slice Av nv cv) ∧ W'.cell? ⟨w5.heap.size, 0, none⟩ = some (.slice Bv nb cb)) := ⟨fun W' h => ⟨(blk_cell (blk_below (blk_below HK6.out hb) h) 0).trans rfl, (blk_cell (blk_below (blk_below HJ6.out hb) h) 0).trans rfl⟩⟩
      clear hrows hb hsays hy2 ht2 hnv hmv
      by_cases z1 : e2 = 0 <;> by_cases z2 : e4 = 0
      all_goals
        (first | subst z1 | have HM1 := Aside0.mk (HM1.out z1)) 
        (first | subst z2 | have HM2 := Aside0.mk (HM2.out z2))
        have hbS := Below.refl w7.heap.size w7
        obtain ⟨p6, p9⟩ := HKX.out _ hbS
        go_wp2_with (first
          | (go_at_call 14; (with_reducible refine (HEC.out _ hbS).mono ?_); rintro e w8 ⟨rfl, hb⟩; have hbS := below_step hbS hb; obtain ⟨p6, p9⟩ := HKX.out _ hbS; clear hb)
          | (go_at_call 17; (with_reducible refine (HNC.out _ hbS).mono ?_); rintro e w8 ⟨rfl, hb⟩; have hbS := below_step hbS hb; obtain ⟨p6, p9⟩ := HKX.out _ hbS; clear hb)
          | (go_at_call 20; (first | (with_reducible refine (HM1.out _ hbS).mono ?_) | (with_reducible refine (HM2.out _ hbS).mono ?_)); rintro e w8 ⟨rfl, hb⟩; have hbS := below_step hbS hb; obtain ⟨p6, p9⟩ := HKX.out _ hbS; clear hb)
          | fail)
        go_ret
        exact ⟨rfl, Below.trans HB7.out (hbS.mono HB7.out.size)⟩
  · have d1 : decide ((s.size : Int) > 131072) = true := decide_eq_true (by omega)
    clear hs
    go_enter Try.func5, Try.ntmps5
    go_wp2_with fail
    refine (awake_calls w).mono ?_
    rintro e w1 ⟨rfl, hb1⟩
    have HB1 := Aside0.mk hb1
    clear hb1
    go_wp2
    go_ret
    exact ⟨rfl, HB1.out⟩
end Go.Proofs.Ytbdcndkafaajpaa.A
end
